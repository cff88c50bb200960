/-
  There and back bits are cleaned; keys of unlike clean bits are unlike: for every input. (FltBack)
-/
import Derived.Test.YtageilidppcphaaPFltA
namespace Go.Proofs.Ytageilidppcphaa.Pure
open Go.RowKit Go.Proofs.Ytageilidppcphaa.PFlt Go.Proofs.YtageilidppcphaaW.PrintWords Go.Proofs.YtageilidppcphaaW.PrintLast

theorem FltBack : astragallaw04_FltBack.Pure := by
  intro a b ha hb
  have ha := wf_u64 ha
  have hb := wf_u64 hb
  have h1 := cl_U ha
  have h2 := cl_U hb
  unfold astragallaw04_FltBack.f
  rw [shown_true, key_f ha, key_f hb, clean_f ha, clean_f hb]
  simp only [Option.bind_some, if_true]
  rw [bits_f (ck_U ha), clean_f h1]
  simp only [Option.bind_some]
  have e1 : cl (cl a) = cl a := by unfold cl; split <;> (try split) <;> omega
  have e2 : (if ck a ≥ 9223372036854775808 then cl (ck a - 9223372036854775808) else cl (18446744073709551615 - ck a)) = cl a := by
    have h3 := h1.1
    have h4 := h1.2
    unfold ck Hand.keyOf
    by_cases c : cl a ≥ 9223372036854775808
    · rw [if_pos c, if_neg (by omega), show 18446744073709551615 - (18446744073709551615 - cl a) = cl a by omega, e1]
    · rw [if_neg c, if_pos (by omega), show cl a + 9223372036854775808 - 9223372036854775808 = cl a by omega, e1]
  have e3 : (ck a == ck b) = (cl a == cl b) := by
    have h3 := h1.1
    have h4 := h1.2
    have h5 := h2.1
    have h6 := h2.2
    rw [Bool.eq_iff_iff, beq_iff_eq, beq_iff_eq]
    unfold ck Hand.keyOf
    split <;> split <;> omega
  rw [e1, e2, e3]
  simp
end Go.Proofs.Ytageilidppcphaa.Pure
