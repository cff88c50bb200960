/-
  Any bits cleaned, their key, any key's bits, and which of any two is ahead, are the document's: for every input. (FltKeys)
-/
import Derived.Test.YtageilidppcphaaPFltA
namespace Go.Proofs.Ytageilidppcphaa.Pure
open Go.RowKit Go.Proofs.Ytageilidppcphaa.PFlt Go.Proofs.YtageilidppcphaaW.PrintWords Go.Proofs.YtageilidppcphaaW.PrintLast

theorem parts_f {a : Int} (h : U a) : astragalref04_Parts.f a = some (decide (a ≥ 9223372036854775808), a / 4503599627370496 % 2048, a % 4503599627370496) := by
  obtain ⟨h1, h2⟩ := h
  unfold astragalref04_Parts.f
  rw [Int.tdiv_eq_ediv_of_nonneg h1, IntKind.wrap_u64, Int.tmod_eq_emod_of_nonneg (by omega), Int.tmod_eq_emod_of_nonneg h1]
  congr 3
  omega
theorem isnan_f {a : Int} (h : U a) : astragalref04_IsNan.f a = some (decide (a % 9223372036854775808 > 9218868437227405312)) := by
  unfold astragalref04_IsNan.f
  rw [parts_f h]
  simp only [Option.bind_some]
  obtain ⟨h1, h2⟩ := h
  split
  · congr 1
    rw [Bool.eq_iff_iff, bne_iff_ne, decide_eq_true_iff]
    omega
  · congr 1
    symm
    rw [decide_eq_false_iff_not]
    omega
theorem rclean_f {a : Int} (h : U a) : astragalref04_Clean.f a = some (cl a) := by
  unfold astragalref04_Clean.f
  rw [isnan_f h]
  simp only [Option.bind_some, cl, decide_eq_true_iff]
  split <;> rfl
theorem rkey_f {a : Int} (h : U a) : astragalref04_Key.f a = some (ck a) := by
  have h2 := cl_U h
  unfold astragalref04_Key.f
  rw [rclean_f h]
  simp only [Option.bind_some]
  rw [parts_f h2]
  simp only [Option.bind_some, ck, Hand.keyOf, decide_eq_true_iff, IntKind.wrap_u64]
  obtain ⟨h3, h4⟩ := h2
  split <;> congr 1 <;> omega
theorem rcompare_f {a b : Int} (ha : U a) (hb : U b) : astragalref04_Compare.f a b = some (cmp (ck a) (ck b)) := by
  unfold astragalref04_Compare.f
  rw [rkey_f ha, rkey_f hb]
  simp only [Option.bind_some, cmp]
  split
  · rfl
  · split <;> rfl
theorem rbits_f {k : Int} (h : U k) : astragalref04_Bits.f k = some (if k ≥ 9223372036854775808 then cl (k - 9223372036854775808) else cl (18446744073709551615 - k)) := by
  unfold astragalref04_Bits.f
  obtain ⟨h1, h2⟩ := h
  simp only [IntKind.wrap_u64]
  split
  · rw [show (k - 9223372036854775808) % 18446744073709551616 = k - 9223372036854775808 by omega, rclean_f ⟨by omega, by omega⟩]; rfl
  · rw [show (18446744073709551615 - k) % 18446744073709551616 = 18446744073709551615 - k by omega, rclean_f ⟨by omega, by omega⟩]; rfl

theorem FltKeys : astragallaw04_FltKeys.Pure := by
  intro a b ha hb
  have ha := wf_u64 ha
  have hb := wf_u64 hb
  unfold astragallaw04_FltKeys.f
  rw [shown_true, clean_f ha, rclean_f ha, key_f ha, rkey_f ha, bits_f ha, rbits_f ha, compare_f ha hb, rcompare_f ha hb]
  simp only [Option.bind_some, if_true]
  decide
end Go.Proofs.Ytageilidppcphaa.Pure
