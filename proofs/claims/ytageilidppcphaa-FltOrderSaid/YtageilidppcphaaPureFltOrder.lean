/-
  Of any three float64s' bits there is one order; of two of which neither is ahead both are the same, cleaned: for every input. (FltOrder)
-/
import Derived.Test.YtageilidppcphaaPFltA
import Derived.Test.YtageilidppcphaaPFltx5
namespace Go.Proofs.Ytageilidppcphaa.Pure
open Go.RowKit Go.Proofs.Ytageilidppcphaa.PFlt Go.Proofs.YtageilidppcphaaW.PrintWords Go.Proofs.YtageilidppcphaaW.PrintLast

theorem key_inj {a b : Int} (ha : U a) (hb : U b) : (ck a = ck b) = (cl a = cl b) := by
  have h1 := cl_U ha
  have h2 := cl_U hb
  unfold U at h1 h2
  apply propext
  unfold ck Hand.keyOf
  split <;> split <;> omega
theorem FltOrder : astragallaw04_FltOrder.Pure := by
  intro a b c ha hb hc
  have ha := wf_u64 ha
  have hb := wf_u64 hb
  have hc := wf_u64 hc
  have e1 := key_inj ha hb
  unfold astragallaw04_FltOrder.f
  rw [shown_true, compare_f ha hb, compare_f hb hc, compare_f ha hc, compare_f hb ha, clean_f ha, clean_f hb]
  simp only [Option.bind_some, if_true]
  generalize ck a = x at *
  generalize ck b = y at *
  generalize ck c = z at *
  generalize cl a = p at *
  generalize cl b = q at *
  rcases (show x < y ∨ x = y ∨ y < x by omega) with h | h | h
  · have c1 : cmp x y = -1 := by unfold cmp; rw [if_pos h]
    have c2 : cmp y x = 1 := by unfold cmp; rw [if_neg (by omega), if_pos (by omega)]
    have hpq : ¬ p = q := by rw [← e1]; omega
    rw [c1, c2]
    rcases (show y < z ∨ y = z ∨ z < y by omega) with h2 | h2 | h2
    · have c3 : cmp y z = -1 := by unfold cmp; rw [if_pos h2]
      have c4 : cmp x z = -1 := by unfold cmp; rw [if_pos (by omega)]
      rw [c3, c4]; simp [hpq, wrap64]
    · have c3 : cmp y z = 0 := by unfold cmp; rw [if_neg (by omega), if_neg (by omega)]
      have c4 : cmp x z = -1 := by unfold cmp; rw [if_pos (by omega)]
      rw [c3, c4]; simp [hpq, wrap64]
    · have c3 : cmp y z = 1 := by unfold cmp; rw [if_neg (by omega), if_pos (by omega)]
      rw [c3]; simp [hpq, wrap64]
  · have c1 : cmp x y = 0 := by unfold cmp; rw [if_neg (by omega), if_neg (by omega)]
    have c2 : cmp y x = 0 := by unfold cmp; rw [if_neg (by omega), if_neg (by omega)]
    have hpq : p = q := by rw [← e1]; omega
    have c4 : cmp x z = cmp y z := by rw [h]
    rw [c1, c2, c4]
    rcases (show y < z ∨ y = z ∨ z < y by omega) with h2 | h2 | h2
    · have c3 : cmp y z = -1 := by unfold cmp; rw [if_pos h2]
      rw [c3]; simp [hpq, wrap64]
    · have c3 : cmp y z = 0 := by unfold cmp; rw [if_neg (by omega), if_neg (by omega)]
      rw [c3]; simp [hpq, wrap64]
    · have c3 : cmp y z = 1 := by unfold cmp; rw [if_neg (by omega), if_pos (by omega)]
      rw [c3]; simp [hpq, wrap64]
  · have c1 : cmp x y = 1 := by unfold cmp; rw [if_neg (by omega), if_pos (by omega)]
    have c2 : cmp y x = -1 := by unfold cmp; rw [if_pos h]
    have hpq : ¬ p = q := by rw [← e1]; omega
    rw [c1, c2]
    simp [hpq, wrap64]
end Go.Proofs.Ytageilidppcphaa.Pure
