/-
  What few says, of chapter 14.
-/
import Derived.Test.YtnpfanmkjhpmlaaPZojx10
import Derived.Test.YtnpfanmkjhpmlaaPZojx11
import Derived.Test.YtnpfanmkjhpmlaaPZojx14
import Derived.Test.YtnpfanmkjhpmlaaZojB
namespace Go.Proofs.Ytnpfanmkjhpmlaa.Pure
open Go.RowKit Go.Proofs.Ytnpfanmkjhpmlaa.PZoj Go.Proofs.YtnpfanmkjhpmlaaW.PrintWords Go.Proofs.YtnpfanmkjhpmlaaW.PrintLast
theorem few_l (l : List S24) (kind : Int) (hl : l.length ≤ 140737488351232) : ∀ (j k i : Nat), (i + j = l.length ∨ i + j = 500) → i ≤ l.length → 2 * j + 2 < k → ∃ b, law14_few.l0 k l kind (i : Int) = some b ∧ (b = true → l.length ≤ 500 ∧ ∀ v ∈ l.drop i, v.f0 = kind ∨ v.f0 = 0) := by
  intro j
  induction j with
  | zero =>
    intro k i hi hil hk
    obtain ⟨k, rfl⟩ : ∃ m, k = m + 2 := ⟨k - 2, by omega⟩
    rw [law14_few.l0]
    rw [law14_few.j1, law14_few.j1]
    have hb : ∀ b, b = decide ((l.length : Int) ≤ 500) → i + 0 = l.length ∨ i + 0 = 500 → (b = true → l.length ≤ 500 ∧ ∀ v ∈ l.drop i, v.f0 = kind ∨ v.f0 = 0) := by
      rintro b rfl hi hb
      have := of_decide_eq_true hb
      refine ⟨by omega, ?_⟩
      rw [List.drop_eq_nil_of_le (by omega)]
      simp
    by_cases h : (i : Int) < l.length
    · rw [if_pos h, decide_eq_false (by omega), if_neg (by simp)]
      exact ⟨_, rfl, hb _ rfl hi⟩
    · rw [if_neg h, if_neg (by simp)]
      exact ⟨_, rfl, hb _ rfl hi⟩
  | succ j ih =>
    intro k i hi hil hk
    obtain ⟨k, rfl⟩ : ∃ m, k = m + 2 := ⟨k - 2, by omega⟩
    rw [law14_few.l0]
    rw [law14_few.j1, law14_few.j1]
    by_cases h : i < l.length
    · have hw : wrap64 ((i : Int) + 1) = ((i + 1 : Nat) : Int) := by unfold wrap64; omega
      rw [if_pos (by omega)]
      by_cases h5 : i < 500
      · rw [decide_eq_true (by omega), if_pos rfl, if_pos (by omega), if_pos (by omega), rd_at l i h, hw]
        obtain ⟨b, e, hb⟩ := ih k (i + 1) (by omega) (by omega) (by omega)
        rw [e, List.drop_eq_getElem_cons h]
        by_cases c1 : l[i].f0 = kind
        · rw [if_pos c1]
          refine ⟨b, rfl, fun q => ⟨(hb q).1, fun v hv => ?_⟩⟩
          rcases List.mem_cons.1 hv with rfl | hv
          · exact .inl c1
          · exact (hb q).2 v hv
        · rw [if_neg c1]
          by_cases c2 : l[i].f0 = 0
          · rw [if_pos c2]
            refine ⟨b, rfl, fun q => ⟨(hb q).1, fun v hv => ?_⟩⟩
            rcases List.mem_cons.1 hv with rfl | hv
            · exact .inr c2
            · exact (hb q).2 v hv
          · rw [if_neg c2]
            exact ⟨false, rfl, by simp⟩
      · rw [decide_eq_false (by omega), if_neg (by simp)]
        refine ⟨_, rfl, fun hb => ?_⟩
        have := of_decide_eq_true hb
        omega
    · rw [if_neg (by omega), if_neg (by simp)]
      refine ⟨_, rfl, fun hb => ?_⟩
      have := of_decide_eq_true hb
      refine ⟨by omega, ?_⟩
      rw [List.drop_eq_nil_of_le (by omega)]
      simp
theorem few_f (l : List S24) (kind : Int) (hl : l.length ≤ 140737488351232) (k : Nat) (hk : 1010 < k) : ∃ b, law14_few.f k l kind = some b ∧ (b = true → l.length ≤ 500 ∧ ∀ v ∈ l, v.f0 = kind ∨ v.f0 = 0) := by
  unfold law14_few.f
  rcases Nat.le_total l.length 500 with h | h
  · exact few_l l kind hl l.length k 0 (by omega) (by omega) (by omega)
  · exact few_l l kind hl 500 k 0 (by omega) (by omega) (by omega)
theorem sizes_of {l : List S24} (h : Hand.WfRow 32 wfS24 l) : l.length ≤ 140737488351232 ∧ ∀ v ∈ l, v.f2.size ≤ 140737488351232 :=
  ⟨by have := h.2.1; omega, fun v hv => (h.2.2 v hv).2.2⟩
end Go.Proofs.Ytnpfanmkjhpmlaa.Pure
