/-
  Sorting, plain: two halves of a merge, each of a left and a right part.
-/
import Derived.Test.YthpoeljnmdjjiaaStE
namespace Go.Proofs.Ythpoeljnmdjjiaa.Srt
set_option linter.unusedVariables false
set_option linter.unusedSimpArgs false
variable {cf : Nat → Nat → Int}

theorem cross {X1 X2 Y1 Y2 : List Nat} (hs : Srd cf (X1 ++ X2)) (hs2 : Srd cf (Y1 ++ Y2)) (h1 : ∀ x ∈ X1, ∀ y ∈ Y2, Ah cf x y) (h2 : ∀ y ∈ Y1, ∀ x ∈ X2, Ah cf y x) : ∀ x ∈ X1 ++ Y1, ∀ y ∈ X2 ++ Y2, Ah cf x y := by
  obtain ⟨_, _, a⟩ := List.pairwise_append.1 hs
  obtain ⟨_, _, b⟩ := List.pairwise_append.1 hs2
  intro x hx y hy
  rcases List.mem_append.1 hx with hx | hx
  · rcases List.mem_append.1 hy with hy | hy
    · exact a x hx y hy
    · exact h1 x hx y hy
  · rcases List.mem_append.1 hy with hy | hy
    · exact h2 x hx y hy
    · exact b x hx y hy
/-- From one place of each: all of the first part are ahead of all of the second. -/
theorem cross_at (C : Cf cf) {X Y : List Nat} (hs : Srd cf X) (hs2 : Srd cf Y) (s t : Nat) (hsX : s ≤ X.length) (htY : t ≤ Y.length) (h : 0 < s → t < Y.length → Ah cf (X.getD (s - 1) 0) (Y.getD t 0)) : ∀ x ∈ X.take s, ∀ y ∈ Y.drop t, Ah cf x y := by
  have gX : ∀ i, (hi : i < X.length) → X.getD i 0 = X[i] := fun i hi => by rw [List.getD_eq_getElem?_getD, List.getElem?_eq_getElem hi]; rfl
  have gY : ∀ i, (hi : i < Y.length) → Y.getD i 0 = Y[i] := fun i hi => by rw [List.getD_eq_getElem?_getD, List.getElem?_eq_getElem hi]; rfl
  intro x hx y hy
  obtain ⟨i, hi, e⟩ := List.mem_iff_getElem.1 hx
  obtain ⟨j, hj, e2⟩ := List.mem_iff_getElem.1 hy
  rw [List.length_take] at hi
  rw [List.length_drop] at hj
  rw [List.getElem_take] at e
  rw [List.getElem_drop] at e2
  have hm := h (by omega) (by omega)
  have hx1 : x = X.getD (s - 1) 0 ∨ Ah cf x (X.getD (s - 1) 0) := by
    rcases Nat.lt_or_ge i (s - 1) with h1 | h1
    · right
      rw [gX (s - 1) (by omega), ← e]
      exact List.pairwise_iff_getElem.1 hs i (s - 1) (by omega) (by omega) h1
    · left
      have : i = s - 1 := by omega
      subst this
      rw [gX _ (by omega), e]
  have hy1 : y = Y.getD t 0 ∨ Ah cf (Y.getD t 0) y := by
    rcases Nat.eq_zero_or_pos j with h1 | h1
    · left
      subst h1
      rw [gY t (by omega), ← e2]
      rfl
    · right
      rw [gY t (by omega), ← e2]
      exact List.pairwise_iff_getElem.1 hs2 t (t + j) (by omega) (by omega) (by omega)
  have h2 : Ah cf x (Y.getD t 0) := by
    rcases hx1 with h3 | h3
    · rw [h3]; exact hm
    · exact h3.trans C hm
  rcases hy1 with h3 | h3
  · rw [h3]; exact h2
  · exact h2.trans C h3
theorem Srd.split {X : List Nat} (h : Srd cf X) (s : Nat) : Srd cf (X.take s) ∧ Srd cf (X.drop s) := by
  have : Srd cf (X.take s ++ X.drop s) := by rw [List.take_append_drop]; exact h
  obtain ⟨a, b, _⟩ := List.pairwise_append.1 this
  exact ⟨a, b⟩
end Go.Proofs.Ythpoeljnmdjjiaa.Srt
