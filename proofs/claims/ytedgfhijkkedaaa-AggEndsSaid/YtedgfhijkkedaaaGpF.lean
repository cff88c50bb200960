/-
  At most 150 rows of 9 columns; two rows the same.
-/
import Derived.Test.YtedgfhijkkedaaaPAggx10
import Derived.Test.YtedgfhijkkedaaaGpB
namespace Go.Proofs.Ytedgfhijkkedaaa.PAgg
open Go.RowKit Go.Proofs.YtedgfhijkkedaaaW.PrintWords Go.Proofs.YtedgfhijkkedaaaW.PrintLast
set_option linter.unusedVariables false
set_option linter.unusedSimpArgs false

def cut9 (r : List S39) : List S39 := if 9 < r.length then r.take 9 else r
theorem cut9_len (r : List S39) : (cut9 r).length ≤ 9 := by unfold cut9; split <;> (try rw [List.length_take]) <;> omega
theorem few_l (x0 : List (List S39)) : ∀ (d k i : Nat), i + d = min x0.length 150 → 2 * d + 1 < k → law20_few.l0 k x0 ((x0.take i).map cut9) (i : Int) = some ((x0.take (min x0.length 150)).map cut9) := by
  intro d
  induction d with
  | zero =>
    intro k i hi hk
    obtain ⟨k, rfl⟩ : ∃ m, k = m + 2 := ⟨k - 2, by omega⟩
    have e : i = min x0.length 150 := by omega
    rw [law20_few.l0]
    split
    · rw [law20_few.j1, show decide ((i : Int) < 150) = false from decide_eq_false (by omega), if_neg (by simp), e]
    · rw [law20_few.j1, if_neg (by simp), e]
  | succ d ih =>
    intro k i hi hk
    obtain ⟨k, rfl⟩ : ∃ m, k = m + 2 := ⟨k - 2, by omega⟩
    have hlt : i < x0.length := by omega
    have hlen : ((x0.take i).map cut9).length ≤ 150 := by rw [List.length_map, List.length_take]; omega
    have hst : (x0.take (i + 1)).map cut9 = (x0.take i).map cut9 ++ [cut9 x0[i]] := by rw [List.take_succ_eq_append_getElem hlt, List.map_append]; rfl
    rw [law20_few.l0, if_pos (by omega), law20_few.j1, show decide ((i : Int) < 150) = true from decide_eq_true (by omega), if_pos rfl, if_pos (by omega), if_pos (by omega), rdL3 _ _ hlt, w64n (by omega)]
    have IH := ih k (i + 1) (by omega) (by omega)
    rw [hst] at IH
    unfold cut9 at IH
    split
    · rw [if_pos (by omega), if_pos (by omega)]
      rw [if_pos (by omega)] at IH
      exact IH
    · rw [if_pos (by omega)]
      rw [if_neg (by omega)] at IH
      exact IH
def fewOf (l : List (List S39)) : List (List S39) := (l.take (min l.length 150)).map cut9
theorem few_f (l0 : List (List S39)) (k : Nat) (hk : 302 < k) : law20_few.f k l0 = some (fewOf l0) := by
  unfold law20_few.f
  exact few_l l0 (min l0.length 150) k 0 (by omega) (by omega)
theorem few_len (l : List (List S39)) : (fewOf l).length ≤ 150 := by unfold fewOf; rw [List.length_map, List.length_take]; omega
theorem few_row (l : List (List S39)) : ∀ r ∈ fewOf l, r.length ≤ 9 := by
  intro r hr
  obtain ⟨x, _, rfl⟩ := List.mem_map.1 hr
  exact cut9_len x
theorem same_l (x y : List S39) (hl : x.length = y.length) (h0 : x.length ≤ 1000000) : ∀ (d k i : Nat), i + d = x.length → d < k → ref05_Same.l0 k x y (i : Int) = some (eqRow (x.drop i) (y.drop i)) := by
  intro d
  induction d with
  | zero =>
    intro k i hi hk
    obtain ⟨k, rfl⟩ : ∃ m, k = m + 1 := ⟨k - 1, by omega⟩
    simp only [ref05_Same.l0]
    rw [if_neg (by omega), List.drop_eq_nil_of_le (show x.length ≤ i by omega), List.drop_eq_nil_of_le (show y.length ≤ i by omega)]
    rfl
  | succ d ih =>
    intro k i hi hk
    obtain ⟨k, rfl⟩ : ∃ m, k = m + 1 := ⟨k - 1, by omega⟩
    have g0 : i < x.length := by omega
    have g1 : i < y.length := by omega
    simp only [ref05_Same.l0]
    rw [if_pos (by omega), if_pos (by omega), if_pos (by omega), neq_f, rd39 _ _ g0, rd39 _ _ g1, List.drop_eq_getElem_cons g0, List.drop_eq_getElem_cons g1, w64n (by omega)]
    unfold eqRow
    cases he : eqV x[i] y[i]
    · rfl
    · simp only [Bool.not_true, Bool.true_and, Bool.false_eq_true, if_false]
      exact ih k (i + 1) (by omega) (by omega)
theorem same_f (x y : List S39) (h0 : x.length ≤ 1000000) (k : Nat) (hk : x.length < k) : ref05_Same.f k x y = some (eqRow x y) := by
  unfold ref05_Same.f
  by_cases hl : x.length = y.length
  · rw [if_pos (by omega)]
    exact same_l x y hl h0 x.length k 0 (by omega) hk
  · rw [if_neg (by omega)]
    congr 1
    symm
    apply Bool.eq_false_iff.2
    intro h
    exact hl (eqRow_len _ _ h)

theorem few_mem (l : List (List S39)) : ∀ r ∈ fewOf l, ∀ v ∈ r, ∃ r0 ∈ l, v ∈ r0 := by
  intro r hr v hv
  obtain ⟨x, hx, rfl⟩ := List.mem_map.1 hr
  refine ⟨x, List.mem_of_mem_take hx, ?_⟩
  unfold cut9 at hv
  split at hv
  · exact List.mem_of_mem_take hv
  · exact hv
end Go.Proofs.Ytedgfhijkkedaaa.PAgg
