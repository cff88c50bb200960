/-
  What rows of a group make, in plain words.
-/
import Derived.Test.YtedgfhijkkedaaaGpA
namespace Go.Proofs.Ytedgfhijkkedaaa.PAgg
open Go.RowKit
open Go.Proofs.Ytedgfhijkkedaaa.Hand (sumOut aggSum)
set_option linter.unusedVariables false
set_option linter.unusedSimpArgs false

theorem w64n {i : Nat} (h : i ≤ 1000000) : wrap64 ((i : Int) + 1) = ((i + 1 : Nat) : Int) := by unfold wrap64; omega
/-- A row's value of a column: none, where there is none. -/
def atV (r : List S39) (col : Int) : S39 := if 0 ≤ col ∧ col < (r.length : Int) then rd_T39 r col else z39
def colOf (col : Int) (l : List (List S39)) : List S39 := (l.map fun r => atV r col).filter fun v => decide (v.f0 ≠ 0)
theorem colOf_snoc (col : Int) (l : List (List S39)) (r : List S39) : colOf col (l ++ [r]) = colOf col l ++ (if (atV r col).f0 = 0 then [] else [atV r col]) := by
  unfold colOf
  rw [List.map_append, List.filter_append]
  congr 1
  simp only [List.map_cons, List.map_nil, List.filter_cons, List.filter_nil]
  by_cases h : (atV r col).f0 = 0
  · rw [if_pos h, if_neg (by simp [h])]
  · rw [if_neg h, if_pos (by simp [h])]
theorem colOf_len (col : Int) (l : List (List S39)) : (colOf col l).length ≤ l.length := by
  unfold colOf
  exact Nat.le_trans (List.length_filter_le _ _) (by simp)
theorem column_l (l : List (List S39)) (col : Int) (hl : l.length ≤ 1000000) : ∀ (d k i : Nat), i + d = l.length → d < k → agg_column.l0 k col (colOf col (l.take i)) l (l.length : Int) (i : Int) = some (colOf col l) := by
  intro d
  induction d with
  | zero =>
    intro k i hi hk
    obtain ⟨k, rfl⟩ : ∃ m, k = m + 1 := ⟨k - 1, by omega⟩
    rw [agg_column.l0, if_neg (by omega), List.take_of_length_le (by omega)]
  | succ d ih =>
    intro k i hi hk
    obtain ⟨k, rfl⟩ : ∃ m, k = m + 1 := ⟨k - 1, by omega⟩
    have hlt : i < l.length := by omega
    have IH := ih k (i + 1) (by omega) (by omega)
    have hlen : (colOf col (l.take i)).length ≤ 1000000 := Nat.le_trans (colOf_len _ _) (by rw [List.length_take]; omega)
    rw [List.take_succ_eq_append_getElem hlt, colOf_snoc] at IH
    rw [agg_column.l0, if_pos (by omega), if_pos (by omega), if_pos (by omega), rdL3 _ _ hlt, w64n (by omega)]
    by_cases h0 : col ≥ 0
    · rw [if_pos h0]
      by_cases h1 : col < (l[i].length : Int)
      · rw [if_pos h1, if_pos h0]
        have ha : atV l[i] col = rd_T39 l[i] col := by unfold atV; rw [if_pos ⟨h0, h1⟩]
        rw [ha] at IH
        by_cases h2 : (rd_T39 l[i] col).f0 = 0
        · rw [if_pos h2]
          rw [if_pos h2, List.append_nil] at IH
          exact IH
        · rw [if_neg h2, if_pos (by omega)]
          rw [if_neg h2] at IH
          exact IH
      · rw [if_neg h1]
        have ha : atV l[i] col = z39 := by unfold atV; rw [if_neg (by omega)]
        rw [ha, if_pos (show z39.f0 = 0 from rfl), List.append_nil] at IH
        exact IH
    · rw [if_neg h0]
      have ha : atV l[i] col = z39 := by unfold atV; rw [if_neg (by omega)]
      rw [ha, if_pos (show z39.f0 = 0 from rfl), List.append_nil] at IH
      exact IH
theorem column_f (l : List (List S39)) (col : Int) (hl : l.length ≤ 1000000) (k : Nat) (hk : l.length < k) : agg_column.f k l col = some (colOf col l) := by
  unfold agg_column.f
  exact column_l l col hl l.length k 0 (by omega) hk

def numsOf (l : List S39) : List Int := (l.filter fun v => decide (v.f0 = 1)).map S39.f1
theorem numsOf_snoc (l : List S39) (v : S39) : numsOf (l ++ [v]) = numsOf l ++ (if v.f0 = 1 then [v.f1] else []) := by
  unfold numsOf
  rw [List.filter_append, List.map_append]
  congr 1
  by_cases h : v.f0 = 1
  · rw [if_pos h]; simp [h]
  · rw [if_neg h]; simp [h]
theorem numsOf_len (l : List S39) : (numsOf l).length ≤ l.length := by
  unfold numsOf
  rw [List.length_map]
  exact List.length_filter_le _ _
theorem sum_f {l : List Int} (h : ∀ x ∈ l, -9223372036854775808 ≤ x ∧ x ≤ 9223372036854775807) (hl : l.length ≤ 17592186044416) : agg_Sum.f l = some (sumOut l.sum) := by
  unfold agg_Sum.f aggSum
  rw [if_pos ⟨h, hl⟩]
/-- What whole numbers make. -/
def totV (l : List S39) : S39 × Int := if (numsOf l).length = 0 then (z39, 0) else if (sumOut (numsOf l).sum).2 = 0 then (⟨1, (sumOut (numsOf l).sum).1, ⟨#[]⟩⟩, 0) else (z39, (sumOut (numsOf l).sum).2)
def i64V (v : S39) : Prop := -9223372036854775808 ≤ v.f1 ∧ v.f1 ≤ 9223372036854775807
theorem total_l (l : List S39) (hw : ∀ v ∈ l, i64V v) (hl : l.length ≤ 1000000) : ∀ (d k i : Nat), i + d = l.length → d < k →
    agg_total.l0 k (numsOf (l.take i)) l (l.length : Int) (i : Int) = some ((totV l).1.f0, (totV l).1.f1, (totV l).1.f2, (totV l).2) := by
  intro d
  induction d with
  | zero =>
    intro k i hi hk
    obtain ⟨k, rfl⟩ : ∃ m, k = m + 1 := ⟨k - 1, by omega⟩
    have hn := numsOf_len l
    rw [agg_total.l0, if_neg (by omega), List.take_of_length_le (by omega)]
    unfold totV
    by_cases h0 : (numsOf l).length = 0
    · rw [if_pos (by omega), if_pos h0]; rfl
    · rw [if_neg (by omega), if_neg h0, sum_f (fun x hx => by
        obtain ⟨v, hv, rfl⟩ := List.mem_map.1 hx
        exact hw v (List.mem_filter.1 hv).1) (by omega), Option.bind_some]
      by_cases h1 : (sumOut (numsOf l).sum).2 = 0
      · rw [if_pos h1, if_pos h1]
      · rw [if_neg h1, if_neg h1]; rfl
  | succ d ih =>
    intro k i hi hk
    obtain ⟨k, rfl⟩ : ∃ m, k = m + 1 := ⟨k - 1, by omega⟩
    have hlt : i < l.length := by omega
    have IH := ih k (i + 1) (by omega) (by omega)
    have hlen : (numsOf (l.take i)).length ≤ 1000000 := Nat.le_trans (numsOf_len _) (by rw [List.length_take]; omega)
    rw [List.take_succ_eq_append_getElem hlt, numsOf_snoc] at IH
    rw [agg_total.l0, if_pos (by omega), if_pos (by omega), if_pos (by omega), rd39 _ _ hlt, w64n (by omega)]
    by_cases h : l[i].f0 = 1
    · rw [if_pos h, if_pos (by omega)]
      rw [if_pos h] at IH
      exact IH
    · rw [if_neg h]
      rw [if_neg h, List.append_nil] at IH
      exact IH
theorem total_f (l : List S39) (hw : ∀ v ∈ l, i64V v) (hl : l.length ≤ 1000000) (k : Nat) (hk : l.length < k) : agg_total.f k l = some ((totV l).1.f0, (totV l).1.f1, (totV l).1.f2, (totV l).2) := by
  unfold agg_total.f
  exact total_l l hw hl l.length k 0 (by omega) hk
/-- What rows of a group make. -/
def oneV (g : List (List S39)) (op col : Int) : S39 × Int :=
  if op = 1 then (⟨1, (g.length : Int), ⟨#[]⟩⟩, 0) else if op = 2 then totV (colOf col g) else if op = 3 then (endOf minOf (colOf col g), 0) else if op = 4 then (endOf maxOf (colOf col g), 0) else (z39, 0)
theorem rd39_mem (r : List S39) (col : Int) (h0 : 0 ≤ col) (h1 : col < (r.length : Int)) : rd_T39 r col ∈ r := by
  obtain ⟨n, rfl⟩ : ∃ n : Nat, col = n := ⟨col.toNat, by omega⟩
  rw [rd39 r n (by omega)]
  exact List.getElem_mem _
theorem colOf_mem (col : Int) (l : List (List S39)) : ∀ v ∈ colOf col l, v.f0 ≠ 0 ∧ ∃ r ∈ l, v ∈ r ∧ v = atV r col := by
  intro v hv
  obtain ⟨h1, h2⟩ := List.mem_filter.1 hv
  rw [decide_eq_true_eq] at h2
  obtain ⟨r, hr, rfl⟩ := List.mem_map.1 h1
  refine ⟨h2, r, hr, ?_, rfl⟩
  unfold atV at h2 ⊢
  split
  · rename_i h
    exact rd39_mem r col h.1 h.2
  · rename_i h
    rw [if_neg h] at h2
    exact absurd rfl h2
theorem one_f (g : List (List S39)) (op col : Int) (hg : g.length ≤ 1000000) (hw : ∀ r ∈ g, ∀ v ∈ r, i64V v) (k : Nat) (hk : g.length < k) : oneF k g op col = some (oneV g op col) := by
  unfold oneF oneV
  have hc := colOf_len col g
  split
  · rfl
  · rw [column_f g col hg k hk, Option.bind_some]
    split
    · rw [total_f _ (fun v hv => by
        obtain ⟨_, r, hr, hvr, _⟩ := colOf_mem col g v hv
        exact hw r hr v hvr) (by omega) k (by omega)]
      rfl
    · split
      · rfl
      · split <;> rfl
end Go.Proofs.Ytedgfhijkkedaaa.PAgg
