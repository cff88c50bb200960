/-
  The plain law of SortedCols: columns of columns are those columns; rows in order by columns that are kept first are in order by their new places.
-/
import Derived.Test.YthpoeljnmdjjiaaPSrnx14
import Derived.Test.YthpoeljnmdjjiaaSpA
namespace Go.Proofs.Ythpoeljnmdjjiaa.Pure
open Go.RowKit Go.Proofs.Ythpoeljnmdjjiaa.PSrn Go.Proofs.Ythpoeljnmdjjiaa.Hand Go.Proofs.Ythpoeljnmdjjiaa.Srt Go.Proofs.YthpoeljnmdjjiaaW.PrintWords Go.Proofs.YthpoeljnmdjjiaaW.PrintLast
set_option linter.unusedVariables false

def colsR (cols : List Int) (r : List S28) : List S28 := cols.map (atV r)
def colsL (rows : List (List S28)) (cols : List Int) : List (List S28) := rows.map (colsR cols)
theorem rdI (x : List Int) (i : Nat) (h : i < x.length) : rd x (i : Int) = x[i] := by
  unfold rd; rw [Int.toNat_natCast, List.getD_eq_getElem?_getD, List.getElem?_eq_getElem h]; rfl
theorem w1 {i : Nat} (h : i ≤ 1000000) : wrap64 ((i : Int) + 1) = ((i + 1 : Nat) : Int) := by unfold wrap64; omega
theorem cols_l1 (cols : List Int) (out : List (List S28)) (row : List S28) (rows : List (List S28)) (len i : Int) (hc : cols.length ≤ 1000) : ∀ (d j k : Nat) (acc : List S28), j + d = cols.length → acc.length = j →
    sorted_Cols.l1 (d + 1 + k) cols out row acc rows len i cols (cols.length : Int) (j : Int) = if out.length < 5864062014805 then sorted_Cols.l0 k cols (out ++ [acc ++ (cols.drop j).map (atV row)]) rows len (wrap64 (i + 1)) else none := by
  intro d
  induction d with
  | zero =>
    intro j k acc hj ha
    rw [show 0 + 1 + k = k + 1 by omega, sorted_Cols.l1, if_neg (by omega), List.drop_eq_nil_of_le (by omega), List.map_nil, List.append_nil]
  | succ d ih =>
    intro j k acc hj ha
    have hjl : j < cols.length := by omega
    rw [show d + 1 + 1 + k = (d + 1 + k) + 1 by omega, sorted_Cols.l1, if_pos (by omega), if_pos (by omega), if_pos (by omega), at_f, Option.bind_some, if_pos (by omega), w1 (by omega), rdI cols j hjl]
    rw [ih (j + 1) k _ (by omega) (by simp [ha]), List.drop_eq_getElem_cons hjl, List.map_cons, List.append_assoc]
    rfl
theorem cols_l0 (cols : List Int) (rows : List (List S28)) (hc : cols.length ≤ 1000) (hr : rows.length ≤ 1000) : ∀ (d i k : Nat) (out : List (List S28)), i + d = rows.length → d * (cols.length + 2) + 1 ≤ k → out.length = i →
    sorted_Cols.l0 k cols out rows (rows.length : Int) (i : Int) = some (out ++ (rows.drop i).map (colsR cols)) := by
  intro d
  induction d with
  | zero =>
    intro i k out hi hk ho
    obtain ⟨k, rfl⟩ : ∃ m, k = m + 1 := ⟨k - 1, by omega⟩
    rw [sorted_Cols.l0, if_neg (by omega), List.drop_eq_nil_of_le (by omega), List.map_nil, List.append_nil]
  | succ d ih =>
    intro i k out hi hk ho
    have hil : i < rows.length := by omega
    rw [Nat.add_mul, Nat.one_mul] at hk
    obtain ⟨k2, rfl⟩ : ∃ m, k = (cols.length + 1 + m) + 1 := ⟨k - (cols.length + 2), by omega⟩
    rw [sorted_Cols.l0, if_pos (by omega), if_pos (by omega), if_pos (by omega)]
    have := cols_l1 cols out (rd_L3 rows (i : Int)) rows (rows.length : Int) (i : Int) hc cols.length 0 k2 [] (by omega) rfl
    rw [show ((0 : Nat) : Int) = 0 from rfl] at this
    rw [this, if_pos (by omega), w1 (by omega), ih (i + 1) k2 _ (by omega) (by omega) (by simp [ho]), List.drop_eq_getElem_cons hil, List.map_cons, List.append_assoc, List.nil_append, List.drop_zero, rdL3 rows i hil]
    rfl
theorem cols_f (k : Nat) (rows : List (List S28)) (cols : List Int) (hc : cols.length ≤ 9) (hr : rows.length ≤ 150) (hk : 1700 ≤ k) : sorted_Cols.f k rows cols = some (colsL rows cols) := by
  unfold sorted_Cols.f
  have h1 : rows.length * (cols.length + 2) ≤ 150 * 11 := Nat.mul_le_mul hr (by omega)
  have := cols_l0 cols rows (by omega) (by omega) rows.length 0 k [] (by omega) (by omega) rfl
  rw [List.drop_zero] at this
  exact this
/-- A column's place among the columns that are kept. -/
def pick (cols : List Int) (m : Int) : Int := if 0 ≤ m ∧ m < (cols.length : Int) then rd cols m else -1
theorem atV_cols (cols : List Int) (r : List S28) (m : Int) : atV (colsR cols r) m = atV r (pick cols m) := by
  have hl : (colsR cols r).length = cols.length := by unfold colsR; rw [List.length_map]
  unfold pick
  by_cases h : 0 ≤ m ∧ m < (cols.length : Int)
  · rw [if_pos h]
    obtain ⟨i, rfl⟩ : ∃ i : Nat, m = (i : Int) := ⟨m.toNat, by omega⟩
    have hi : i < cols.length := by omega
    unfold atV
    rw [if_pos ⟨by omega, by rw [hl]; omega⟩, rd28 _ _ (by omega), rdI _ _ hi]
    exact List.getElem_map (atV r)
  · rw [if_neg h]
    unfold atV
    rw [if_neg (by rw [hl]; exact h), if_neg (by omega)]
theorem colsL_cols (rows : List (List S28)) (cols more : List Int) : colsL (colsL rows cols) more = colsL rows (more.map (pick cols)) := by
  unfold colsL
  rw [List.map_map]
  refine List.map_congr_left (fun r _ => ?_)
  show (more.map (atV (colsR cols r))) = (more.map (pick cols)).map (atV r)
  rw [List.map_map]
  exact List.map_congr_left (fun m _ => atV_cols cols r m)
theorem cmpRow_cols (cols : List Int) (a b : List S28) : ∀ ks : List Int, cmpRow (colsR cols a) (colsR cols b) ks = cmpRow a b (ks.map (pick cols))
  | [] => rfl
  | m :: t => by
    rw [List.map_cons]
    unfold cmpRow
    rw [atV_cols, atV_cols, cmpRow_cols cols a b t]
def firstI (n : Nat) : List Int := (List.range n).map Int.ofNat
theorem firstI_pick (cols : List Int) : (firstI cols.length).map (pick cols) = cols := by
  unfold firstI
  refine List.ext_getElem (by simp) (fun i h1 h2 => ?_)
  rw [List.getElem_map, List.getElem_map, List.getElem_range]
  show pick cols (i : Int) = _
  unfold pick
  rw [if_pos ⟨by omega, by omega⟩, rdI _ _ h2]
theorem both_l (x1 x2 : List Int) (x7 : Bool) (x8 x9 : List (List S28)) (h2 : x2.length ≤ 9) : ∀ (d i k : Nat) (acc : List Int), i + d = x2.length → acc.length = i →
    law16_SortedCols.l0 (d + 1 + k) x1 x2 x7 x8 x9 acc (i : Int) = law16_SortedCols.l1 k x1 x7 x8 x9 (acc ++ (x2.drop i).map (pick x1)) [] 0 := by
  intro d
  induction d with
  | zero =>
    intro i k acc hi ha
    rw [show 0 + 1 + k = k + 1 by omega, law16_SortedCols.l0, if_neg (by omega), List.drop_eq_nil_of_le (by omega), List.map_nil, List.append_nil]
  | succ d ih =>
    intro i k acc hi ha
    have hil : i < x2.length := by omega
    have e : acc ++ (x2.drop i).map (pick x1) = (acc ++ [pick x1 x2[i]]) ++ (x2.drop (i + 1)).map (pick x1) := by rw [List.drop_eq_getElem_cons hil, List.map_cons, List.append_assoc]; rfl
    rw [e, ← ih (i + 1) k _ (by omega) (by simp [ha]), show d + 1 + 1 + k = (d + 1 + k) + 1 by omega, law16_SortedCols.l0, if_pos (by omega), if_pos (by omega), rdI x2 i hil, w1 (by omega)]
    unfold pick
    by_cases c1 : x2[i] ≥ 0
    · rw [if_pos c1]
      by_cases c2 : x2[i] < (x1.length : Int)
      · rw [if_pos c2, if_pos (by omega), if_pos (by omega), if_pos ⟨by omega, c2⟩]
      · rw [if_neg c2, if_pos (by omega), if_neg (fun h => c2 h.2)]
    · rw [if_neg c1, if_pos (by omega), if_neg (fun h => c1 h.1)]
theorem first_l (x1 : List Int) (x7 : Bool) (x8 x9 : List (List S28)) (x10 : List Int) (h1 : x1.length ≤ 9) : ∀ (d i k : Nat), i + d = x1.length →
    law16_SortedCols.l1 (d + k) x1 x7 x8 x9 x10 (firstI i) (i : Int) = law16_SortedCols.l1 k x1 x7 x8 x9 x10 (firstI x1.length) (x1.length : Int) := by
  intro d
  induction d with
  | zero =>
    intro i k hi
    obtain rfl : i = x1.length := by omega
    rw [Nat.zero_add]
  | succ d ih =>
    intro i k hi
    have hl : (firstI i).length = i := by unfold firstI; simp
    have e : firstI i ++ [(i : Int)] = firstI (i + 1) := by unfold firstI; rw [List.range_succ, List.map_append]; rfl
    rw [show d + 1 + k = (d + k) + 1 by omega, law16_SortedCols.l1, if_pos (by omega), if_pos (by omega), w1 (by omega), e]
    exact ih (i + 1) k (by omega)
theorem cols_end (k : Nat) (hk : 4000 ≤ k) (a : List (List S28)) (x1 x2 : List Int) (h1 : x1.length ≤ 9) (h2 : x2.length ≤ 9) (ha : a.length ≤ 150) (hs : Short a) :
    law16_SortedCols.l1 (k + 1) x1 true a (colsL (colsL a x1) x2) (x2.map (pick x1)) (firstI x1.length) (x1.length : Int) = some true := by
  have hs2 : Short (colsL (colsL a x1) x2) := by
    intro r hr
    obtain ⟨q, _, rfl⟩ := List.mem_map.1 hr
    unfold colsR
    rw [List.length_map]; exact h2
  have ho := ordR_len a x1
  rw [law16_SortedCols.l1, if_neg (by omega), if_pos rfl, cols_f k a _ (by rw [List.length_map]; exact h2) ha (by omega), Option.bind_some, ← colsL_cols,
    lists_same k _ (by unfold colsL; rw [List.length_map, List.length_map]; omega) hs2 (by omega), Option.bind_some, if_pos rfl, by_f a x1 (by omega) hs, Option.bind_some,
    cols_f k _ x1 h1 (by omega) (by omega), Option.bind_some, rise_f, Option.bind_some]
  have hr : riseB (colsL (ordR a x1) x1) (firstI x1.length) = true := by
    rw [rise_iff]
    intro j hj
    unfold colsL at hj ⊢
    rw [List.length_map, ho] at hj
    have g : ∀ i, i < a.length → ((ordR a x1).map (colsR x1)).getD i [] = colsR x1 ((ordR a x1).getD i []) := fun i hi => by
      rw [List.getD_eq_getElem?_getD, List.getElem?_map, List.getElem?_eq_getElem (by omega), List.getD_eq_getElem?_getD, List.getElem?_eq_getElem (by omega)]; rfl
    rw [g j (by omega), g (j + 1) hj, cmpRow_cols, firstI_pick]
    exact ordR_next a x1 j (j + 1) (by omega) hj
  rw [hr]
theorem SortedCols : law16_SortedCols.Pure := by
  intro l0 l1 l2 h0 h1 h2 h3 h4 h5 h6
  have hlen0 : l0.length ≤ 9223372036854775807 := Nat.le_trans h0.1 (by decide)
  have hL0 := fewL_len l0
  have hS0 := fewL_short l0
  have hsh : law16_shown.f = some true := rfl
  by_cases c1 : (l1.length : Int) > 9
  · refine ⟨1200, ?_⟩
    unfold law16_SortedCols.f
    rw [hsh, Option.bind_some, few_f _ l0 hlen0 (by omega), Option.bind_some, if_pos c1, law16_SortedCols.j0, if_pos rfl]
  · by_cases c2 : (l2.length : Int) > 9
    · refine ⟨1200, ?_⟩
      unfold law16_SortedCols.f
      rw [hsh, Option.bind_some, few_f _ l0 hlen0 (by omega), Option.bind_some, if_neg c1, decide_eq_true c2, law16_SortedCols.j0, if_pos rfl]
    · refine ⟨(l2.length + 1 + (l1.length + (4000 + 1))) + 1, ?_⟩
      unfold law16_SortedCols.f
      rw [hsh, Option.bind_some, few_f _ l0 hlen0 (by omega), Option.bind_some, if_neg c1, decide_eq_false c2, law16_SortedCols.j0, if_neg (by decide),
        cols_f _ (fewL l0) l1 (by omega) hL0 (by omega), Option.bind_some, cols_f _ (colsL (fewL l0) l1) l2 (by omega) (by unfold colsL; rw [List.length_map]; exact hL0) (by omega), Option.bind_some]
      have hb := both_l l1 l2 true (fewL l0) (colsL (colsL (fewL l0) l1) l2) (by omega) l2.length 0 (l1.length + (4000 + 1)) [] (by omega) rfl
      rw [show ((0 : Nat) : Int) = 0 from rfl, List.drop_zero, List.nil_append] at hb
      have hf := first_l l1 true (fewL l0) (colsL (colsL (fewL l0) l1) l2) (l2.map (pick l1)) (by omega) l1.length 0 (4000 + 1) (by omega)
      rw [show ((0 : Nat) : Int) = 0 from rfl, show firstI 0 = [] from rfl] at hf
      rw [hb, hf]
      exact cols_end 4000 (by omega) (fewL l0) l1 l2 (by omega) (by omega) hL0 hS0
end Go.Proofs.Ythpoeljnmdjjiaa.Pure
