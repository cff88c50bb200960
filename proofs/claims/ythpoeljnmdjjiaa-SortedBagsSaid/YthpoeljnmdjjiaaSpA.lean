/-
  Plain laws for rows in order: what few and By tell; rows in order by their places.
-/
import Derived.Test.YthpoeljnmdjjiaaPSrnx12
import Derived.Test.YthpoeljnmdjjiaaPSrnx7
import Derived.Test.YthpoeljnmdjjiaaPSrnx9
import Derived.Test.YthpoeljnmdjjiaaPSrnx11
import Derived.Test.YthpoeljnmdjjiaaSvM
namespace Go.Proofs.Ythpoeljnmdjjiaa.PSrn
open Go.RowKit Go.Proofs.Ythpoeljnmdjjiaa.Hand Go.Proofs.Ythpoeljnmdjjiaa.Srt Go.Proofs.YthpoeljnmdjjiaaW.PrintWords Go.Proofs.YthpoeljnmdjjiaaW.PrintLast Go.Proofs.YthpoeljnmdjjiaaW.PrintMore
set_option linter.unusedVariables false
set_option linter.unusedSimpArgs false

def fewL (l : List (List S28)) : List (List S28) := (l.take 150).map (List.take 9)
theorem fewL_len (l : List (List S28)) : (fewL l).length ≤ 150 := by unfold fewL; rw [List.length_map, List.length_take]; omega
def Short (l : List (List S28)) : Prop := ∀ r ∈ l, r.length ≤ 9
theorem fewL_short (l : List (List S28)) : Short (fewL l) := by
  intro r hr
  obtain ⟨x, _, rfl⟩ := List.mem_map.1 hr
  rw [List.length_take]; omega
theorem few_l (l : List (List S28)) (hl : l.length ≤ 9223372036854775807) : ∀ (d i k : Nat) (acc : List (List S28)), i + d = (l.take 150).length → 2 * d + 2 ≤ k → acc.length = i → law16_few.l0 k l acc (i : Int) = some (acc ++ ((l.take 150).drop i).map (List.take 9)) := by
  intro d
  induction d with
  | zero =>
    intro i k acc hi hk ha
    obtain ⟨k, rfl⟩ : ∃ m, k = m + 2 := ⟨k - 2, by omega⟩
    rw [List.drop_eq_nil_of_le (by omega), List.map_nil, List.append_nil]
    rw [List.length_take] at hi
    rw [law16_few.l0]
    by_cases h : (i : Int) < (l.length : Int)
    · rw [if_pos h, decide_eq_false (show ¬ (i : Int) < 150 by omega), law16_few.j1, if_neg (by decide)]
    · rw [if_neg h, law16_few.j1, if_neg (by decide)]
  | succ d ih =>
    intro i k acc hi hk ha
    obtain ⟨k, rfl⟩ : ∃ m, k = m + 2 := ⟨k - 2, by omega⟩
    have hi2 : i < (l.take 150).length := by omega
    have hil : i < l.length := by rw [List.length_take] at hi2; omega
    have hi3 : i < 150 := by rw [List.length_take] at hi2; omega
    have hg : (l.take 150)[i] = l[i] := List.getElem_take
    have hw : wrap64 ((i : Int) + 1) = ((i + 1 : Nat) : Int) := by unfold wrap64; omega
    rw [List.drop_eq_getElem_cons hi2, List.map_cons, hg]
    rw [law16_few.l0, if_pos (show (i : Int) < (l.length : Int) by omega), decide_eq_true (show (i : Int) < 150 by omega), law16_few.j1, if_pos rfl, if_pos (by omega), if_pos (by omega), rdL3 l i hil]
    have e : acc ++ List.take 9 l[i] :: List.map (List.take 9) (List.drop (i + 1) (List.take 150 l)) = (acc ++ [List.take 9 l[i]]) ++ List.map (List.take 9) (List.drop (i + 1) (List.take 150 l)) := by simp
    rw [e]
    by_cases h9 : ((l[i].length : Nat) : Int) > 9
    · rw [if_pos h9, if_pos (by omega), if_pos (by omega), hw]
      exact ih (i + 1) k _ (by omega) (by omega) (by simp [ha])
    · rw [if_neg h9, if_pos (by omega), hw, List.take_of_length_le (show l[i].length ≤ 9 by omega)]
      exact ih (i + 1) k _ (by omega) (by omega) (by simp [ha])
theorem few_f (k : Nat) (l : List (List S28)) (hl : l.length ≤ 9223372036854775807) (hk : 400 ≤ k) : law16_few.f k l = some (fewL l) := by
  unfold law16_few.f
  have := few_l l hl (l.take 150).length 0 k [] (by omega) (by rw [List.length_take]; omega) rfl
  rw [List.drop_zero] at this
  exact this
/-- Rows in order. -/
def ordR (rows : List (List S28)) (key : List Int) : List (List S28) := (places (cfRow rows key) rows.length).map fun i => rows.getD i []
theorem Short.short {l : List (List S28)} (h : Short l) : shortRows l = true := by
  unfold shortRows
  rw [List.all_eq_true]
  intro r hr
  have := h r hr
  exact decide_eq_true (by omega)
theorem by_f (rows : List (List S28)) (key : List Int) (hl : rows.length ≤ 1000) (hs : Short rows) : sorted_By.f rows key = some (ordR rows key) := by
  show byF rows key = _
  unfold byF
  rw [if_pos ⟨by omega, hs.short⟩]
  rfl
theorem rise_f (rows : List (List S28)) (key : List Int) : sorted_Rise.f rows key = some (riseB rows key) := rfl
theorem bag_f (a b : List (List S28)) (ha : a.length ≤ 10000) (hb : b.length ≤ 10000) : sorted_Bag.f a b = some (bagB a b) := by
  show bagF a b = _
  unfold bagF
  rw [if_pos ⟨ha, hb⟩]
theorem ordR_perm (rows : List (List S28)) (key : List Int) : (ordR rows key).Perm rows := by
  have := ((places_ok (cfRow_ok rows key) rows.length).2).map fun i => rows.getD i []
  rw [map_range] at this
  exact this
theorem ordR_len (rows : List (List S28)) (key : List Int) : (ordR rows key).length = rows.length := (ordR_perm rows key).length_eq
theorem Short.ord {rows : List (List S28)} (h : Short rows) (key : List Int) : Short (ordR rows key) := fun r hr => h r ((ordR_perm rows key).mem_iff.1 hr)
theorem Short.append {a b : List (List S28)} (ha : Short a) (hb : Short b) : Short (a ++ b) := fun r hr => by
  rcases List.mem_append.1 hr with h | h
  · exact ha r h
  · exact hb r h
theorem getD_map (l : List Nat) (f : Nat → List S28) (j : Nat) (h : j < l.length) : (l.map f).getD j [] = f (l.getD j 0) := by
  rw [List.getD_eq_getElem?_getD, List.getElem?_map, List.getElem?_eq_getElem h, List.getD_eq_getElem?_getD, List.getElem?_eq_getElem h]; rfl
theorem getD_get (l : List Nat) (j : Nat) (h : j < l.length) : l.getD j 0 = l[j] := by rw [List.getD_eq_getElem?_getD, List.getElem?_eq_getElem h]; rfl
/-- Neighbours of rows in order. -/
theorem ordR_next (rows : List (List S28)) (key : List Int) (i j : Nat) (hij : i < j) (h : j < rows.length) : cmpRow ((ordR rows key).getD i []) ((ordR rows key).getD j []) key ≤ 0 := by
  obtain ⟨h1, h2⟩ := places_ok (cfRow_ok rows key) rows.length
  have hl : (places (cfRow rows key) rows.length).length = rows.length := by rw [h2.length_eq, List.length_range]
  unfold ordR
  rw [getD_map _ _ _ (by omega), getD_map _ _ _ (by omega), getD_get _ _ (by omega), getD_get _ _ (by omega)]
  exact Ah.le (List.pairwise_iff_getElem.1 h1 i j (by omega) (by omega) hij)
theorem rise_iff (rows : List (List S28)) (key : List Int) : riseB rows key = true ↔ ∀ j, j + 1 < rows.length → cmpRow (rows.getD j []) (rows.getD (j + 1) []) key ≤ 0 := by
  unfold riseB
  rw [List.all_eq_true]
  constructor
  · intro h j hj
    have := h j (List.mem_range.2 (by omega))
    have h2 : ¬ cfRow rows key (j + 1) j < 0 := by simpa using this
    have h3 := cmpRow_anti (rows.getD j []) (rows.getD (j + 1) []) key
    change ¬ cmpRow (rows.getD (j + 1) []) (rows.getD j []) key < 0 at h2
    omega
  · intro h j hj
    rw [List.mem_range] at hj
    have := h j (by omega)
    have h3 := cmpRow_anti (rows.getD j []) (rows.getD (j + 1) []) key
    have h2 : ¬ cfRow rows key (j + 1) j < 0 := by show ¬ cmpRow (rows.getD (j + 1) []) (rows.getD j []) key < 0; omega
    simpa using h2
theorem ordR_rise (rows : List (List S28)) (key : List Int) : riseB (ordR rows key) key = true := by
  rw [rise_iff]
  intro j hj
  rw [ordR_len] at hj
  exact ordR_next rows key j (j + 1) (by omega) hj
/-- Rows whose places are in order are in order as they are. -/
theorem ordR_self {rows : List (List S28)} {key : List Int} (h : ∀ i j, i < j → j < rows.length → cmpRow (rows.getD i []) (rows.getD j []) key ≤ 0) : ordR rows key = rows := by
  have hs : Srd (cfRow rows key) (List.range rows.length) := by
    refine List.pairwise_iff_getElem.2 (fun i j hi hj hij => ?_)
    rw [List.length_range] at hi hj
    rw [List.getElem_range, List.getElem_range]
    have := h i j hij hj
    change cfRow rows key i j ≤ 0 at this
    unfold Ah
    omega
  unfold ordR
  rw [← places_unique (cfRow_ok rows key) hs (List.Perm.refl _), map_range]
/-- By columns that are the first ones of the key rows in order are in order. -/
theorem cmpRow_first (a b : List S28) (c : Int) (t : List Int) (h : cmpRow a b (c :: t) ≤ 0) : cmpRow a b [c] ≤ 0 := by
  unfold cmpRow at h ⊢
  by_cases h0 : cmpV (atV a c) (atV b c) = 0
  · rw [if_pos h0]; exact Int.le_refl _
  · rw [if_neg h0] at h ⊢; exact h
end Go.Proofs.Ythpoeljnmdjjiaa.PSrn
