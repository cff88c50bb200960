/-
  The plain law of SortedStays: rows in order are the same bag, rise, and are in order as they are; rows alike in the key stay as they stood.
-/
import Derived.Test.YthpoeljnmdjjiaaPSrnx14
import Derived.Test.YthpoeljnmdjjiaaSpC
namespace Go.Proofs.Ythpoeljnmdjjiaa.Pure
open Go.RowKit Go.Proofs.Ythpoeljnmdjjiaa.PSrn Go.Proofs.Ythpoeljnmdjjiaa.Hand Go.Proofs.Ythpoeljnmdjjiaa.Srt Go.Proofs.YthpoeljnmdjjiaaW.PrintWords Go.Proofs.YthpoeljnmdjjiaaW.PrintLast
set_option linter.unusedVariables false

/-- A row with its number behind it. -/
def withNo (i : Nat) (r : List S28) : List S28 := r ++ [⟨1, (i : Int), ⟨#[]⟩⟩]
def numb (a : List (List S28)) : List (List S28) := a.mapIdx withNo
theorem numb_len (a : List (List S28)) : (numb a).length = a.length := by simp only [numb, List.length_mapIdx]
theorem numb_get (a : List (List S28)) (i : Nat) (h : i < (numb a).length) : (numb a)[i] = withNo i (a[i]'(by rw [numb_len] at h; exact h)) := by simp only [numb, List.getElem_mapIdx]
theorem w1 {i : Nat} (h : i ≤ 1000000) : wrap64 ((i : Int) + 1) = ((i + 1 : Nat) : Int) := by unfold wrap64; omega
theorem st_l0 (key : List Int) (x5 : Bool) (a : List (List S28)) (ha : a.length ≤ 150) (hs : Short a) : ∀ (d i k : Nat), i + d = a.length → law16_SortedStays.l0 (d + 1 + k) key x5 a ((numb a).take i) (i : Int) = law16_SortedStays.l1 k key x5 a (numb a) 0 := by
  intro d
  induction d with
  | zero =>
    intro i k hi
    rw [show 0 + 1 + k = k + 1 by omega, law16_SortedStays.l0, if_neg (by omega), List.take_of_length_le (by rw [numb_len]; omega)]
  | succ d ih =>
    intro i k hi
    have hil : i < a.length := by omega
    have h9 := hs _ (List.getElem_mem hil)
    have hn : i < (numb a).length := by rw [numb_len]; exact hil
    have e : (numb a).take i ++ [withNo i a[i]] = (numb a).take (i + 1) := by rw [List.take_succ_eq_append_getElem hn, numb_get a i hn]
    have hl : ((numb a).take i).length = i := by rw [List.length_take, numb_len]; omega
    rw [show d + 1 + 1 + k = (d + 1 + k) + 1 by omega, law16_SortedStays.l0, if_pos (by omega), Option.bind_some, if_pos (by omega), rdL3 a i hil, if_pos (by simp; omega), Option.bind_some, List.nil_append, if_pos (by omega), if_pos (by omega), w1 (by omega)]
    have := ih (i + 1) k (by omega)
    rw [← e] at this
    exact this
/-- A column that a row does not have. -/
def bad (c : Int) (r : List S28) : Bool := decide (c ≥ (r.length : Int)) || decide (c < 0)
theorem st_l2 (key : List Int) (x5 : Bool) (a x7 : List (List S28)) (ha : a.length ≤ 150) (i : Nat) (hik : i < key.length) (hk9 : key.length ≤ 9) : ∀ (d j k : Nat), j + d = a.length →
    law16_SortedStays.l2 (d + 1 + k) key x5 a x7 (i : Int) (j : Int) = if (a.drop j).any (bad key[i]) = true then some x5 else law16_SortedStays.l1 k key x5 a x7 ((i + 1 : Nat) : Int) := by
  intro d
  induction d with
  | zero =>
    intro j k hj
    rw [show 0 + 1 + k = k + 1 by omega, law16_SortedStays.l2, if_neg (by omega), List.drop_eq_nil_of_le (by omega), w1 (by omega)]
    rfl
  | succ d ih =>
    intro j k hj
    have hjl : j < a.length := by omega
    rw [show d + 1 + 1 + k = (d + 1 + k) + 1 by omega, law16_SortedStays.l2, if_pos (by omega), if_pos (by omega), if_pos (by omega), if_pos (by omega), rdL3 a j hjl, rd_i key i hik, w1 (by omega), ih (j + 1) k (by omega), List.drop_eq_getElem_cons hjl, List.any_cons]
    unfold bad
    by_cases c1 : key[i] ≥ ((a[j].length : Nat) : Int)
    · rw [if_pos c1, decide_eq_true c1]
      rfl
    · rw [if_neg c1, decide_eq_false c1]
      by_cases c2 : key[i] < 0
      · rw [if_pos c2, decide_eq_true c2]
        rfl
      · rw [if_neg c2, decide_eq_false c2]
        rfl
theorem st_l1 (key : List Int) (x5 : Bool) (a x7 : List (List S28)) (ha : a.length ≤ 150) (hk9 : key.length ≤ 9) : ∀ (d i k : Nat), i + d = key.length →
    law16_SortedStays.l1 (d * (a.length + 2) + k) key x5 a x7 (i : Int) = some x5 ∨ law16_SortedStays.l1 (d * (a.length + 2) + k) key x5 a x7 (i : Int) = law16_SortedStays.l1 k key x5 a x7 (key.length : Int) := by
  intro d
  induction d with
  | zero =>
    intro i k hi
    obtain rfl : i = key.length := by omega
    right
    rw [Nat.zero_mul, Nat.zero_add]
  | succ d ih =>
    intro i k hi
    have hil : i < key.length := by omega
    have hf : (d + 1) * (a.length + 2) + k = (a.length + 1 + (d * (a.length + 2) + k)) + 1 := by rw [Nat.add_mul, Nat.one_mul]; omega
    have h2 := st_l2 key x5 a x7 ha i hil hk9 a.length 0 (d * (a.length + 2) + k) (by omega)
    rw [show ((0 : Nat) : Int) = 0 from rfl] at h2
    rw [hf, law16_SortedStays.l1, if_pos (by omega), h2]
    by_cases hb : (a.drop 0).any (bad key[i]) = true
    · rw [if_pos hb]; exact .inl rfl
    · rw [if_neg hb]; exact ih (i + 1) k (by omega)
theorem st_l3 (M : Nat) (hM : M ≤ 1000000000000000000) (key : List Int) (hk9 : key.length ≤ 9) (m : List (List S28)) (x5 : Bool) (hm : m.length ≤ 150) (hs : ∀ r ∈ m, TU M r) (no : Nat → Nat) (hno : ∀ j, (h : j < m.length) → ∃ r, r.length ≤ 9 ∧ m[j] = withNo (no j) r)
    (hst : ∀ j, (h : j + 1 < m.length) → cmpRow (m[j]'(by omega)) m[j + 1] key = 0 → no j < no (j + 1)) : ∀ (d i k : Nat), 1 ≤ i → i + d = max 1 m.length → d + 2 * M + 1010 ≤ k → law16_SortedStays.l3 k key x5 m (i : Int) = some x5 := by
  intro d
  induction d with
  | zero =>
    intro i k h1 hi hk
    obtain ⟨k, rfl⟩ : ∃ n, k = n + 1 := ⟨k - 1, by omega⟩
    rw [law16_SortedStays.l3, if_neg (by omega)]
  | succ d ih =>
    intro i k h1 hi hk
    obtain ⟨k, rfl⟩ : ∃ n, k = n + 1 := ⟨k - 1, by omega⟩
    obtain ⟨j, rfl⟩ : ∃ j, i = j + 1 := ⟨i - 1, by omega⟩
    have hj1 : j + 1 < m.length := by omega
    have hj : j < m.length := by omega
    obtain ⟨r, hr, er⟩ := hno j hj
    obtain ⟨s, hs2, es⟩ := hno (j + 1) hj1
    have wj : wrap64 (((j + 1 : Nat) : Int) - 1) = (j : Int) := by unfold wrap64; omega
    have lr : (withNo (no j) r).length = r.length + 1 := by unfold withNo; simp
    have ls : (withNo (no (j + 1)) s).length = s.length + 1 := by unfold withNo; simp
    have wr : wrap64 (((withNo (no j) r).length : Int) - 1) = (r.length : Int) := by rw [lr]; unfold wrap64; omega
    have ws : wrap64 (((withNo (no (j + 1)) s).length : Int) - 1) = (s.length : Int) := by rw [ls]; unfold wrap64; omega
    have fr : (rd_T28 (withNo (no j) r) (r.length : Int)).f1 = (no j : Int) := by
      rw [rd28 _ _ (by rw [lr]; omega)]
      unfold withNo
      simp
    have fs : (rd_T28 (withNo (no (j + 1)) s) (s.length : Int)).f1 = (no (j + 1) : Int) := by
      rw [rd28 _ _ (by rw [ls]; omega)]
      unfold withNo
      simp
    have ho := rorder_f M hM k m[j] m[j + 1] key (by omega) (hs _ (List.getElem_mem hj)) (by omega)
    have hst2 := hst j hj1
    rw [er, es] at ho hst2
    rw [law16_SortedStays.l3, if_pos (by omega), wj, if_pos (by omega), if_pos (by omega), rdL3 m j hj, rdL3 m (j + 1) hj1, er, es, wr, ws, if_pos (by omega), if_pos (by rw [lr]; omega), if_pos (by omega), if_pos (by omega), if_pos (by rw [ls]; omega), ho, Option.bind_some, fr, fs, w1 (by omega)]
    by_cases h0 : cmpRow (withNo (no j) r) (withNo (no (j + 1)) s) key = 0
    · have := hst2 h0
      rw [if_pos h0, if_neg (by omega)]
      exact ih (j + 1 + 1) k (by omega) (by omega) (by omega)
    · rw [if_neg h0]
      exact ih (j + 1 + 1) k (by omega) (by omega) (by omega)
theorem by_f2 (rows : List (List S28)) (key : List Int) (hl : rows.length ≤ 1000) (hs : shortRows rows = true) : sorted_By.f rows key = some (ordR rows key) := by
  show byF rows key = _
  unfold byF
  rw [if_pos ⟨by omega, hs⟩]
  rfl
theorem bag_f2 (a b : List (List S28)) (ha : a.length ≤ 10000) (hb : b.length ≤ 10000) : sorted_Bag.f a b = some (bagB a b) := by
  show bagF a b = _
  unfold bagF
  rw [if_pos ⟨ha, hb⟩]
theorem st_end (M : Nat) (hM : M ≤ 1000000000000000000) (key : List Int) (hk9 : key.length ≤ 9) (a : List (List S28)) (ha : a.length ≤ 150) (hs : Short a) (ht : ∀ r ∈ a, TU M r) (k : Nat) (hk : 2 * M + 2000 ≤ k) : law16_SortedStays.l1 (k + 1) key true a (numb a) (key.length : Int) = some true := by
  have oA := ordR_len a key
  have oN := ordR_len (numb a) key
  have hshort : shortRows (numb a) = true := by
    unfold shortRows
    rw [List.all_eq_true]
    intro r hr
    obtain ⟨i, hi, rfl⟩ := List.mem_iff_getElem.1 hr
    rw [numb_get a i hi]
    have := hs _ (List.getElem_mem (show i < a.length by rw [numb_len] at hi; exact hi))
    refine decide_eq_true ?_
    unfold withNo
    simp
    omega
  have hself : ordR (ordR a key) key = ordR a key := ordR_self (fun i j hij hj => ordR_next a key i j hij (by rw [oA] at hj; exact hj))
  have hbag : bagB a (ordR a key) = true := (bagB_iff _ _).2 (ordR_perm a key).symm
  obtain ⟨k2, rfl⟩ : ∃ n, k = n + 1 := ⟨k - 1, by omega⟩
  rw [law16_SortedStays.l1, if_neg (by omega), by_f2 a key (by omega) hs.short, Option.bind_some, by_f2 (numb a) key (by rw [numb_len]; omega) hshort, Option.bind_some, rise_f, Option.bind_some, ordR_rise, if_pos rfl,
    bag_f2 a _ (by omega) (by omega), Option.bind_some, hbag, if_pos rfl, by_f2 (ordR a key) key (by omega) (hs.ord key).short, Option.bind_some, hself, lists_same _ _ (by omega) (hs.ord key) (by omega), Option.bind_some, if_pos rfl]
  have hne : (((ordR (numb a) key).length : Int) != (a.length : Int)) = false := by rw [oN, numb_len]; simp
  rw [hne, law16_SortedStays.j3, if_neg (by decide)]
  obtain ⟨p1, p2⟩ := places_ok (cfRow_ok (numb a) key) (numb a).length
  generalize hP : places (cfRow (numb a) key) (numb a).length = P at p1 p2
  have lP : P.length = a.length := by rw [p2.length_eq, List.length_range, numb_len]
  have eM : ordR (numb a) key = P.map fun i => (numb a).getD i [] := by unfold ordR; rw [hP]
  have plt : ∀ j, (h : j < P.length) → P[j] < a.length := fun j h => by
    have := List.mem_range.1 (p2.mem_iff.1 (List.getElem_mem h))
    rwa [numb_len] at this
  have get : ∀ j, (h : j < (ordR (numb a) key).length) → (ordR (numb a) key)[j] = withNo (P.getD j 0) (a.getD (P.getD j 0) []) := fun j h => by
    have hj : j < P.length := by rw [oN, numb_len] at h; omega
    have hp := plt j hj
    have e0 : P.getD j 0 = P[j] := getD_get P j hj
    rw [e0, List.getD_eq_getElem?_getD, List.getElem?_eq_getElem hp]
    simp only [eM, List.getElem_map]
    rw [List.getD_eq_getElem?_getD, List.getElem?_eq_getElem (by rw [numb_len]; exact hp)]
    exact numb_get a P[j] (by rw [numb_len]; exact hp)
  have hlen : (ordR (numb a) key).length = a.length := by rw [oN, numb_len]
  have hTU : ∀ r ∈ ordR (numb a) key, TU M r := by
    intro r hr v hv
    have hr2 := (ordR_perm (numb a) key).mem_iff.1 hr
    obtain ⟨i, hi, rfl⟩ := List.mem_iff_getElem.1 hr2
    rw [numb_get a i hi] at hv
    unfold withNo at hv
    rcases List.mem_append.1 hv with h | h
    · exact ht _ (List.getElem_mem _) v h
    · rw [List.mem_singleton.1 h]
      exact Nat.zero_le _
  have := st_l3 M hM key hk9 (ordR (numb a) key) true (by omega) hTU (fun j => P.getD j 0) (fun j h => ⟨a.getD (P.getD j 0) [], by
      have hp := plt j (by omega)
      rw [getD_get P j (by omega), List.getD_eq_getElem?_getD, List.getElem?_eq_getElem hp]
      exact hs _ (List.getElem_mem hp), get j h⟩) (fun j h h0 => by
      have hj : j < P.length := by omega
      have hj1 : j + 1 < P.length := by omega
      have hA := List.pairwise_iff_getElem.1 p1 j (j + 1) hj hj1 (by omega)
      have e1 : (ordR (numb a) key)[j]'(by omega) = (numb a).getD P[j] [] := by simp only [eM, List.getElem_map]
      have e2 : (ordR (numb a) key)[j + 1] = (numb a).getD P[j + 1] [] := by simp only [eM, List.getElem_map]
      rw [e1, e2] at h0
      change cfRow (numb a) key P[j] P[j + 1] = 0 at h0
      rw [getD_get P j hj, getD_get P (j + 1) hj1]
      unfold Ah at hA
      omega) (max 1 (ordR (numb a) key).length - 1) 1 k2 (Nat.le_refl _) (by omega) (by omega)
  exact this
theorem SortedStays : law16_SortedStays.Pure := by
  intro l0 l1 h0 h1 h2 h3
  have hlen : l0.length ≤ 9223372036854775807 := Nat.le_trans h0.1 (by decide)
  have hL := fewL_len l0
  have hS := fewL_short l0
  have hT : ∀ r ∈ fewL l0, TU 140737488351232 r := by
    intro r hr v hv
    obtain ⟨x, hx, rfl⟩ := List.mem_map.1 hr
    exact ((h0.2.2 x (List.mem_of_mem_take hx)).2.2 v (List.mem_of_mem_take hv)).2.2
  have hsh : law16_shown.f = some true := rfl
  by_cases c1 : (l1.length : Int) > 9
  · refine ⟨1200, ?_⟩
    unfold law16_SortedStays.f
    rw [hsh, Option.bind_some, few_f 1200 l0 hlen (by omega), Option.bind_some, if_pos c1]
  · obtain ⟨K, hK⟩ : ∃ K, K = 2 * 140737488351232 + 2000 := ⟨_, rfl⟩
    refine ⟨(fewL l0).length + 1 + (l1.length * ((fewL l0).length + 2) + (K + 1)), ?_⟩
    unfold law16_SortedStays.f
    rw [hsh, Option.bind_some, few_f _ l0 hlen (by omega), Option.bind_some, if_neg c1]
    have s0 := st_l0 l1 true (fewL l0) hL hS (fewL l0).length 0 (l1.length * ((fewL l0).length + 2) + (K + 1)) (by omega)
    rw [List.take_zero, show ((0 : Nat) : Int) = 0 from rfl] at s0
    rw [s0]
    rcases st_l1 l1 true (fewL l0) (numb (fewL l0)) hL (by omega) l1.length 0 (K + 1) (by omega) with s1 | s1
    · exact s1
    · rw [show ((0 : Nat) : Int) = 0 from rfl] at s1
      rw [s1]
      exact st_end 140737488351232 (by omega) l1 (by omega) (fewL l0) hL hS hT K (by omega)
end Go.Proofs.Ythpoeljnmdjjiaa.Pure
