/-
  The plain law of SortedMerges: rows put in order in two parts and then together are the rows in order.
-/
import Derived.Test.YthpoeljnmdjjiaaPSrnx13
import Derived.Test.YthpoeljnmdjjiaaSpA
namespace Go.Proofs.Ythpoeljnmdjjiaa.Pure
open Go.RowKit Go.Proofs.Ythpoeljnmdjjiaa.PSrn Go.Proofs.Ythpoeljnmdjjiaa.Hand Go.Proofs.Ythpoeljnmdjjiaa.Srt Go.Proofs.YthpoeljnmdjjiaaW.PrintWords Go.Proofs.YthpoeljnmdjjiaaW.PrintLast
set_option linter.unusedVariables false

/-- Where a row of the parts in order stands in the rows as they came. -/
def toPlace (P Q : List Nat) (n i : Nat) : Nat := if i < n then P.getD i 0 else n + Q.getD (i - n) 0
theorem merges (a b : List (List S28)) (key : List Int) : ordR (ordR a key ++ ordR b key) key = ordR (a ++ b) key := by
  obtain ⟨pa1, pa2⟩ := places_ok (cfRow_ok a key) a.length
  obtain ⟨pb1, pb2⟩ := places_ok (cfRow_ok b key) b.length
  have lA : (ordR a key).length = a.length := ordR_len a key
  have lB : (ordR b key).length = b.length := ordR_len b key
  generalize hPA : places (cfRow a key) a.length = PA at pa1 pa2
  generalize hPB : places (cfRow b key) b.length = PB at pb1 pb2
  have lPA : PA.length = a.length := by rw [pa2.length_eq, List.length_range]
  have lPB : PB.length = b.length := by rw [pb2.length_eq, List.length_range]
  have eA : ordR a key = PA.map fun i => a.getD i [] := by unfold ordR; rw [hPA]
  have eB : ordR b key = PB.map fun i => b.getD i [] := by unfold ordR; rw [hPB]
  have mA : ∀ i, (h : i < a.length) → PA.getD i 0 < a.length := fun i h => by
    rw [getD_get _ _ (by omega)]
    exact List.mem_range.1 (pa2.mem_iff.1 (List.getElem_mem _))
  have mB : ∀ i, (h : i < b.length) → PB.getD i 0 < b.length := fun i h => by
    rw [getD_get _ _ (by omega)]
    exact List.mem_range.1 (pb2.mem_iff.1 (List.getElem_mem _))
  have lt2 : (ordR a key ++ ordR b key).length = a.length + b.length := by rw [List.length_append, lA, lB]
  -- a row of the parts is the row at its place
  have row : ∀ i, i < a.length + b.length → (ordR a key ++ ordR b key).getD i [] = (a ++ b).getD (toPlace PA PB a.length i) [] := by
    intro i hi
    unfold toPlace
    by_cases h : i < a.length
    · rw [if_pos h, List.getD_eq_getElem?_getD, List.getElem?_append_left (by omega), ← List.getD_eq_getElem?_getD, eA, getD_map _ _ _ (by omega)]
      have := mA i h
      rw [List.getD_eq_getElem?_getD (l := a ++ b), List.getElem?_append_left this, ← List.getD_eq_getElem?_getD]
    · rw [if_neg h, List.getD_eq_getElem?_getD, List.getElem?_append_right (by omega), ← List.getD_eq_getElem?_getD, lA, eB, getD_map _ _ _ (by omega)]
      rw [List.getD_eq_getElem?_getD (l := a ++ b), List.getElem?_append_right (by omega), ← List.getD_eq_getElem?_getD, Nat.add_sub_cancel_left]
  have lAB : (a ++ b).length = a.length + b.length := List.length_append
  obtain ⟨z1, z2⟩ := places_ok (cfRow_ok (ordR a key ++ ordR b key) key) (a.length + b.length)
  generalize hZ : places (cfRow (ordR a key ++ ordR b key) key) (a.length + b.length) = Z at z1 z2
  have zlt : ∀ z ∈ Z, z < a.length + b.length := fun z hz => List.mem_range.1 (z2.mem_iff.1 hz)
  -- the places are in order
  have hsrd : Srd (cfRow (a ++ b) key) (Z.map (toPlace PA PB a.length)) := by
    refine List.pairwise_map.2 (List.Pairwise.imp_of_mem (fun {i j} hi hj h => ?_) z1)
    have hi := zlt i hi
    have hj := zlt j hj
    have hcf : cfRow (ordR a key ++ ordR b key) key i j = cfRow (a ++ b) key (toPlace PA PB a.length i) (toPlace PA PB a.length j) := by
      unfold cfRow
      rw [row i hi, row j hj]
    unfold Ah at h ⊢
    rw [hcf] at h
    rcases h with h | ⟨h, hij⟩
    · exact .inl h
    · refine .inr ⟨h, ?_⟩
      unfold toPlace at h ⊢
      by_cases hja : j < a.length
      · rw [if_pos (show i < a.length by omega), if_pos hja] at h ⊢
        have hp := List.pairwise_iff_getElem.1 pa1 i j (by omega) (by omega) hij
        rw [← getD_get _ _ (by omega), ← getD_get _ _ (by omega)] at hp
        have e : cfRow (a ++ b) key (PA.getD i 0) (PA.getD j 0) = cfRow a key (PA.getD i 0) (PA.getD j 0) := by
          have h1 := mA i (by omega)
          have h2 := mA j hja
          unfold cfRow
          rw [List.getD_eq_getElem?_getD (l := a ++ b), List.getElem?_append_left h1, ← List.getD_eq_getElem?_getD, List.getD_eq_getElem?_getD (l := a ++ b), List.getElem?_append_left h2, ← List.getD_eq_getElem?_getD]
        rw [e] at h
        unfold Ah at hp
        omega
      · rw [if_neg hja] at h ⊢
        by_cases hia : i < a.length
        · rw [if_pos hia]
          have := mA i hia
          omega
        · rw [if_neg hia] at h ⊢
          have hp := List.pairwise_iff_getElem.1 pb1 (i - a.length) (j - a.length) (by omega) (by omega) (by omega)
          rw [← getD_get _ _ (by omega), ← getD_get _ _ (by omega)] at hp
          have e : cfRow (a ++ b) key (a.length + PB.getD (i - a.length) 0) (a.length + PB.getD (j - a.length) 0) = cfRow b key (PB.getD (i - a.length) 0) (PB.getD (j - a.length) 0) := by
            unfold cfRow
            rw [List.getD_eq_getElem?_getD (l := a ++ b), List.getElem?_append_right (by omega), ← List.getD_eq_getElem?_getD, Nat.add_sub_cancel_left, List.getD_eq_getElem?_getD (l := a ++ b), List.getElem?_append_right (by omega), ← List.getD_eq_getElem?_getD, Nat.add_sub_cancel_left]
          rw [e] at h
          unfold Ah at hp
          omega
  -- and they are all places
  have hperm : (Z.map (toPlace PA PB a.length)).Perm (List.range (a.length + b.length)) := by
    refine (z2.map _).trans ?_
    have e : (List.range (a.length + b.length)).map (toPlace PA PB a.length) = PA ++ PB.map (a.length + ·) := by
      refine List.ext_getElem (by simp [lPA, lPB]) (fun i h1 h2 => ?_)
      rw [List.length_map, List.length_range] at h1
      rw [List.getElem_map, List.getElem_range]
      unfold toPlace
      by_cases h : i < a.length
      · rw [if_pos h, List.getElem_append_left (by omega), getD_get _ _ (by omega)]
      · rw [if_neg h, List.getElem_append_right (by omega), List.getElem_map, getD_get _ _ (by omega)]
        simp only [lPA]
    rw [e]
    refine (pa2.append (pb2.map _)).trans ?_
    rw [List.range_add]
  have hpl : Z.map (toPlace PA PB a.length) = places (cfRow (a ++ b) key) (a.length + b.length) := places_unique (cfRow_ok (a ++ b) key) hsrd hperm
  have e1 : ordR (a ++ b) key = (places (cfRow (a ++ b) key) (a.length + b.length)).map fun i => (a ++ b).getD i [] := by unfold ordR; rw [lAB]
  have e2 : ordR (ordR a key ++ ordR b key) key = Z.map fun i => (ordR a key ++ ordR b key).getD i [] := by
    show (places (cfRow (ordR a key ++ ordR b key) key) (ordR a key ++ ordR b key).length).map _ = _
    rw [lt2, hZ]
  rw [e1, e2, ← hpl, List.map_map]
  refine List.map_congr_left (fun z hz => ?_)
  exact row z (zlt z hz)

theorem SortedMerges : law16_SortedMerges.Pure := by
  intro l0 l1 l2 h0 h1 h2 h3 h4
  refine ⟨1200, ?_⟩
  have hlen0 : l0.length ≤ 9223372036854775807 := Nat.le_trans h0.1 (by decide)
  have hlen1 : l1.length ≤ 9223372036854775807 := Nat.le_trans h1.1 (by decide)
  have hL0 := fewL_len l0
  have hS0 := fewL_short l0
  have hL1 := fewL_len l1
  have hS1 := fewL_short l1
  have hsh : law16_shown.f = some true := rfl
  unfold law16_SortedMerges.f
  rw [hsh, Option.bind_some, few_f 1200 l0 hlen0 (by omega), Option.bind_some, few_f 1200 l1 hlen1 (by omega), Option.bind_some]
  generalize fewL l0 = a at *
  generalize fewL l1 = b at *
  have oA := ordR_len a l2
  have oB := ordR_len b l2
  by_cases c1 : (l2.length : Int) > 9
  · rw [if_pos c1]
  · rw [if_neg c1, Option.bind_some, if_pos (by simp; omega), Option.bind_some, List.nil_append, if_pos (by omega), by_f (a ++ b) l2 (by rw [List.length_append]; omega) (hS0.append hS1), Option.bind_some, Option.bind_some,
      by_f a l2 (by omega) hS0, Option.bind_some, if_pos (by simp; omega), Option.bind_some, List.nil_append, by_f b l2 (by omega) hS1, Option.bind_some, if_pos (by omega),
      by_f (ordR a l2 ++ ordR b l2) l2 (by rw [List.length_append]; omega) ((hS0.ord l2).append (hS1.ord l2)), Option.bind_some, if_pos rfl, merges a b l2]
    have hl := ordR_len (a ++ b) l2
    rw [List.length_append] at hl
    rw [lists_same 1200 (ordR (a ++ b) l2) (by omega) ((hS0.append hS1).ord l2) (by omega), Option.bind_some, if_pos rfl, hl]
    have hw : wrap64 ((a.length : Int) + (b.length : Int)) = ((a.length + b.length : Nat) : Int) := by unfold wrap64; omega
    rw [hw]
    simp
end Go.Proofs.Ythpoeljnmdjjiaa.Pure
