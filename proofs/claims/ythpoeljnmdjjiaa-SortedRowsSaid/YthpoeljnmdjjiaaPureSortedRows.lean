/-
  The plain law of SortedRows: whether rows may be a table's, the rows in order, whether they rise, their columns and whether two are one bag, is as the document says.
-/
import Derived.Test.YthpoeljnmdjjiaaSpX
namespace Go.Proofs.Ythpoeljnmdjjiaa.Pure
open Go.RowKit Go.Proofs.Ythpoeljnmdjjiaa.PSrn Go.Proofs.Ythpoeljnmdjjiaa.Hand Go.Proofs.Ythpoeljnmdjjiaa.Srt Go.Proofs.YthpoeljnmdjjiaaW.PrintWords Go.Proofs.YthpoeljnmdjjiaaW.PrintLast
set_option linter.unusedVariables false

theorem TU_few {l : List (List S28)} (h0 : Hand.WfRow 24 (Hand.WfRow 32 wfS28) l) : ∀ r ∈ fewL l, TU 140737488351232 r := by
  intro r hr v hv
  obtain ⟨x, hx, rfl⟩ := List.mem_map.1 hr
  exact ((h0.2.2 x (List.mem_of_mem_take hx)).2.2 v (List.mem_of_mem_take hv)).2.2
theorem SortedRows : law16_SortedRows.Pure := by
  intro l0 l1 l2 l3 h0 h1 h2 h3 h4 h5 h6 h7
  have hlen0 : l0.length ≤ 9223372036854775807 := Nat.le_trans h0.1 (by decide)
  have hlen1 : l1.length ≤ 9223372036854775807 := Nat.le_trans h1.1 (by decide)
  have hL0 := fewL_len l0
  have hS0 := fewL_short l0
  have hL1 := fewL_len l1
  have hT0 := TU_few h0
  have hsh : law16_shown.f = some true := rfl
  obtain ⟨K, hK⟩ : ∃ K, K = 2 * 140737488351232 + 100000 := ⟨_, rfl⟩
  refine ⟨K, ?_⟩
  unfold law16_SortedRows.f
  rw [hsh, Option.bind_some, few_f K l0 hlen0 (by omega), Option.bind_some, few_f K l1 hlen1 (by omega), Option.bind_some]
  generalize fewL l0 = a at *
  generalize fewL l1 = b at *
  by_cases c1 : (l3.length : Int) > 9
  · rw [if_pos c1]
  · have hc : sorted_Check.f a l2 = some (checkE a l2) := rfl
    have oA := ordR_len a l3
    rw [if_neg c1, if_pos rfl, hc, Option.bind_some, rcheck_f K a l2 hL0 hS0 (by omega), Option.bind_some, if_pos rfl, by_f a l3 (by omega) hS0, Option.bind_some, rby_f 140737488351232 (by omega) K a l3 (by omega) hL0 hT0 (by omega), Option.bind_some,
      lists_same K _ (by omega) (hS0.ord l3) (by omega), Option.bind_some, if_pos rfl, rise_f, Option.bind_some, rrise_f 140737488351232 (by omega) K a l3 (by omega) (by omega) hT0 (by omega), Option.bind_some, beq_self_eq_true, if_pos rfl,
      cols_f K a l3 (by omega) hL0 (by omega), Option.bind_some, rcols_f K a l3 (by omega) hL0 (by omega), Option.bind_some]
    have hs2 : Short (colsL a l3) := by
      intro r hr
      obtain ⟨q, _, rfl⟩ := List.mem_map.1 hr
      unfold colsR
      rw [List.length_map]; omega
    rw [lists_same K _ (by unfold colsL; rw [List.length_map]; omega) hs2 (by omega), Option.bind_some, if_pos rfl, bag_f a b (by omega) (by omega), Option.bind_some, rbag_f K a b hL0 hL1 hS0 (by omega), Option.bind_some, beq_self_eq_true]
end Go.Proofs.Ythpoeljnmdjjiaa.Pure
