/-
  The plain law of SortedNone: by no columns rows stay as they are, and rise; by one column, and by it and others, they rise by it.
-/
import Derived.Test.YthpoeljnmdjjiaaPSrnx13
import Derived.Test.YthpoeljnmdjjiaaSpA
namespace Go.Proofs.Ythpoeljnmdjjiaa.Pure
open Go.RowKit Go.Proofs.Ythpoeljnmdjjiaa.PSrn Go.Proofs.Ythpoeljnmdjjiaa.Hand Go.Proofs.Ythpoeljnmdjjiaa.Srt Go.Proofs.YthpoeljnmdjjiaaW.PrintWords Go.Proofs.YthpoeljnmdjjiaaW.PrintLast
set_option linter.unusedVariables false

theorem SortedNone : law16_SortedNone.Pure := by
  intro l0 l1 h0 h1 h2 h3
  refine ⟨1200, ?_⟩
  have hlen : l0.length ≤ 9223372036854775807 := Nat.le_trans h0.1 (by decide)
  have hL := fewL_len l0
  have hS := fewL_short l0
  have hsh : law16_shown.f = some true := rfl
  have hj : law16_SortedNone.j0 1200 true (fewL l0) false = some true := by
    have hself : ordR (fewL l0) [] = fewL l0 := ordR_self (fun i j _ _ => Int.le_refl _)
    rw [law16_SortedNone.j0, if_neg (by decide), if_pos rfl, by_f _ _ (by omega) hS, Option.bind_some, hself, lists_same _ _ (by omega) hS (by omega), Option.bind_some, if_pos rfl, rise_f, Option.bind_some]
    have hr : riseB (fewL l0) [] = true := (rise_iff _ _).2 (fun j _ => Int.le_refl _)
    rw [hr, if_pos rfl, bag_f _ _ (by simp) (by simp), Option.bind_some, (bagB_iff [] []).2 (List.Perm.refl _)]
  unfold law16_SortedNone.f
  rw [hsh, Option.bind_some, few_f 1200 l0 hlen (by omega), Option.bind_some]
  by_cases c1 : (l1.length : Int) > 9
  · rw [if_pos c1]
  · rw [if_neg c1]
    by_cases c2 : (l1.length : Int) > 0
    · rw [if_pos c2, by_f _ _ (by omega) hS, Option.bind_some, if_pos (by omega), rise_f, Option.bind_some]
      obtain ⟨c, t, rfl⟩ : ∃ c t, l1 = c :: t := by
        cases l1 with
        | nil => simp at c2
        | cons c t => exact ⟨c, t, rfl⟩
      have hr : riseB (ordR (fewL l0) (c :: t)) ((c :: t).take 1) = true := by
        rw [rise_iff]
        intro j hj
        rw [ordR_len] at hj
        exact cmpRow_first _ _ c t (ordR_next (fewL l0) (c :: t) j (j + 1) (by omega) hj)
      rw [hr]
      exact hj
    · rw [if_neg c2]
      exact hj
end Go.Proofs.Ythpoeljnmdjjiaa.Pure
