/-
  Plain laws for rows in order: what Lists tells.
-/
import Derived.Test.YthpoeljnmdjjiaaSpA
namespace Go.Proofs.Ythpoeljnmdjjiaa.PSrn
open Go.RowKit Go.Proofs.Ythpoeljnmdjjiaa.Hand Go.Proofs.Ythpoeljnmdjjiaa.Srt Go.Proofs.YthpoeljnmdjjiaaW.PrintWords Go.Proofs.YthpoeljnmdjjiaaW.PrintLast Go.Proofs.YthpoeljnmdjjiaaW.PrintMore
set_option linter.unusedVariables false
set_option linter.unusedSimpArgs false

theorem lists_l (x0 x1 : List (List S28)) (hl : x0.length = x1.length) (h0 : x0.length ≤ 9223372036854775807) (hs : Short x0) : ∀ (d k i : Nat), i + d = x0.length → d + 12 ≤ k → ref05_Lists.l0 k x0 x1 (i : Int) = some (eqRows (x0.drop i) (x1.drop i)) := by
  intro d
  induction d with
  | zero =>
    intro k i hi hk
    obtain ⟨k, rfl⟩ : ∃ m, k = m + 1 := ⟨k - 1, by omega⟩
    simp only [ref05_Lists.l0]
    rw [if_neg (by omega), List.drop_eq_nil_of_le (show x0.length ≤ i by omega), List.drop_eq_nil_of_le (show x1.length ≤ i by omega)]
    rfl
  | succ d ih =>
    intro k i hi hk
    obtain ⟨k, rfl⟩ : ∃ m, k = m + 1 := ⟨k - 1, by omega⟩
    have g0 : i < x0.length := by omega
    have g1 : i < x1.length := by omega
    have h9 := hs _ (List.getElem_mem g0)
    simp only [ref05_Lists.l0]
    rw [if_pos (by omega), if_pos (by omega), if_pos (by omega), rdL3 _ _ g0, rdL3 _ _ g1, same_f k _ _ (by omega) (by omega), Option.bind_some]
    rw [List.drop_eq_getElem_cons g0, List.drop_eq_getElem_cons g1]
    have hw : wrap64 ((i : Int) + 1) = ((i + 1 : Nat) : Int) := by unfold wrap64; omega
    unfold eqRows
    cases he : eqRow x0[i] x1[i]
    · rfl
    · rw [if_pos rfl, hw, Bool.true_and]
      exact ih k (i + 1) (by omega) (by omega)
theorem lists_f (k : Nat) (x0 x1 : List (List S28)) (h0 : x0.length ≤ 1000) (hs : Short x0) (hk : 1100 ≤ k) : ref05_Lists.f k x0 x1 = some (eqRows x0 x1) := by
  unfold ref05_Lists.f
  by_cases hl : x0.length = x1.length
  · rw [if_pos (by omega)]
    have := lists_l x0 x1 hl (by omega) hs x0.length k 0 (by omega) (by omega)
    simpa using this
  · rw [if_neg (by omega)]
    congr 1
    symm
    apply Bool.eq_false_iff.2
    intro h
    exact hl (eqRows_len _ _ h)
theorem lists_same (k : Nat) (x : List (List S28)) (h0 : x.length ≤ 1000) (hs : Short x) (hk : 1100 ≤ k) : ref05_Lists.f k x x = some true := by
  rw [lists_f k x x h0 hs hk, eqRows_eq.2 rfl]
end Go.Proofs.Ythpoeljnmdjjiaa.PSrn
