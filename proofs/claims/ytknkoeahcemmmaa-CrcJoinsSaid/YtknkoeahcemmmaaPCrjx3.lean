-- Written by this session's program wip/gprint/gprint.py, over the kit's print, with given functions; no text of print.sh's.
import Derived.Test.YtknkoeahcemmmaaPCrjx0
import Derived.Test.YtknkoeahcemmmaaHCrcV
namespace Go.Proofs.Ytknkoeahcemmmaa.PCrj
open Go.RowKit Go.Proofs.YtknkoeahcemmmaaW.PrintWords Go.Proofs.YtknkoeahcemmmaaW.PrintLast Go.Proofs.YtknkoeahcemmmaaW.PrintMore
attribute [local go_sem] max2_int min2_int max_two min_two max_three min_three max_four min_four   -- for this text's walks alone
set_option linter.unusedVariables false
set_option linter.unusedSimpArgs false

/-! ### crc_Sum: function 13 -/
-- GIVEN BY HAND
def crc_Sum.f (a0 : Bool) (a1 : Int) (l2 l3 l4 l5 : List Int) : Option Bool :=
  if 0 ≤ a1 ∧ a1 ≤ l2.length ∧ a1 ≤ l3.length ∧ a1 ≤ l4.length ∧ (∀ x ∈ l2, 0 ≤ x ∧ x < 256) ∧ (∀ x ∈ l3, 0 ≤ x ∧ x < 256) ∧ (∀ x ∈ l4, 0 ≤ x ∧ x < 256) ∧ (∀ x ∈ l5, 0 ≤ x ∧ x < 256) then
    some (a0 && (Go.bits .xor .u32 (Go.bits .xor .u32 (Hand.crcSumBy Hand.crcRow (l2.take a1.toNat) : Int) (Hand.crcSumBy Hand.crcRow (l3.take a1.toNat) : Int)) (Hand.crcSumBy Hand.crcRow (l4.take a1.toNat) : Int) == (Hand.crcSumBy Hand.crcRow l5 : Int))) else none
theorem crc_Sum.open {a0 r : Bool} {a1 : Int} {l2 l3 l4 l5 : List Int} (h : crc_Sum.f a0 a1 l2 l3 l4 l5 = some r) (hr : r = true) :
    a0 = true ∧ 0 ≤ a1 ∧ a1 ≤ l2.length ∧ a1 ≤ l3.length ∧ a1 ≤ l4.length ∧ (∀ x ∈ l2, 0 ≤ x ∧ x < 256) ∧ (∀ x ∈ l3, 0 ≤ x ∧ x < 256) ∧ (∀ x ∈ l4, 0 ≤ x ∧ x < 256) ∧ (∀ x ∈ l5, 0 ≤ x ∧ x < 256) ∧
      (Go.bits .xor .u32 (Go.bits .xor .u32 (Hand.crcSumBy Hand.crcRow (l2.take a1.toNat) : Int) (Hand.crcSumBy Hand.crcRow (l3.take a1.toNat) : Int)) (Hand.crcSumBy Hand.crcRow (l4.take a1.toNat) : Int) == (Hand.crcSumBy Hand.crcRow l5 : Int)) = true := by
  subst hr
  unfold crc_Sum.f at h
  split at h
  · rename_i c
    have h := Option.some.inj h
    rw [Bool.and_eq_true] at h
    exact ⟨h.1, c.1, c.2.1, c.2.2.1, c.2.2.2.1, c.2.2.2.2.1, c.2.2.2.2.2.1, c.2.2.2.2.2.2.1, c.2.2.2.2.2.2.2, h.2⟩
  · exact absurd h (by simp)

end Go.Proofs.Ytknkoeahcemmmaa.PCrj
