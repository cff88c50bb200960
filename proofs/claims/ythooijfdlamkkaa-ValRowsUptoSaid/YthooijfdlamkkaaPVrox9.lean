-- Written by this session's program wip/gprint/gprint.py, over the kit's print, with given functions; no text of print.sh's.
import Derived.Test.YthooijfdlamkkaaPVrox0
import Derived.Test.YthooijfdlamkkaaPVrox8
import Derived.Test.YthooijfdlamkkaaHKeep
namespace Go.Proofs.Ythooijfdlamkkaa.PVro
open Go.RowKit Go.Proofs.YthooijfdlamkkaaW.PrintWords Go.Proofs.YthooijfdlamkkaaW.PrintLast Go.Proofs.YthooijfdlamkkaaW.PrintMore
attribute [local go_sem] max2_int min2_int max_two min_two max_three min_three max_four min_four   -- for this text's walks alone
set_option linter.unusedVariables false
set_option linter.unusedSimpArgs false

/-! ### val_Clean: function 14 -/
-- GIVEN BY HAND
/-- Stands for: append(x, b...), then val.Rows of it and y. -/
def val_Clean.f (k : Nat) (l0 l1 l2 : List S23) : Option Int := if l0.length + l1.length < 4398046511104 then val_Rows.f k (l0 ++ l1) l2 else none
theorem val_Clean.mono : ∀ a0 a1 a2 k, LeO (val_Clean.f k a0 a1 a2) (val_Clean.f (k + 1) a0 a1 a2) := fun a0 a1 a2 k => LeO.ite (val_Rows.mono (a0 ++ a1) a2 k) (LeO.refl _)
theorem val_Clean.open {k : Nat} {l0 l1 l2 : List S23} {r : Int} (h : val_Clean.f k l0 l1 l2 = some r) : l0.length + l1.length < 4398046511104 ∧ val_Rows.f k (l0 ++ l1) l2 = some r := by
  unfold val_Clean.f at h
  split at h
  · exact ⟨‹_›, h⟩
  · cases h
theorem flatVal : Go.Proofs.Ythooijfdlamkkaa.Hand.Flat k23 (fun x cs => cs = [.int .i64 x.f0, .int .i64 x.f1, .string x.f2]) := ⟨fun h => k23_open h, fun h => h ▸ k23_mkM _ _ _ _, fun h => k23_openM h⟩

end Go.Proofs.Ythooijfdlamkkaa.PVro
