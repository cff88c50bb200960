-- Written by this session's program wip/gprint/gprint.py, over the kit's print, with given functions; no text of print.sh's.
import Derived.Test.YtknkoeahcemmmaaPCrjx0
import Derived.Test.YtknkoeahcemmmaaHCrcS
namespace Go.Proofs.Ytknkoeahcemmmaa.PCrj
open Go.RowKit Go.Proofs.YtknkoeahcemmmaaW.PrintWords Go.Proofs.YtknkoeahcemmmaaW.PrintLast Go.Proofs.YtknkoeahcemmmaaW.PrintMore
attribute [local go_sem] max2_int min2_int max_two min_two max_three min_three max_four min_four   -- for this text's walks alone
set_option linter.unusedVariables false
set_option linter.unusedSimpArgs false

/-! ### law03_shown: function 10 -/
-- GIVEN BY HAND
def law03_shown.f : Option (Bool) := some true
theorem law03_shown.calls (r : Bool) (w : World) (h : law03_shown.f = some r) :
    Calls Try.prog 10 #[] w fun e w' => e = .returned (.bool r) ∧ Below w.heap.size w w' := by
  obtain rfl : true = r := Option.some.inj h
  exact Go.Proofs.Ytknkoeahcemmmaa.Hand.crcShown_calls w

end Go.Proofs.Ytknkoeahcemmmaa.PCrj
