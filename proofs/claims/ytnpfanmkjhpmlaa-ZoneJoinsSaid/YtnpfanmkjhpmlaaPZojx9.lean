-- Written by this session's program wip/gprint/gprint.py, over the kit's print, with given functions; no text of print.sh's.
import Derived.Test.YtnpfanmkjhpmlaaPZojx0
import Derived.Test.YtnpfanmkjhpmlaaHTurn
namespace Go.Proofs.Ytnpfanmkjhpmlaa.PZoj
open Go.RowKit Go.Proofs.YtnpfanmkjhpmlaaW.PrintWords Go.Proofs.YtnpfanmkjhpmlaaW.PrintLast Go.Proofs.YtnpfanmkjhpmlaaW.PrintMore
attribute [local go_sem] max2_int min2_int max_two min_two max_three min_three max_four min_four   -- for this text's walks alone
set_option linter.unusedVariables false
set_option linter.unusedSimpArgs false

/-! ### zone_turned: function 20 -/
-- GIVEN BY HAND
def zone_turned.f (a0 : Int) : Option (Int) := some (Go.Proofs.Ytnpfanmkjhpmlaa.Hand.turnedOf a0)
theorem zone_turned.calls (a0 : Int) (r : Int) (w : World) (h : zone_turned.f a0 = some r) :
    Calls Try.prog 20 #[.int .i64 a0] w fun e w' => e = .returned (.int .i64 r) ∧ Below w.heap.size w w' := by
  obtain rfl : Go.Proofs.Ytnpfanmkjhpmlaa.Hand.turnedOf a0 = r := Option.some.inj h
  exact Go.Proofs.Ytnpfanmkjhpmlaa.Hand.turned_calls a0 w

end Go.Proofs.Ytnpfanmkjhpmlaa.PZoj
