-- Written by this session's program wip/gprint/gprint.py, over the kit's print, with given functions; no text of print.sh's.
import Derived.Test.YthpoeljnmdjjiaaPSrnx0
import Derived.Test.YthpoeljnmdjjiaaHA
namespace Go.Proofs.Ythpoeljnmdjjiaa.PSrn
open Go.RowKit Go.Proofs.YthpoeljnmdjjiaaW.PrintWords Go.Proofs.YthpoeljnmdjjiaaW.PrintLast Go.Proofs.YthpoeljnmdjjiaaW.PrintMore
attribute [local go_sem] max2_int min2_int max_two min_two max_three min_three max_four min_four   -- for this text's walks alone
set_option linter.unusedVariables false
set_option linter.unusedSimpArgs false

/-! ### flt_Key: function 80 -/
-- GIVEN BY HAND
def flt_Key.f (a0 : Int) : Option (Int) := Go.Proofs.Ythpoeljnmdjjiaa.Hand.fltKey a0
theorem flt_Key.calls (a0 : Int) (r : Int) (w : World) (h : flt_Key.f a0 = some r) :
    Calls Try.prog 80 #[.int .u64 a0] w fun e w' => e = .returned (.int .u64 r) ∧ Drawn0 w w' :=
  Go.Proofs.Ythpoeljnmdjjiaa.Hand.fltKey_calls a0 r w h

end Go.Proofs.Ythpoeljnmdjjiaa.PSrn
