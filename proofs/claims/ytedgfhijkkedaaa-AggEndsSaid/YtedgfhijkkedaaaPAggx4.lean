-- Written by this session's program wip/gprint/gprint.py, over the kit's print, with given functions; no text of print.sh's.
import Derived.Test.YtedgfhijkkedaaaPAggx0
import Derived.Test.YtedgfhijkkedaaaHKey
namespace Go.Proofs.Ytedgfhijkkedaaa.PAgg
open Go.RowKit Go.Proofs.YtedgfhijkkedaaaW.PrintWords Go.Proofs.YtedgfhijkkedaaaW.PrintLast Go.Proofs.YtedgfhijkkedaaaW.PrintMore
attribute [local go_sem] max2_int min2_int max_two min_two max_three min_three max_four min_four   -- for this text's walks alone
set_option linter.unusedVariables false
set_option linter.unusedSimpArgs false

/-! ### flt_Key: function 47 -/
-- GIVEN BY HAND
def flt_Key.f (a0 : Int) : Option (Int) := Go.Proofs.Ytedgfhijkkedaaa.Hand.fltKey a0
theorem flt_Key.calls (a0 : Int) (r : Int) (w : World) (h : flt_Key.f a0 = some r) :
    Calls Try.prog 47 #[.int .u64 a0] w fun e w' => e = .returned (.int .u64 r) ∧ Drawn0 w w' :=
  Go.Proofs.Ytedgfhijkkedaaa.Hand.fltKey_calls a0 r w h

end Go.Proofs.Ytedgfhijkkedaaa.PAgg
