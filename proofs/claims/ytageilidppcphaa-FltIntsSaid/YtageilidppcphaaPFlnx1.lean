-- Written by this session's program wip/gprint/gprint.py, over the kit's print, with given functions; no text of print.sh's.
import Derived.Test.YtageilidppcphaaPFlnx0
import Derived.Test.YtageilidppcphaaHWhole
import Derived.Test.YtageilidppcphaaHKey
namespace Go.Proofs.Ytageilidppcphaa.PFln
open Go.RowKit Go.Proofs.YtageilidppcphaaW.PrintWords Go.Proofs.YtageilidppcphaaW.PrintLast Go.Proofs.YtageilidppcphaaW.PrintMore
attribute [local go_sem] max2_int min2_int max_two min_two max_three min_three max_four min_four   -- for this text's walks alone
set_option linter.unusedVariables false
set_option linter.unusedSimpArgs false

/-! ### flt_Whole: function 11 -/
-- GIVEN BY HAND
def flt_Whole.f (a0 : Int) : Option (Int × Bool) := Go.Proofs.Ytageilidppcphaa.Hand.fltWhole a0
theorem flt_Whole.calls (a0 : Int) (r1 : Int) (r2 : Bool) (w : World) (h : flt_Whole.f a0 = some (r1, r2)) :
    Calls Try.prog 11 #[.int .u64 a0] w fun e w' => e = .returned (.tuple #[.int .i64 r1, .bool r2]) ∧ Drawn0 w w' :=
  Go.Proofs.Ytageilidppcphaa.Hand.fltWhole_calls a0 r1 r2 w h

/-! ### flt_Key: function 19 -/
-- GIVEN BY HAND
def flt_Key.f (a0 : Int) : Option (Int) := Go.Proofs.Ytageilidppcphaa.Hand.fltKey a0
theorem flt_Key.calls (a0 : Int) (r : Int) (w : World) (h : flt_Key.f a0 = some r) :
    Calls Try.prog 19 #[.int .u64 a0] w fun e w' => e = .returned (.int .u64 r) ∧ Drawn0 w w' :=
  Go.Proofs.Ytageilidppcphaa.Hand.fltKey_calls a0 r w h

end Go.Proofs.Ytageilidppcphaa.PFln
