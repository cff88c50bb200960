-- Written by this session's program wip/gprint/gprint.py, over the kit's print, with given functions; no text of print.sh's.
import Derived.Test.YthooijfdlamkkaaPVbkx0
import Derived.Test.YthooijfdlamkkaaHZag
import Derived.Test.YthooijfdlamkkaaHPut
namespace Go.Proofs.Ythooijfdlamkkaa.PVbk
open Go.RowKit Go.Proofs.YthooijfdlamkkaaW.PrintWords Go.Proofs.YthooijfdlamkkaaW.PrintLast Go.Proofs.YthooijfdlamkkaaW.PrintMore
attribute [local go_sem] max2_int min2_int max_two min_two max_three min_three max_four min_four   -- for this text's walks alone
set_option linter.unusedVariables false
set_option linter.unusedSimpArgs false

/-! ### leb_Put: function 24 -/
-- GIVEN BY HAND
def leb_Put.f (a0 : Int) : Option (List Int) := Go.Proofs.Ythooijfdlamkkaa.Hand.lebPut a0
theorem leb_Put.calls (a0 : Int) (r : List Int) (w : World) (h : leb_Put.f a0 = some r) :
    Calls Try.prog 24 #[.int .u64 a0] w fun e w' => ∃ v0_ : Value, e = .returned (v0_) ∧ Kd.R (Kd.int .u8) 5 w' w.heap.size (fun _ => True) v0_ r ∧ Below w.heap.size w w' :=
  Go.Proofs.Ythooijfdlamkkaa.Hand.lebPut_calls a0 r w h

/-! ### leb_Zig: function 25 -/
-- GIVEN BY HAND
def leb_Zig.f (a0 : Int) : Option (Int) := Go.Proofs.Ythooijfdlamkkaa.Hand.lebZig a0
theorem leb_Zig.calls (a0 : Int) (r : Int) (w : World) (h : leb_Zig.f a0 = some r) :
    Calls Try.prog 25 #[.int .i64 a0] w fun e w' => e = .returned (.int .u64 r) ∧ Drawn0 w w' :=
  Go.Proofs.Ythooijfdlamkkaa.Hand.lebZig_calls a0 r w h

end Go.Proofs.Ythooijfdlamkkaa.PVbk
