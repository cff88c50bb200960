-- Written by this session's program wip/gprint/gprint.py, over the kit's print, with given functions; no text of print.sh's.
import Derived.Test.YthooijfdlamkkaaPVbkx0
import Derived.Test.YthooijfdlamkkaaHKey
import Derived.Test.YthooijfdlamkkaaHGet
import Derived.Test.YthooijfdlamkkaaHZag
namespace Go.Proofs.Ythooijfdlamkkaa.PVbk
open Go.RowKit Go.Proofs.YthooijfdlamkkaaW.PrintWords Go.Proofs.YthooijfdlamkkaaW.PrintLast Go.Proofs.YthooijfdlamkkaaW.PrintMore
attribute [local go_sem] max2_int min2_int max_two min_two max_three min_three max_four min_four   -- for this text's walks alone
set_option linter.unusedVariables false
set_option linter.unusedSimpArgs false

/-! ### leb_Get: function 33 -/
-- GIVEN BY HAND
def leb_Get.f (l0 : List Int) : Option (Int × Int × Int) := Go.Proofs.Ythooijfdlamkkaa.Hand.lebGet l0
theorem leb_Get.calls (A0 : Option Addr) (c0 : Nat) (l0 : List Int) (r1 : Int) (r2 : Int) (r3 : Int) (w : World) (hr0 : Kd.C (Kd.int .u8) w A0 l0.length l0) (hc0 : l0.length ≤ c0) (h : leb_Get.f l0 = some (r1, r2, r3)) :
    Calls Try.prog 33 #[.slice A0 l0.length c0] w fun e w' => e = .returned (.tuple #[.int .u64 r1, .int .i64 r2, .int .i64 r3]) ∧ Below w.heap.size w w' :=
  Go.Proofs.Ythooijfdlamkkaa.Hand.lebGet_calls A0 c0 l0 r1 r2 r3 w hr0 hc0 h

/-! ### leb_Zag: function 34 -/
-- GIVEN BY HAND
def leb_Zag.f (a0 : Int) : Option (Int) := Go.Proofs.Ythooijfdlamkkaa.Hand.lebZag a0
theorem leb_Zag.calls (a0 : Int) (r : Int) (w : World) (h : leb_Zag.f a0 = some r) :
    Calls Try.prog 34 #[.int .u64 a0] w fun e w' => e = .returned (.int .i64 r) ∧ Drawn0 w w' :=
  Go.Proofs.Ythooijfdlamkkaa.Hand.lebZag_calls a0 r w h

/-! ### flt_Bits: function 49 -/
-- GIVEN BY HAND
def flt_Bits.f (a0 : Int) : Option (Int) := Go.Proofs.Ythooijfdlamkkaa.Hand.fltBits a0
theorem flt_Bits.calls (a0 : Int) (r : Int) (w : World) (h : flt_Bits.f a0 = some r) :
    Calls Try.prog 49 #[.int .u64 a0] w fun e w' => e = .returned (.int .u64 r) ∧ Drawn0 w w' :=
  Go.Proofs.Ythooijfdlamkkaa.Hand.fltBits_calls a0 r w h

end Go.Proofs.Ythooijfdlamkkaa.PVbk
