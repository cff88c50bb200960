-- Written by this session's program wip/gprint/gprint.py, over the kit's print, with given functions; no text of print.sh's.
import Derived.Test.YthooijfdlamkkaaPVflx0
import Derived.Test.YthooijfdlamkkaaHVal
namespace Go.Proofs.Ythooijfdlamkkaa.PVfl
open Go.RowKit Go.Proofs.YthooijfdlamkkaaW.PrintWords Go.Proofs.YthooijfdlamkkaaW.PrintLast Go.Proofs.YthooijfdlamkkaaW.PrintMore
attribute [local go_sem] max2_int min2_int max_two min_two max_three min_three max_four min_four   -- for this text's walks alone
set_option linter.unusedVariables false
set_option linter.unusedSimpArgs false

/-! ### val_Clean: function 14 -/
-- GIVEN BY HAND
def val_Clean.f (a0_0 : Int) (a0_1 : Int) (a0_2 : ByteArray) : Option (Int × Int × ByteArray) := Go.Proofs.Ythooijfdlamkkaa.Hand.valClean a0_0 a0_1 a0_2
theorem val_Clean.calls (a0_0 : Int) (a0_1 : Int) (a0_2 : ByteArray) (r1 : Int) (r2 : Int) (r3 : ByteArray) (w : World) (h : val_Clean.f a0_0 a0_1 a0_2 = some (r1, r2, r3)) :
    Calls Try.prog 14 #[.agg #[.int .i64 a0_0, .int .i64 a0_1, .string a0_2]] w fun e w' => e = .returned (.agg #[.int .i64 r1, .int .i64 r2, .string r3]) ∧ Below w.heap.size w w' :=
  Go.Proofs.Ythooijfdlamkkaa.Hand.valClean_calls a0_0 a0_1 a0_2 r1 r2 r3 w h

end Go.Proofs.Ythooijfdlamkkaa.PVfl
