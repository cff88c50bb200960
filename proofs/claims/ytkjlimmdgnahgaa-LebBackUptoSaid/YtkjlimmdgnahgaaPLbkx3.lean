-- Written by this session's program wip/gprint/gprint.py, over the kit's print, with given functions; no text of print.sh's.
import Derived.Test.YtkjlimmdgnahgaaPLbkx0
import Derived.Test.YtkjlimmdgnahgaaHGet
import Derived.Test.YtkjlimmdgnahgaaHZag
namespace Go.Proofs.Ytkjlimmdgnahgaa.PLbk
open Go.RowKit Go.Proofs.YtkjlimmdgnahgaaW.PrintWords Go.Proofs.YtkjlimmdgnahgaaW.PrintLast Go.Proofs.YtkjlimmdgnahgaaW.PrintMore
attribute [local go_sem] max2_int min2_int max_two min_two max_three min_three max_four min_four   -- for this text's walks alone
set_option linter.unusedVariables false
set_option linter.unusedSimpArgs false

/-! ### leb_Get: function 13 -/
-- GIVEN BY HAND
def leb_Get.f (l0 : List Int) : Option (Int × Int × Int) := Go.Proofs.Ytkjlimmdgnahgaa.Hand.lebGet l0
theorem leb_Get.calls (A0 : Option Addr) (c0 : Nat) (l0 : List Int) (r1 : Int) (r2 : Int) (r3 : Int) (w : World) (hr0 : Kd.C (Kd.int .u8) w A0 l0.length l0) (hc0 : l0.length ≤ c0) (h : leb_Get.f l0 = some (r1, r2, r3)) :
    Calls Try.prog 13 #[.slice A0 l0.length c0] w fun e w' => e = .returned (.tuple #[.int .u64 r1, .int .i64 r2, .int .i64 r3]) ∧ Below w.heap.size w w' :=
  Go.Proofs.Ytkjlimmdgnahgaa.Hand.lebGet_calls A0 c0 l0 r1 r2 r3 w hr0 hc0 h

/-! ### leb_Zig: function 16 -/
-- GIVEN BY HAND
def leb_Zig.f (a0 : Int) : Option (Int) := Go.Proofs.Ytkjlimmdgnahgaa.Hand.lebZig a0
theorem leb_Zig.calls (a0 : Int) (r : Int) (w : World) (h : leb_Zig.f a0 = some r) :
    Calls Try.prog 16 #[.int .i64 a0] w fun e w' => e = .returned (.int .u64 r) ∧ Drawn0 w w' :=
  Go.Proofs.Ytkjlimmdgnahgaa.Hand.lebZig_calls a0 r w h

end Go.Proofs.Ytkjlimmdgnahgaa.PLbk
