-- Written by this session's program wip/gprint/gprint.py, over the kit's print, with given functions; no text of print.sh's.
import Derived.Test.YtkjlimmdgnahgaaPLlsx0
import Derived.Test.YtkjlimmdgnahgaaHZag
namespace Go.Proofs.Ytkjlimmdgnahgaa.PLls
open Go.RowKit Go.Proofs.YtkjlimmdgnahgaaW.PrintWords Go.Proofs.YtkjlimmdgnahgaaW.PrintLast Go.Proofs.YtkjlimmdgnahgaaW.PrintMore
attribute [local go_sem] max2_int min2_int max_two min_two max_three min_three max_four min_four   -- for this text's walks alone
set_option linter.unusedVariables false
set_option linter.unusedSimpArgs false

/-! ### leb_Zig: function 16 -/
-- GIVEN BY HAND
def leb_Zig.f (a0 : Int) : Option (Int) := Go.Proofs.Ytkjlimmdgnahgaa.Hand.lebZig a0
theorem leb_Zig.calls (a0 : Int) (r : Int) (w : World) (h : leb_Zig.f a0 = some r) :
    Calls Try.prog 16 #[.int .i64 a0] w fun e w' => e = .returned (.int .u64 r) ∧ Drawn0 w w' :=
  Go.Proofs.Ytkjlimmdgnahgaa.Hand.lebZig_calls a0 r w h

end Go.Proofs.Ytkjlimmdgnahgaa.PLls
