-- Written by this session's program wip/gprint/gprint.py, over the kit's print, with given functions; no text of print.sh's.
import Derived.Test.YtkjlimmdgnahgaaPLlsx0
import Derived.Test.YtkjlimmdgnahgaaHInts
namespace Go.Proofs.Ytkjlimmdgnahgaa.PLls
open Go.RowKit Go.Proofs.YtkjlimmdgnahgaaW.PrintWords Go.Proofs.YtkjlimmdgnahgaaW.PrintLast Go.Proofs.YtkjlimmdgnahgaaW.PrintMore
attribute [local go_sem] max2_int min2_int max_two min_two max_three min_three max_four min_four   -- for this text's walks alone
set_option linter.unusedVariables false
set_option linter.unusedSimpArgs false

/-! ### leb_ToInts: function 21 -/
-- GIVEN BY HAND
def leb_ToInts.f (l0 : List Int) (a1 : Int) : Option (List Int × List Int × Int) := Go.Proofs.Ytkjlimmdgnahgaa.Hand.lebToInts l0 a1
theorem leb_ToInts.calls (A0 : Option Addr) (c0 : Nat) (l0 : List Int) (a1 : Int) (r1 : List Int) (r2 : List Int) (r3 : Int) (w : World) (hr0 : Kd.C (Kd.int .u8) w A0 l0.length l0) (hc0 : l0.length ≤ c0) (h : leb_ToInts.f l0 a1 = some (r1, r2, r3)) :
    Calls Try.prog 21 #[.slice A0 l0.length c0, .int .i64 a1] w fun e w' => ∃ v0_ v1_ : Value, e = .returned (.tuple #[v0_, v1_, .int .i64 r3]) ∧ Kd.R (Kd.int .i64) 2 w' w.heap.size (fun _ => True) v0_ r1 ∧ Kd.R (Kd.int .u8) 5 w' w.heap.size (fun _ => True) v1_ r2 ∧ Below w.heap.size w w' :=
  Go.Proofs.Ytkjlimmdgnahgaa.Hand.lebToInts_calls A0 c0 l0 a1 r1 r2 r3 w hr0 hc0 h

end Go.Proofs.Ytkjlimmdgnahgaa.PLls
