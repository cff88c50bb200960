-- Written by this session's program wip/gprint/gprint.py, over the kit's print, with given functions; no text of print.sh's.
import Derived.Test.YtkjlimmdgnahgaaPLlsx0
import Derived.Test.YtkjlimmdgnahgaaHPut
import Derived.Test.YtkjlimmdgnahgaaHShow
namespace Go.Proofs.Ytkjlimmdgnahgaa.PLls
open Go.RowKit Go.Proofs.YtkjlimmdgnahgaaW.PrintWords Go.Proofs.YtkjlimmdgnahgaaW.PrintLast Go.Proofs.YtkjlimmdgnahgaaW.PrintMore
attribute [local go_sem] max2_int min2_int max_two min_two max_three min_three max_four min_four   -- for this text's walks alone
set_option linter.unusedVariables false
set_option linter.unusedSimpArgs false

/-! ### law02_shown: function 10 -/
-- GIVEN BY HAND
def law02_shown.f : Option (Bool) := some true
theorem law02_shown.calls (r : Bool) (w : World) (h : law02_shown.f = some r) :
    Calls Try.prog 10 #[] w fun e w' => e = .returned (.bool r) ∧ Below w.heap.size w w' := by
  obtain rfl : true = r := Option.some.inj h
  exact Go.Proofs.Ytkjlimmdgnahgaa.Hand.lebShown_calls w

/-! ### leb_Put: function 11 -/
-- GIVEN BY HAND
def leb_Put.f (a0 : Int) : Option (List Int) := Go.Proofs.Ytkjlimmdgnahgaa.Hand.lebPut a0
theorem leb_Put.calls (a0 : Int) (r : List Int) (w : World) (h : leb_Put.f a0 = some r) :
    Calls Try.prog 11 #[.int .u64 a0] w fun e w' => ∃ v0_ : Value, e = .returned (v0_) ∧ Kd.R (Kd.int .u8) 5 w' w.heap.size (fun _ => True) v0_ r ∧ Below w.heap.size w w' :=
  Go.Proofs.Ytkjlimmdgnahgaa.Hand.lebPut_calls a0 r w h

end Go.Proofs.Ytkjlimmdgnahgaa.PLls
