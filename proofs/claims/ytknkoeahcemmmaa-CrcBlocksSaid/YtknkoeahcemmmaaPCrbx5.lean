-- Written by this session's program wip/gprint/gprint.py, over the kit's print, with given functions; no text of print.sh's.
import Derived.Test.YtknkoeahcemmmaaPCrbx0
import Derived.Test.YtknkoeahcemmmaaHCrcB
namespace Go.Proofs.Ytknkoeahcemmmaa.PCrb
open Go.RowKit Go.Proofs.YtknkoeahcemmmaaW.PrintWords Go.Proofs.YtknkoeahcemmmaaW.PrintLast Go.Proofs.YtknkoeahcemmmaaW.PrintMore
attribute [local go_sem] max2_int min2_int max_two min_two max_three min_three max_four min_four   -- for this text's walks alone
set_option linter.unusedVariables false
set_option linter.unusedSimpArgs false

/-! ### crc_Block: function 18 -/
-- GIVEN BY HAND
def crc_Block.f (l0 : List Int) : Option (List Int) := Go.Proofs.Ytknkoeahcemmmaa.Hand.crcBlock l0
theorem crc_Block.calls (A0 : Option Addr) (c0 : Nat) (l0 : List Int) (r : List Int) (w : World) (hr0 : Kd.C (Kd.int .u8) w A0 l0.length l0) (hc0 : l0.length ≤ c0) (h : crc_Block.f l0 = some r) :
    Calls Try.prog 18 #[.slice A0 l0.length c0] w fun e w' => ∃ v0_ : Value, e = .returned (v0_) ∧ Kd.R (Kd.int .u8) 5 w' w.heap.size (fun _ => True) v0_ r ∧ Below w.heap.size w w' :=
  Go.Proofs.Ytknkoeahcemmmaa.Hand.crcBlock_calls A0 c0 l0 r w hr0 hc0 h

end Go.Proofs.Ytknkoeahcemmmaa.PCrb
