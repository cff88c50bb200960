-- Written by this session's program wip/gprint/gprint.py, over the kit's print, with given functions; no text of print.sh's.
import Derived.Test.YtknkoeahcemmmaaPCrcx0
import Derived.Test.YtknkoeahcemmmaaHCrcS
import Derived.Test.YtknkoeahcemmmaaHCrcB
import Derived.Test.YtknkoeahcemmmaaHCrcO
namespace Go.Proofs.Ytknkoeahcemmmaa.PCrc
open Go.RowKit Go.Proofs.YtknkoeahcemmmaaW.PrintWords Go.Proofs.YtknkoeahcemmmaaW.PrintLast Go.Proofs.YtknkoeahcemmmaaW.PrintMore
attribute [local go_sem] max2_int min2_int max_two min_two max_three min_three max_four min_four   -- for this text's walks alone
set_option linter.unusedVariables false
set_option linter.unusedSimpArgs false

/-! ### law03_shown: function 10 -/
-- GIVEN BY HAND
def law03_shown.f : Option (Bool) := some true
theorem law03_shown.calls (r : Bool) (w : World) (h : law03_shown.f = some r) :
    Calls Try.prog 10 #[] w fun e w' => e = .returned (.bool r) ∧ Below w.heap.size w w' := by
  obtain rfl : true = r := Option.some.inj h
  exact Go.Proofs.Ytknkoeahcemmmaa.Hand.crcShown_calls w

/-! ### crc_Open: function 16 -/
-- GIVEN BY HAND
def crc_Open.f (l0 : List Int) (a1 : Int) : Option (List Int × List Int × Int) := Go.Proofs.Ytknkoeahcemmmaa.Hand.crcOpen l0 a1
theorem crc_Open.calls (A0 : Option Addr) (c0 : Nat) (l0 : List Int) (a1 : Int) (r1 : List Int) (r2 : List Int) (r3 : Int) (w : World) (hr0 : Kd.C (Kd.int .u8) w A0 l0.length l0) (hc0 : l0.length ≤ c0) (h : crc_Open.f l0 a1 = some (r1, r2, r3)) :
    Calls Try.prog 16 #[.slice A0 l0.length c0, .int .i64 a1] w fun e w' => ∃ v0_ v1_ : Value, e = .returned (.tuple #[v0_, v1_, .int .i64 r3]) ∧ Kd.R (Kd.int .u8) 5 w' w.heap.size (fun k_ => some k_ ≠ (v1_ : Value).ownBlock) v0_ r1 ∧ Kd.R (Kd.int .u8) 5 w' w.heap.size (fun k_ => some k_ ≠ (v0_ : Value).ownBlock) v1_ r2 ∧ Below w.heap.size w w' :=
  Go.Proofs.Ytknkoeahcemmmaa.Hand.crcOpen_calls A0 c0 l0 a1 r1 r2 r3 w hr0 hc0 h

/-! ### crc_Block: function 18 -/
-- GIVEN BY HAND
def crc_Block.f (l0 : List Int) : Option (List Int) := Go.Proofs.Ytknkoeahcemmmaa.Hand.crcBlock l0
theorem crc_Block.calls (A0 : Option Addr) (c0 : Nat) (l0 : List Int) (r : List Int) (w : World) (hr0 : Kd.C (Kd.int .u8) w A0 l0.length l0) (hc0 : l0.length ≤ c0) (h : crc_Block.f l0 = some r) :
    Calls Try.prog 18 #[.slice A0 l0.length c0] w fun e w' => ∃ v0_ : Value, e = .returned (v0_) ∧ Kd.R (Kd.int .u8) 5 w' w.heap.size (fun _ => True) v0_ r ∧ Below w.heap.size w w' :=
  Go.Proofs.Ytknkoeahcemmmaa.Hand.crcBlock_calls A0 c0 l0 r w hr0 hc0 h

end Go.Proofs.Ytknkoeahcemmmaa.PCrc
