-- Written by this session's program wip/gprint/gprint.py, over the kit's print, with given functions; no text of print.sh's.
import Derived.Test.YtedgfhijkkedaaaPAggx0
import Derived.Test.YtedgfhijkkedaaaHAgg
namespace Go.Proofs.Ytedgfhijkkedaaa.PAgg
open Go.RowKit Go.Proofs.YtedgfhijkkedaaaW.PrintWords Go.Proofs.YtedgfhijkkedaaaW.PrintLast Go.Proofs.YtedgfhijkkedaaaW.PrintMore
attribute [local go_sem] max2_int min2_int max_two min_two max_three min_three max_four min_four   -- for this text's walks alone
set_option linter.unusedVariables false
set_option linter.unusedSimpArgs false

/-! ### agg_Sum: function 10 -/
-- GIVEN BY HAND
def agg_Sum.f (l0 : List Int) : Option (Int × Int) := Go.Proofs.Ytedgfhijkkedaaa.Hand.aggSum l0
theorem agg_Sum.calls (A0 : Option Addr) (c0 : Nat) (l0 : List Int) (r1 : Int) (r2 : Int) (w : World) (hr0 : Kd.C (Kd.int .i64) w A0 l0.length l0) (hc0 : l0.length ≤ c0) (h : agg_Sum.f l0 = some (r1, r2)) :
    Calls Try.prog 10 #[.slice A0 l0.length c0] w fun e w' => e = .returned (.tuple #[.int .i64 r1, .int .i64 r2]) ∧ Drawn0 w w' :=
  Go.Proofs.Ytedgfhijkkedaaa.Hand.aggSum_calls A0 c0 l0 r1 r2 w hr0 hc0 h

end Go.Proofs.Ytedgfhijkkedaaa.PAgg
