-- Written by this session's program wip/gprint/gprint.py, over the kit's print, with given functions; no text of print.sh's.
import Derived.Test.YtedgfhijkkedaaaPAggx0
import Derived.Test.YtedgfhijkkedaaaGrG
namespace Go.Proofs.Ytedgfhijkkedaaa.PAgg
open Go.RowKit Go.Proofs.YtedgfhijkkedaaaW.PrintWords Go.Proofs.YtedgfhijkkedaaaW.PrintLast Go.Proofs.YtedgfhijkkedaaaW.PrintMore
attribute [local go_sem] max2_int min2_int max_two min_two max_three min_three max_four min_four   -- for this text's walks alone
set_option linter.unusedVariables false
set_option linter.unusedSimpArgs false

/-! ### agg_Group: function 12 -/
-- GIVEN BY HAND
def agg_Group.f (k : Nat) (l0 : List (List S39)) (a1 : Int) (l2 : List S36) : Option (List (List S39) × Int) := groupF k l0 a1 l2
theorem agg_Group.mono : ∀ a0 a1 a2 k, LeO (agg_Group.f k a0 a1 a2) (agg_Group.f (k + 1) a0 a1 a2) := fun a0 a1 a2 k => groupF_mono a0 a1 a2 k
theorem agg_Group.calls (k : Nat) (A0 : Option Addr) (c0 : Nat) (l0 : List (List S39)) (a1 : Int) (A2 : Option Addr) (c2 : Nat) (l2 : List S36) (r1 : List (List S39)) (r2 : Int) (w : World)
    (hr0 : Kd.C (Kd.slice 39 k39) w A0 l0.length l0) (hc0 : l0.length ≤ c0) (hr2 : Kd.C k36 w A2 l2.length l2) (hc2 : l2.length ≤ c2) (h : agg_Group.f k l0 a1 l2 = some (r1, r2)) :
    Calls Try.prog 12 #[.slice A0 l0.length c0, .int .i64 a1, .slice A2 l2.length c2] w fun e w' => ∃ v, e = .returned (.tuple #[v, .int .i64 r2]) ∧ Kd.S (Kd.slice 39 k39) 32 w' w.heap.size (fun _ => True) v r1 ∧ Below w.heap.size w w' :=
  group_calls k A0 c0 l0 a1 A2 c2 l2 r1 r2 w hr0 hc0 hr2 hc2 h
/-- The same, of a row whose rows may be shared. -/
theorem agg_Group.callsN (k : Nat) (A0 : Option Addr) (c0 : Nat) (l0 : List (List S39)) (a1 : Int) (A2 : Option Addr) (c2 : Nat) (l2 : List S36) (r1 : List (List S39)) (r2 : Int) (w : World)
    (hr0 : Kd.C (Kd.slice 39 k39) w A0 l0.length l0) (hc0 : l0.length ≤ c0) (hr2 : Kd.C k36 w A2 l2.length l2) (hc2 : l2.length ≤ c2) (h : agg_Group.f k l0 a1 l2 = some (r1, r2)) :
    Calls Try.prog 12 #[.slice A0 l0.length c0, .int .i64 a1, .slice A2 l2.length c2] w fun e w' => ∃ v, e = .returned (.tuple #[v, .int .i64 r2]) ∧ Kd.N (Kd.slice 39 k39) 32 w' w.heap.size (fun _ => True) v r1 ∧ Below w.heap.size w w' :=
  (group_calls k A0 c0 l0 a1 A2 c2 l2 r1 r2 w hr0 hc0 hr2 hc2 h).mono fun e w' ⟨v, he, hs, hb⟩ => ⟨v, he, Kd.S_N hs, hb⟩

end Go.Proofs.Ytedgfhijkkedaaa.PAgg
