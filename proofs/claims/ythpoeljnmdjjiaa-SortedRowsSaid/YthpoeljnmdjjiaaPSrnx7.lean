-- Written by this session's program wip/gprint/gprint.py, over the kit's print, with given functions; no text of print.sh's.
import Derived.Test.YthpoeljnmdjjiaaPSrnx0
import Derived.Test.YthpoeljnmdjjiaaSvX
namespace Go.Proofs.Ythpoeljnmdjjiaa.PSrn
open Go.RowKit Go.Proofs.YthpoeljnmdjjiaaW.PrintWords Go.Proofs.YthpoeljnmdjjiaaW.PrintLast Go.Proofs.YthpoeljnmdjjiaaW.PrintMore
attribute [local go_sem] max2_int min2_int max_two min_two max_three min_three max_four min_four   -- for this text's walks alone
set_option linter.unusedVariables false
set_option linter.unusedSimpArgs false

/-! ### sorted_By: function 11 -/
-- GIVEN BY HAND
def sorted_By.f (l0 : List (List S28)) (l1 : List Int) : Option (List (List S28)) := byF l0 l1
theorem sorted_By.calls (A0 : Option Addr) (c0 : Nat) (l0 : List (List S28)) (A1 : Option Addr) (c1 : Nat) (l1 : List Int) (r1 : List (List S28)) (w : World)
    (hr0 : Kd.C (Kd.slice 28 k28) w A0 l0.length l0) (hc0 : l0.length ≤ c0) (hr1 : Kd.C (Kd.int .i64) w A1 l1.length l1) (hc1 : l1.length ≤ c1) (h : sorted_By.f l0 l1 = some r1) :
    Calls Try.prog 11 #[.slice A0 l0.length c0, .slice A1 l1.length c1] w fun e w' => ∃ v, e = .returned v ∧ Kd.S (Kd.slice 28 k28) 26 w' w.heap.size (fun _ => True) v r1 ∧ Below w.heap.size w w' :=
  by_calls A0 c0 l0 A1 c1 l1 r1 w hr0 hc0 hr1 hc1 h

/-! ### sorted_Rise: function 12 -/
-- GIVEN BY HAND
def sorted_Rise.f (l0 : List (List S28)) (l1 : List Int) : Option Bool := riseF l0 l1
theorem sorted_Rise.calls (A0 : Option Addr) (c0 : Nat) (l0 : List (List S28)) (A1 : Option Addr) (c1 : Nat) (l1 : List Int) (r1 : Bool) (w : World)
    (hr0 : Kd.C (Kd.slice 28 k28) w A0 l0.length l0) (hc0 : l0.length ≤ c0) (hr1 : Kd.C (Kd.int .i64) w A1 l1.length l1) (hc1 : l1.length ≤ c1) (h : sorted_Rise.f l0 l1 = some r1) :
    Calls Try.prog 12 #[.slice A0 l0.length c0, .slice A1 l1.length c1] w fun e w' => e = .returned (.bool r1) ∧ Below w.heap.size w w' :=
  rise_calls A0 c0 l0 A1 c1 l1 r1 w hr0 hc0 hr1 hc1 h

end Go.Proofs.Ythpoeljnmdjjiaa.PSrn
