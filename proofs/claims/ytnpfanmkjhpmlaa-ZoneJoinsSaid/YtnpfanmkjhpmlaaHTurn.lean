/-
  By hand: zone.turned (a table in an array).
-/
import Derived.Test.YtnpfanmkjhpmlaaProg
import Derived.Test.YtnpfanmkjhpmlaaWWords
import Derived.Lib.Hide
import Derived.WalkLawsBesides
import Derived.Test.YtnpfanmkjhpmlaaWLast
import Derived.Test.YtnpfanmkjhpmlaaWMore
namespace Go.Proofs.Ytnpfanmkjhpmlaa.Hand
open Go.RowKit Go.Proofs.YtnpfanmkjhpmlaaW.PrintWords Go.Proofs.YtnpfanmkjhpmlaaW.PrintLast Go.Proofs.YtnpfanmkjhpmlaaW.PrintMore

def turnedOf (op : Int) : Int := if op = 1 then 2 else if op = 2 then 1 else if op = 3 then 6 else if op = 4 then 5 else if op = 5 then 4 else if op = 6 then 3 else 0

set_option maxRecDepth 100000 in
theorem turned_calls (op : Int) (w : World) : Calls Try.prog 20 #[.int .i64 op] w fun e w' => e = .returned (.int .i64 (turnedOf op)) ∧ Below w.heap.size w w' := by
  by_cases h0 : op < 0
  · have hb : decide (op < 0) = true := decide_eq_true h0
    have e : turnedOf op = 0 := by unfold turnedOf; omega
    rw [e]
    go_enter Try.func20, Try.ntmps20
    go_wp2
    go_ret
    exact ⟨rfl, (Below.refl _ _).alloc (Nat.le_refl _) _⟩
  · by_cases h7 : 7 ≤ op
    · have hb : decide (op < 0) = false := decide_eq_false h0
      have hc : decide (7 ≤ op) = true := decide_eq_true h7
      have e : turnedOf op = 0 := by unfold turnedOf; omega
      rw [e]
      go_enter Try.func20, Try.ntmps20
      go_wp2
      go_ret
      exact ⟨rfl, (Below.refl _ _).alloc (Nat.le_refl _) _⟩
    · rcases (show op = 0 ∨ op = 1 ∨ op = 2 ∨ op = 3 ∨ op = 4 ∨ op = 5 ∨ op = 6 by omega) with rfl | rfl | rfl | rfl | rfl | rfl | rfl
      all_goals
        clear h0 h7
        go_enter Try.func20, Try.ntmps20
        go_wp2
        go_ret
        exact ⟨rfl, (Below.refl _ _).alloc (Nat.le_refl _) _⟩
end Go.Proofs.Ytnpfanmkjhpmlaa.Hand
