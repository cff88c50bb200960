/-
  Sorting, by hand: the order of whole rows (sorted.full, slices.CompareFunc), in which no unlike ones are alike.
-/
import Derived.Test.YthpoeljnmdjjiaaSvE
namespace Go.Proofs.Ythpoeljnmdjjiaa.PSrn
open Go.RowKit Go.Proofs.Ythpoeljnmdjjiaa.Hand Go.Proofs.Ythpoeljnmdjjiaa.Srt Go.Proofs.YthpoeljnmdjjiaaW.PrintWords Go.Proofs.YthpoeljnmdjjiaaW.PrintLast Go.Proofs.YthpoeljnmdjjiaaW.PrintMore
attribute [local go_sem high] eqA28
set_option linter.unusedVariables false
set_option linter.unusedSimpArgs false

def eqV (x y : S28) : Bool := x.f0 == y.f0 && (x.f1 == y.f1 && (x.f2.toList == y.f2.toList))
/-- The order of values in which no unlike ones are alike. -/
def cmpF (x y : S28) : Int :=
  if eqV x y = true then 0 else if x.f0 ≠ y.f0 then cmpI x.f0 y.f0 else if x.f1 < y.f1 ∨ (x.f1 = y.f1 ∧ Op.bytesLess x.f2.toList y.f2.toList = true) then -1 else 1
def fullRow : List S28 → List S28 → Int
  | [], [] => 0
  | [], _ :: _ => -1
  | _ :: _, [] => 1
  | x :: a, y :: b => if cmpF x y = 0 then fullRow a b else cmpF x y

set_option maxHeartbeats 4000000 in
set_option maxRecDepth 100000 in
theorem full1_calls (x y : S28) (w : World) : Calls Try.prog 49 #[.agg #[.int .i64 x.f0, .int .i64 x.f1, .string x.f2], .agg #[.int .i64 y.f0, .int .i64 y.f1, .string y.f2]] w fun e w' => e = .returned (.int .i64 (cmpF x y)) ∧ Below w.heap.size w w' ∧ w.drawn ≤ w'.drawn := by
  have hu28 := Try.underlying28
  obtain ⟨x0, x1, x2⟩ := x
  obtain ⟨y0, y1, y2⟩ := y
  unfold cmpF eqV
  simp only
  have HCI : Aside0 (∀ w1, Calls Try.prog 50 #[.int .i64 x0, .int .i64 y0] w1 fun e w' => e = .returned (.int .i64 (cmpI x0 y0)) ∧ Drawn0 w1 w') := ⟨fun w1 => cmp_Compare_int.calls _ _ _ w1 (cmpi_f x0 y0)⟩
  by_cases h0 : x0 = y0
  · subst h0
    by_cases h1 : x1 = y1
    · subst h1
      by_cases h2 : x2.toList = y2.toList
      · have q2 : (x2.toList == y2.toList) = true := beq_iff_eq.mpr h2
        rw [if_pos (by rw [q2]; simp)]
        go_enter Try.func49, Try.ntmps49
        go_wp2
        go_ret
        exact ⟨rfl, by repeat (first | exact Below.refl _ _ | apply below_alloc), Nat.le_refl _⟩
      · have q2 : (x2.toList == y2.toList) = false := beq_eq_false_iff_ne.mpr h2
        rw [if_neg (by rw [q2]; simp), if_neg (by simp)]
        by_cases h3 : Op.bytesLess x2.toList y2.toList = true
        · rw [if_pos (.inr ⟨rfl, h3⟩)]
          go_enter Try.func49, Try.ntmps49
          go_wp2
          go_ret
          exact ⟨rfl, by repeat (first | exact Below.refl _ _ | apply below_alloc), Nat.le_refl _⟩
        · have h3b : Op.bytesLess x2.toList y2.toList = false := by simpa using h3
          rw [if_neg (by rintro (h | ⟨_, h⟩); exact absurd h (Int.lt_irrefl _); exact h3 h)]
          go_enter Try.func49, Try.ntmps49
          go_wp2
          go_ret
          exact ⟨rfl, by repeat (first | exact Below.refl _ _ | apply below_alloc), Nat.le_refl _⟩
    · have q1 : (x1 == y1) = false := beq_eq_false_iff_ne.mpr h1
      rw [if_neg (by rw [q1]; simp), if_neg (by simp)]
      by_cases h3 : x1 < y1
      · rw [if_pos (.inl h3)]
        have q3 : decide (x1 < y1) = true := decide_eq_true h3
        go_enter Try.func49, Try.ntmps49
        go_wp2
        go_ret
        exact ⟨rfl, by repeat (first | exact Below.refl _ _ | apply below_alloc), Nat.le_refl _⟩
      · rw [if_neg (by rintro (h | ⟨h, _⟩); exact h3 h; exact h1 h)]
        have q3 : decide (x1 < y1) = false := decide_eq_false h3
        go_enter Try.func49, Try.ntmps49
        go_wp2
        go_ret
        exact ⟨rfl, by repeat (first | exact Below.refl _ _ | apply below_alloc), Nat.le_refl _⟩
  · have q0 : (x0 == y0) = false := beq_eq_false_iff_ne.mpr h0
    have q1 : (x0 != y0) = true := by rw [bne, q0]; rfl
    rw [if_neg (by rw [q0]; simp), if_pos h0]
    go_enter Try.func49, Try.ntmps49
    go_wp2_with (go_at_call 50; refine (HCI.out _).mono ?_; rintro e w1 ⟨rfl, ⟨nd, rfl⟩⟩)
    go_ret
    exact ⟨rfl, by repeat (first | exact Below.refl _ _ | apply below_alloc | apply pw_below_drewN), Nat.le_add_right _ _⟩
end Go.Proofs.Ythpoeljnmdjjiaa.PSrn
