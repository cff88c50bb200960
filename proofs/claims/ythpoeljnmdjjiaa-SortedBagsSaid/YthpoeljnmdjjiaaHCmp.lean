/-
  By hand: cmp.Compare of texts (the model's 'greater' is neither less nor the same).
-/
import Derived.Test.YthpoeljnmdjjiaaProg
import Derived.Test.YthpoeljnmdjjiaaTw
import Derived.Lib.Hide
import Derived.WalkLawsBesides
namespace Go.Proofs.Ythpoeljnmdjjiaa.Hand
open Go.RowKit Go.Proofs.YthpoeljnmdjjiaaW.PrintWords

def strCmp (a b : ByteArray) : Int := if Op.bytesLess a.toList b.toList = true then -1 else if a.toList = b.toList then 0 else 1

theorem isNaNs_calls (a : ByteArray) (w : World) : Calls Try.prog 81 #[.string a] w fun e w' => e = .returned (.bool false) ∧ Drawn0 w w' := by
  go_enter Try.func81, Try.ntmps81
  go_wp2
  go_ret
  exact ⟨by simp, by repeat (first | exact Drawn0.refl _ | apply Drawn0.step)⟩
set_option maxRecDepth 100000 in
theorem strCmp_calls (a b : ByteArray) (w : World) : Calls Try.prog 63 #[.string a, .string b] w fun e w' => e = .returned (.int .i64 (strCmp a b)) ∧ Drawn0 w w' := by
  unfold strCmp
  by_cases c1 : Op.bytesLess a.toList b.toList = true
  · rw [if_pos c1]
    go_enter Try.func63, Try.ntmps63
    go_wp2_with (first | (go_at_call 81; refine (isNaNs_calls a _).mono ?_; rintro e w1 ⟨rfl, ⟨nd, rfl⟩⟩) | (go_at_call 81; refine (isNaNs_calls b _).mono ?_; rintro e w1 ⟨rfl, ⟨nd2, rfl⟩⟩))
    go_ret
    exact ⟨by first | rfl | (simp; done) | (simp [*]; done), by repeat (first | exact Drawn0.refl _ | apply Drawn0.step)⟩
  · rw [if_neg c1]
    have c1b : Op.bytesLess a.toList b.toList = false := by simpa using c1
    clear c1
    by_cases c2 : a.toList = b.toList
    · rw [if_pos c2]
      have c2b : (a.toList == b.toList) = true := beq_iff_eq.mpr c2
      have c3b : (Op.bytesLess a.toList b.toList || a.toList == b.toList) = true := by rw [c1b, c2b]; rfl
      clear c2
      go_enter Try.func63, Try.ntmps63
      go_wp2_with (first | (go_at_call 81; refine (isNaNs_calls a _).mono ?_; rintro e w1 ⟨rfl, ⟨nd, rfl⟩⟩) | (go_at_call 81; refine (isNaNs_calls b _).mono ?_; rintro e w1 ⟨rfl, ⟨nd2, rfl⟩⟩))
      go_ret
      exact ⟨by first | rfl | (simp; done) | (simp [*]; done), by repeat (first | exact Drawn0.refl _ | apply Drawn0.step)⟩
    · rw [if_neg c2]
      have c2b : (a.toList == b.toList) = false := beq_eq_false_iff_ne.mpr c2
      have c3b : (Op.bytesLess a.toList b.toList || a.toList == b.toList) = false := by rw [c1b, c2b]; rfl
      clear c2
      go_enter Try.func63, Try.ntmps63
      go_wp2_with (first | (go_at_call 81; refine (isNaNs_calls a _).mono ?_; rintro e w1 ⟨rfl, ⟨nd, rfl⟩⟩) | (go_at_call 81; refine (isNaNs_calls b _).mono ?_; rintro e w1 ⟨rfl, ⟨nd2, rfl⟩⟩))
      go_ret
      exact ⟨by first | rfl | (simp; done) | (simp [*]; done), by repeat (first | exact Drawn0.refl _ | apply Drawn0.step)⟩
end Go.Proofs.Ythpoeljnmdjjiaa.Hand
