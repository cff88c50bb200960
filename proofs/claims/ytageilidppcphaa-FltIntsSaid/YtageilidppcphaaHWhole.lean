/-
  By hand: the contract of flt.Whole: what the code does with a float64's bits, in the words of the model's own float core.
-/
import Derived.Test.YtageilidppcphaaHFlt
import Derived.Laws.FloatArith
namespace Go.Proofs.Ytageilidppcphaa.Hand
open Go.RowKit Go.Proofs.YtageilidppcphaaW.PrintWords

def inFar (n : Nat) : Bool :=
  (FloatKind.f64.format.order n 14069245235905429504 == some .gt || FloatKind.f64.format.order n 14069245235905429504 == some .eq) &&
  (FloatKind.f64.format.order n 4845873199050653696 == some .lt || FloatKind.f64.format.order n 4845873199050653696 == some .eq)
/-- The number made whole, as a word. -/
def truncW (n : Nat) : Nat := FloatKind.f64.encode ((FloatKind.f64.decode n).integral .zero)
def fltWhole (a : Int) : Option (Int × Bool) :=
  if 0 ≤ a ∧ a < 18446744073709551616 then
    if inFar a.toNat = true then
      if (FloatKind.f64.format.order a.toNat (truncW a.toNat) != some .eq) = true then some (0, false)
      else match floatToIntVal .f64 a.toNat .i64 with
        | some n => some (n, true)
        | none => none
    else some (0, false)
  else none

theorem order_nan (n m : Nat) (h : FloatKind.f64.format.order n m ≠ none) : (FloatKind.f64.decode n).isNaN = false := by
  unfold Ieee.Format.order at h
  unfold FloatKind.decode
  cases hd : FloatKind.f64.format.read n with
  | nan s t => rw [hd] at h; exact absurd rfl h
  | number _ _ _ => rfl
  | infinity _ => rfl

theorem archTrunc (n : Nat) (hn : (FloatKind.f64.decode n).isNaN = false) (w : World) : (callFunc 27 #[.float .f64 n]).run Try.prog w = .ok (.value (.float .f64 (truncW n))) w := by
  rw [run_callFunc_extern (e := Extern.MathFloor.toIntegral "math.archTrunc" .zero) Try.func27 (by kernel_rfl) (by kernel_rfl) (by kernel_rfl) (by kernel_rfl)]
  have key : ∀ d : Ieee.Datum, FloatKind.f64.decode n = d → d.isNaN = false → (Extern.MathFloor.toIntegral "math.archTrunc" .zero #[.float .f64 n]).run Try.prog w = .ok (.float .f64 (FloatKind.f64.encode (d.integral .zero))) w := by
    intro d hd hd2
    change Sem.run Try.prog (match FloatKind.f64.decode n with
      | .nan s t => if FloatKind.f64.format.quiet t = t then pure (Value.float .f64 n) else do
        let kept ← choose (.extern "math.Floor,Ceil,Trunc,RoundToEven.signallingNaN kept" 2)
        pure (.float .f64 (if kept == 1 then n else FloatKind.f64.encode (.nan s (FloatKind.f64.format.quiet t))))
      | d => pure (.float .f64 (FloatKind.f64.encode (d.integral .zero)))) w = _
    rw [hd]
    cases d with
    | nan s t => cases hd2
    | number _ _ _ => rfl
    | infinity _ => rfl
  rw [key _ rfl hn]
  rfl

theorem trunc_calls (n : Nat) (hn : (FloatKind.f64.decode n).isNaN = false) (w : World) :
    Calls Try.prog 25 #[.float .f64 n] w fun e w' => e = .returned (.float .f64 (truncW n)) ∧ w = w' := by
  have ha := archTrunc n hn
  go_enter Try.func25, Try.ntmps25
  go_wp2
  go_ret
  exact ⟨rfl, rfl⟩

theorem far_parts (n : Nat) (c : inFar n = true) : (FloatKind.f64.format.order n 14069245235905429504 = some .gt ∨ FloatKind.f64.format.order n 14069245235905429504 = some .eq) ∧
    (FloatKind.f64.format.order n 4845873199050653696 = some .lt ∨ FloatKind.f64.format.order n 4845873199050653696 = some .eq) := by
  simpa [inFar] using c
theorem far_not (n : Nat) (c : inFar n = false) (h : FloatKind.f64.format.order n 14069245235905429504 = some .gt ∨ FloatKind.f64.format.order n 14069245235905429504 = some .eq) :
    ¬ (FloatKind.f64.format.order n 4845873199050653696 = some .lt ∨ FloatKind.f64.format.order n 4845873199050653696 = some .eq) := by
  intro h2
  have : inFar n = true := by simp [inFar, h, h2]
  rw [this] at c
  cases c

theorem fltWhole_calls (a0 : Int) (r1 : Int) (r2 : Bool) (w : World) (h : fltWhole a0 = some (r1, r2)) :
    Calls Try.prog 11 #[.int .u64 a0] w fun e w' => e = .returned (.tuple #[.int .i64 r1, .bool r2]) ∧ Drawn0 w w' := by
  unfold fltWhole at h
  split at h
  · have hfb := frombits a0
    split at h
    · rename_i _ c
      obtain ⟨p1, p2⟩ := far_parts _ c
      have hn : (FloatKind.f64.decode a0.toNat).isNaN = false := order_nan _ 4845873199050653696 (by rcases p2 with h | h <;> rw [h] <;> simp)
      split at h
      · rename_i c2
        injection h with h
        injection h with h1 h2
        subst h1 h2
        generalize htw : truncW a0.toNat = t at c2
        have Htw := Lib.hid htw
        clear htw c
        go_enter Try.func11, Try.ntmps11
        go_wp2_with (go_at_call 25; refine (trunc_calls _ hn _).mono ?_; rw [Htw.out]; rintro e w' ⟨rfl, rfl⟩)
        all_goals go_ret2
        all_goals exact ⟨rfl, Drawn0.refl _⟩
      · rename_i c2
        generalize htw : truncW a0.toNat = t at c2
        have Htw := Lib.hid htw
        have c3 : (FloatKind.f64.format.order a0.toNat t != some .eq) = false := by simpa using c2
        clear htw c c2
        split at h
        · rename_i n hi
          injection h with h
          injection h with h1 h2
          subst h1 h2
          have hcv : ∀ w : World, (convert 32 2 (.float .f64 a0.toNat)).run Try.prog w = .ok (.int .i64 n) w := fun w =>
            run_convert_float_int w _ _ _ _ _ _ (by kernel_rfl) Try.underlying2 hi
          clear hi
          rcases p1 with p1 | p1 <;> rcases p2 with p2 | p2
          all_goals
            go_enter Try.func11, Try.ntmps11
            go_wp2_with (go_at_call 25; refine (trunc_calls _ hn _).mono ?_; rw [Htw.out]; rintro e w' ⟨rfl, rfl⟩)
            go_ret2
            exact ⟨rfl, Drawn0.refl _⟩
        · cases h
    · rename_i _ c
      injection h with h
      injection h with h1 h2
      subst h1 h2
      have c' : inFar a0.toNat = false := by simpa using c
      have p := far_not _ c'
      clear c c'
      by_cases p1 : (FloatKind.f64.format.order a0.toNat 14069245235905429504 = some .gt ∨ FloatKind.f64.format.order a0.toNat 14069245235905429504 = some .eq)
      · have p2 := p p1
        clear p
        have q1 : (FloatKind.f64.format.order a0.toNat 4845873199050653696 == some .lt) = false := by simpa using fun e => p2 (.inl e)
        have q2 : (FloatKind.f64.format.order a0.toNat 4845873199050653696 == some .eq) = false := by simpa using fun e => p2 (.inr e)
        clear p2
        rcases p1 with p1 | p1
        all_goals
          go_enter Try.func11, Try.ntmps11
          go_wp2_with fail
          go_ret2
          exact ⟨rfl, Drawn0.refl _⟩
      · clear p
        have q1 : (FloatKind.f64.format.order a0.toNat 14069245235905429504 == some .gt) = false := by simpa using fun e => p1 (.inl e)
        have q2 : (FloatKind.f64.format.order a0.toNat 14069245235905429504 == some .eq) = false := by simpa using fun e => p1 (.inr e)
        clear p1
        go_enter Try.func11, Try.ntmps11
        go_wp2_with fail
        all_goals go_ret2
        all_goals exact ⟨rfl, Drawn0.refl _⟩
  · cases h
end Go.Proofs.Ytageilidppcphaa.Hand
