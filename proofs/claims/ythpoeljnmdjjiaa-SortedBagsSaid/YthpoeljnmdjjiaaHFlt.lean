/-
  By hand: the contracts of flt.Clean (and, where a seat has it, flt.Whole): what the code does with a float64's bits, in the words of the model's own float core.
-/
import Derived.Test.YthpoeljnmdjjiaaProg
import Derived.Test.YthpoeljnmdjjiaaTw
import Derived.Laws.Externs
import Derived.Laws.Cover2
import Derived.Lib.Hide
namespace Go.Proofs.Ythpoeljnmdjjiaa.Hand
open Go.RowKit Go.Proofs.YthpoeljnmdjjiaaW.PrintWords

/-- The one NaN of all NaNs; other bits as they are. -/
def fltClean (a : Int) : Option Int :=
  if 0 ≤ a ∧ a < 18446744073709551616 then some (if a % 9223372036854775808 > 9218868437227405312 then 9221120237041090560 else a) else none

theorem frombits (a : Int) (w : World) : (callFunc 88 #[.int .u64 a]).run Try.prog w = .ok (.value (.float .f64 a.toNat)) w := by
  rw [run_callFunc_extern (e := Extern.MathFloatBits.float64frombits) Try.func88 (by kernel_rfl) (by kernel_rfl) (by kernel_rfl) (by kernel_rfl)]
  rfl

/-- A word is itself, but a NaN. -/
theorem order_self (n : Nat) : FloatKind.f64.format.order n n = if n % 9223372036854775808 ≤ 9218868437227405312 then some .eq else none := by
  have e1 : FloatKind.f64.format = Ieee.double := rfl
  have e2 : Ieee.double.signWeight = 9223372036854775808 := by decide
  have e3 : Ieee.double.binade = 4503599627370496 := by decide
  have e4 : Ieee.double.infRung = 9218868437227405312 := by decide
  have ordc : ∀ x : Int, compare x x = Ordering.eq := fun x => by simp
  have ordn : ∀ x : Nat, compare x x = Ordering.eq := fun x => by simp
  simp only [e1, Ieee.Format.order, Ieee.Format.read, e2, e3, e4]
  by_cases c1 : n % 9223372036854775808 < 4503599627370496
  · rw [if_pos c1, if_pos (by omega)]
    simp [Ieee.Datum.order]
  · rw [if_neg c1]
    by_cases c2 : n % 9223372036854775808 < 9218868437227405312
    · rw [if_pos c2, if_pos (by omega)]
      simp [Ieee.Datum.order]
    · rw [if_neg c2]
      by_cases c3 : n % 9223372036854775808 = 9218868437227405312
      · rw [if_pos c3, if_pos (by omega)]
        simp [Ieee.Datum.order]
      · rw [if_neg c3, if_neg (by omega)]
        simp [Ieee.Datum.order]

theorem fltClean_calls (a0 : Int) (r : Int) (w : World) (h : fltClean a0 = some r) :
    Calls Try.prog 76 #[.int .u64 a0] w fun e w' => e = .returned (.int .u64 r) ∧ Drawn0 w w' := by
  unfold fltClean at h
  split at h
  · rename_i hr
    injection h with h
    have hs := order_self a0.toNat
    have hn : (a0.toNat % 9223372036854775808 : Nat) = (a0 % 9223372036854775808).toNat := by omega
    have hfb := frombits a0
    by_cases c : a0 % 9223372036854775808 > 9218868437227405312
    · rw [if_pos c] at h
      rw [if_neg (by omega)] at hs
      subst h
      have ht : (FloatKind.f64.format.order a0.toNat a0.toNat != some .eq) = true := by rw [hs]; rfl
      clear hs
      go_enter Try.func76, Try.ntmps76
      go_wp2
      go_ret
      exact ⟨rfl, Drawn0.refl _⟩
    · rw [if_neg c] at h
      rw [if_pos (by omega)] at hs
      subst h
      have ht : (FloatKind.f64.format.order a0.toNat a0.toNat != some .eq) = false := by rw [hs]; rfl
      clear hs
      go_enter Try.func76, Try.ntmps76
      go_wp2
      go_ret
      exact ⟨rfl, Drawn0.refl _⟩
  · cases h
end Go.Proofs.Ythpoeljnmdjjiaa.Hand
