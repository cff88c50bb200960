/-
  By hand: leb.Zig and leb.Zag, in plain numbers.
-/
import Derived.Test.YtjchjdbfmiibhaaProg
import Derived.Test.YtjchjdbfmiibhaaTw
import Derived.Lib.Hide
import Derived.WalkLawsBesides
import Derived.Laws.BitsAllLaws
import Derived.Laws.DeepNot64
namespace Go.Proofs.Ytjchjdbfmiibhaa.Hand
open Go.RowKit Go.Proofs.YtjchjdbfmiibhaaW.PrintWords

def zag (n : Int) : Int := if n % 2 = 0 then n / 2 else -(n / 2) - 1
def zig (n : Int) : Int := if 0 ≤ n then 2 * n else -2 * n - 1
def lebZag (n : Int) : Option Int := if 0 ≤ n ∧ n < 18446744073709551616 then some (zag n) else none
def lebZig (n : Int) : Option Int := if -9223372036854775808 ≤ n ∧ n < 9223372036854775808 then some (zig n) else none

theorem ofInt_toNat (x : Int) : ((BitVec.ofInt 64 x).toNat : Int) = x % 18446744073709551616 := by
  rw [BitVec.toNat_ofInt]
  have : ((2 ^ 64 : Nat) : Int) = 18446744073709551616 := by decide
  rw [this]
  omega
theorem wrap_i64 (n : Int) : IntKind.i64.wrap n = (n + 9223372036854775808) % 18446744073709551616 - 9223372036854775808 := by
  simp [IntKind.wrap, IntKind.bits, IntKind.signed]
  omega
theorem xor_i64_zero (x : Int) (h1 : -9223372036854775808 ≤ x) (h2 : x < 9223372036854775808) : bits .xor .i64 x 0 = x := by
  show IntKind.i64.wrap ((BitVec.ofInt 64 x ^^^ BitVec.ofInt 64 0).toNat : Int) = _
  have e : BitVec.ofInt 64 0 = 0#64 := by decide
  rw [e, BitVec.xor_zero, ofInt_toNat, wrap_i64]
  omega
theorem xor_i64_neg (x : Int) (h1 : -9223372036854775808 ≤ x) (h2 : x < 9223372036854775808) : bits .xor .i64 x (-1) = -1 - x := by
  show IntKind.i64.wrap ((BitVec.ofInt 64 x ^^^ BitVec.ofInt 64 (-1)).toNat : Int) = _
  have e : BitVec.ofInt 64 (-1) = BitVec.allOnes 64 := by decide
  have h := ofInt_toNat x
  rw [e, BitVec.xor_allOnes, BitVec.toNat_not, wrap_i64]
  omega
theorem xor_u64_zero (x : Int) (h1 : 0 ≤ x) (h2 : x < 18446744073709551616) : bits .xor .u64 x 0 = x := by
  show IntKind.u64.wrap ((BitVec.ofInt 64 x ^^^ BitVec.ofInt 64 0).toNat : Int) = _
  have e : BitVec.ofInt 64 0 = 0#64 := by decide
  rw [e, BitVec.xor_zero, ofInt_toNat, IntKind.wrap_u64]
  omega
theorem xor_u64_ones (x : Int) (h1 : 0 ≤ x) (h2 : x < 18446744073709551616) : bits .xor .u64 x 18446744073709551615 = 18446744073709551615 - x := by
  show IntKind.u64.wrap ((BitVec.ofInt 64 x ^^^ BitVec.ofInt 64 18446744073709551615).toNat : Int) = _
  have e : BitVec.ofInt 64 18446744073709551615 = BitVec.allOnes 64 := by decide
  have h := ofInt_toNat x
  rw [e, BitVec.xor_allOnes, BitVec.toNat_not, IntKind.wrap_u64]
  omega
theorem and_u64_one (x : Int) (h1 : 0 ≤ x) (h2 : x < 18446744073709551616) : bits .and .u64 x 1 = x % 2 := by
  show IntKind.u64.wrap ((BitVec.ofInt 64 x &&& BitVec.ofInt 64 1).toNat : Int) = _
  have e : (BitVec.ofInt 64 1).toNat = 2 ^ 1 - 1 := by decide
  have h := ofInt_toNat x
  rw [BitVec.toNat_and, e, Nat.and_two_pow_sub_one_eq_mod, IntKind.wrap_u64]
  omega
theorem zag_eq (a : Int) (h1 : 0 ≤ a) (h2 : a < 18446744073709551616) : bits .xor .i64 (a / 2) (wrap64 (-wrap64 (bits .and .u64 a 1))) = zag a := by
  rw [and_u64_one a h1 h2]
  unfold zag
  rcases (show a % 2 = 0 ∨ a % 2 = 1 by omega) with h | h
  · rw [if_pos h, h]
    have e : wrap64 (-wrap64 0) = 0 := by unfold wrap64; omega
    rw [e, xor_i64_zero _ (by omega) (by omega)]
  · rw [if_neg (by omega), h]
    have e : wrap64 (-wrap64 1) = -1 := by unfold wrap64; omega
    rw [e, xor_i64_neg _ (by omega) (by omega)]
    omega
theorem zig_eq (a : Int) (h1 : -9223372036854775808 ≤ a) (h2 : a < 9223372036854775808) :
    bits .xor .u64 (IntKind.u64.wrap (IntKind.u64.wrap a * 2)) (IntKind.u64.wrap (a / 9223372036854775808)) = zig a := by
  simp only [IntKind.wrap_u64]
  unfold zig
  by_cases h : 0 ≤ a
  · rw [if_pos h]
    have e : a / 9223372036854775808 % 18446744073709551616 = 0 := by omega
    rw [e, xor_u64_zero _ (by omega) (by omega)]
    omega
  · rw [if_neg h]
    have e : a / 9223372036854775808 % 18446744073709551616 = 18446744073709551615 := by omega
    rw [e, xor_u64_ones _ (by omega) (by omega)]
    omega

theorem lebZag_calls (a0 : Int) (r : Int) (w : World) (hq : lebZag a0 = some r) :
    Calls Try.prog 64 #[.int .u64 a0] w fun e w' => e = .returned (.int .i64 r) ∧ Drawn0 w w' := by
  unfold lebZag at hq
  split at hq
  · rename_i hr
    injection hq with hq
    obtain ⟨h1, h2⟩ := hr
    subst hq
    rw [← zag_eq a0 h1 h2]
    go_enter Try.func64, Try.ntmps64
    go_wp2
    go_ret
    exact ⟨rfl, Drawn0.refl _⟩
  · cases hq
theorem lebZig_calls (a0 : Int) (r : Int) (w : World) (hq : lebZig a0 = some r) :
    Calls Try.prog 55 #[.int .i64 a0] w fun e w' => e = .returned (.int .u64 r) ∧ Drawn0 w w' := by
  unfold lebZig at hq
  split at hq
  · rename_i hr
    injection hq with hq
    obtain ⟨h1, h2⟩ := hr
    subst hq
    rw [← zig_eq a0 h1 h2]
    go_enter Try.func55, Try.ntmps55
    go_wp2
    go_ret
    exact ⟨rfl, Drawn0.refl _⟩
  · cases hq
end Go.Proofs.Ytjchjdbfmiibhaa.Hand
