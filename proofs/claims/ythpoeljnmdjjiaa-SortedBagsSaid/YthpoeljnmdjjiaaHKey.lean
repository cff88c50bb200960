/-
  By hand: the contracts of flt.Key and flt.Bits (the print takes no '^x').
-/
import Derived.Test.YthpoeljnmdjjiaaHFlt
import Derived.WalkLawsBesides
import Derived.Laws.DeepNot64
import Derived.Laws.Bits64b
namespace Go.Proofs.Ythpoeljnmdjjiaa.Hand
open Go.RowKit Go.Proofs.YthpoeljnmdjjiaaW.PrintWords

def keyOf (c : Int) : Int := if c ≥ 9223372036854775808 then 18446744073709551615 - c else c + 9223372036854775808
def fltKey (a : Int) : Option Int := (fltClean a).bind fun c => some (keyOf c)
def fltBits (k : Int) : Option Int := if 0 ≤ k ∧ k < 18446744073709551616 then (if k ≥ 9223372036854775808 then fltClean (k - 9223372036854775808) else fltClean (18446744073709551615 - k)) else none

theorem fltClean_range (a r : Int) (h : fltClean a = some r) : 0 ≤ r ∧ r < 18446744073709551616 := by
  unfold fltClean at h
  split at h
  · injection h with h
    split at h <;> omega
  · cases h

theorem ofInt64 (a : Int) (h0 : 0 ≤ a) (h1 : a < 18446744073709551616) : (BitVec.ofInt 64 a).toNat = a.toNat := by
  obtain ⟨n, rfl⟩ := Int.eq_ofNat_of_zero_le h0
  rw [BitVec.ofInt_natCast, BitVec.toNat_ofNat, Int.toNat_natCast]
  exact Nat.mod_eq_of_lt (by omega)
theorem not_u64 (c : Int) (h0 : 0 ≤ c) (h1 : c < 18446744073709551616) : bits .xor .u64 IntKind.u64.max c = 18446744073709551615 - c := by
  show IntKind.u64.wrap ((BitVec.ofInt 64 IntKind.u64.max ^^^ BitVec.ofInt 64 c).toNat : Int) = _
  have e : BitVec.ofInt 64 IntKind.u64.max = BitVec.allOnes 64 := by decide
  rw [e, BitVec.allOnes_xor, BitVec.toNat_not, ofInt64 c h0 h1, IntKind.wrap_u64]
  omega
theorem or_top (c : Int) (h0 : 0 ≤ c) (h1 : c < 9223372036854775808) : bits .or .u64 c 9223372036854775808 = c + 9223372036854775808 := by
  obtain ⟨n, rfl⟩ := Int.eq_ofNat_of_zero_le h0
  have h2 : n < 2 ^ 63 := by omega
  have e := Nat.two_pow_add_eq_or_of_lt h2 1
  have h3 := bits_or_u64_nat n 9223372036854775808 (by omega) (by decide)
  have h4 : ((9223372036854775808 : Nat) : Int) = 9223372036854775808 := by rfl
  rw [h4] at h3
  rw [h3, Nat.or_comm]
  have e2 : 2 ^ 63 * 1 = 9223372036854775808 := by decide
  rw [e2] at e
  rw [← e]
  omega
theorem andNot_top (c : Int) (h0 : 9223372036854775808 ≤ c) (h1 : c < 18446744073709551616) : bits .andNot .u64 c 9223372036854775808 = c - 9223372036854775808 := by
  show IntKind.u64.wrap ((BitVec.ofInt 64 c &&& ~~~ (BitVec.ofInt 64 9223372036854775808)).toNat : Int) = _
  have e : (~~~ (BitVec.ofInt 64 9223372036854775808)).toNat = 2 ^ 63 - 1 := by decide
  rw [BitVec.toNat_and, e, Nat.and_two_pow_sub_one_eq_mod, ofInt64 c (by omega) h1, IntKind.wrap_u64]
  omega

theorem fltKey_calls (a0 : Int) (r : Int) (w : World) (h : fltKey a0 = some r) :
    Calls Try.prog 80 #[.int .u64 a0] w fun e w' => e = .returned (.int .u64 r) ∧ Drawn0 w w' := by
  unfold fltKey at h
  obtain ⟨c, hc, h⟩ := Option.bind_eq_some_iff.1 h
  injection h with h
  have hr := fltClean_range _ _ hc
  unfold keyOf at h
  by_cases hs : c ≥ 9223372036854775808
  · rw [if_pos hs] at h
    subst h
    have hx := not_u64 c hr.1 hr.2
    go_enter Try.func80, Try.ntmps80
    go_wp2_with (go_at_call 76; refine (fltClean_calls _ c _ hc).mono ?_; rintro e w' ⟨rfl, ⟨nd, rfl⟩⟩)
    go_ret
    exact ⟨rfl, ⟨nd, rfl⟩⟩
  · rw [if_neg hs] at h
    subst h
    have hx := or_top c hr.1 (by omega)
    go_enter Try.func80, Try.ntmps80
    go_wp2_with (go_at_call 76; refine (fltClean_calls _ c _ hc).mono ?_; rintro e w' ⟨rfl, ⟨nd, rfl⟩⟩)
    go_ret
    exact ⟨rfl, ⟨nd, rfl⟩⟩
end Go.Proofs.Ythpoeljnmdjjiaa.Hand
