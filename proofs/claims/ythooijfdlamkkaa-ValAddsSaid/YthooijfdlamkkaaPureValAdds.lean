/-
  A sum less one of both is the other one; it is refused just where two halves' sum is too great or too small: for every input. (ValAdds)
-/
import Derived.Test.YthooijfdlamkkaaPVadx8
namespace Go.Proofs.Ythooijfdlamkkaa.Pure
open Go.RowKit Go.Proofs.Ythooijfdlamkkaa.PVad Go.Proofs.YthooijfdlamkkaaW.PrintWords Go.Proofs.YthooijfdlamkkaaW.PrintLast

theorem wf_i64v {x : Int} (h : (Lit.int .i64 x).wf = true) : -9223372036854775808 ≤ x ∧ x < 9223372036854775808 := by
  have h2 : -9223372036854775808 ≤ x ∧ x ≤ 9223372036854775807 := by simpa [Lit.wf, IntKind.min, IntKind.max, IntKind.signed, IntKind.bits] using h
  omega
theorem ofInt_toNat_ (x : Int) : ((BitVec.ofInt 64 x).toNat : Int) = x % 18446744073709551616 := by
  rw [BitVec.toNat_ofInt]
  have : ((2 ^ 64 : Nat) : Int) = 18446744073709551616 := by decide
  rw [this]
  omega
theorem wrap_i64_ (n : Int) : IntKind.i64.wrap n = (n + 9223372036854775808) % 18446744073709551616 - 9223372036854775808 := by
  simp [IntKind.wrap, IntKind.bits, IntKind.signed]
  omega
theorem and2 (x y : Nat) : (x &&& y) % 2 = (x % 2) &&& (y % 2) := by simpa using Nat.and_mod_two_pow (n := 1) (a := x) (b := y)
theorem bits_and_i64 (x y : Int) : bits .and .i64 x y = IntKind.i64.wrap ((BitVec.ofInt 64 x &&& BitVec.ofInt 64 y).toNat : Int) := rfl
theorem and_one (x : Int) : bits .and .i64 x 1 = x % 2 := by
  rw [bits_and_i64, BitVec.toNat_and, show (BitVec.ofInt 64 1).toNat = 2 ^ 1 - 1 by decide, Nat.and_two_pow_sub_one_eq_mod, wrap_i64_]
  have := ofInt_toNat_ x
  omega
theorem wrap_mod2 (n : Int) : ((n + 9223372036854775808) % 18446744073709551616 - 9223372036854775808) % 2 = n % 2 := by omega
theorem mod_mod2 (x : Nat) (a : Int) (h : (x : Int) = a % 18446744073709551616) : a % 2 = (x : Int) % 2 := by omega
theorem low_bit (a b : Int) : bits .and .i64 (bits .and .i64 a b) 1 = if a % 2 = 1 ∧ b % 2 = 1 then 1 else 0 := by
  rw [and_one, bits_and_i64, wrap_i64_, BitVec.toNat_and, wrap_mod2]
  have h := and2 (BitVec.ofInt 64 a).toNat (BitVec.ofInt 64 b).toNat
  rw [mod_mod2 _ a (ofInt_toNat_ a), mod_mod2 _ b (ofInt_toNat_ b)]
  generalize (BitVec.ofInt 64 a).toNat = x at *
  generalize (BitVec.ofInt 64 b).toNat = y at *
  generalize x &&& y = z at *
  rcases (show x % 2 = 0 ∨ x % 2 = 1 by omega) with hx | hx <;> rcases (show y % 2 = 0 ∨ y % 2 = 1 by omega) with hy | hy <;> rw [hx, hy] at h
  · have h9 : z % 2 = 0 := by simpa using h
    clear h
    rw [if_neg (by omega)]; omega
  · have h9 : z % 2 = 0 := by simpa using h
    clear h
    rw [if_neg (by omega)]; omega
  · have h9 : z % 2 = 0 := by simpa using h
    clear h
    rw [if_neg (by omega)]; omega
  · have h9 : z % 2 = 1 := by simpa using h
    clear h
    rw [if_pos (by omega)]; omega

theorem add_f {a b : Int} (ha : -9223372036854775808 ≤ a ∧ a < 9223372036854775808) (hb : -9223372036854775808 ≤ b ∧ b < 9223372036854775808) :
    val_Add.f a b = some (if -9223372036854775808 ≤ a + b ∧ a + b < 9223372036854775808 then (a + b, 0) else (0, 8)) := by
  unfold val_Add.f
  have hw : wrap64 (a + b) = if -9223372036854775808 ≤ a + b ∧ a + b < 9223372036854775808 then a + b else if a + b < 0 then a + b + 18446744073709551616 else a + b - 18446744073709551616 := by
    unfold wrap64
    split
    · omega
    · split <;> omega
  generalize wrap64 (a + b) = c at *
  have hx : ((decide (a ≥ 0) == decide (b ≥ 0)) = true) ↔ (a ≥ 0 ↔ b ≥ 0) := by rw [beq_iff_eq, decide_eq_decide]
  have hy : ((decide (a ≥ 0) != decide (c ≥ 0)) = true) ↔ ¬ (a ≥ 0 ↔ c ≥ 0) := by rw [bne_iff_ne, ne_eq, decide_eq_decide]
  simp only [hx, hy]
  clear hx hy
  by_cases hf : -9223372036854775808 ≤ a + b ∧ a + b < 9223372036854775808
  · rw [if_pos hf] at hw ⊢
    subst hw
    split
    · rw [if_neg (by omega)]
    · rfl
  · rw [if_neg hf] at hw ⊢
    have h3 : (a + b < 0 ∧ c = a + b + 18446744073709551616) ∨ (0 ≤ a + b ∧ c = a + b - 18446744073709551616) := by split at hw <;> omega
    rw [if_pos (by omega), if_pos (by omega)]

theorem ValAdds : law05_ValAdds.Pure := by
  intro a b ha hb
  have ha := wf_i64v ha
  have hb := wf_i64v hb
  refine ⟨1, ?_⟩
  have hs : law05_shown.f = some true := by decide +kernel
  unfold law05_ValAdds.f
  rw [hs, add_f ha hb, add_f hb ha, show b + a = a + b by omega]
  have e1 : wrap64 (a / 2 + b / 2) = a / 2 + b / 2 := by unfold wrap64; omega
  have hl := low_bit a b
  have e2 : wrap64 (a / 2 + b / 2 + bits .and .i64 (bits .and .i64 a b) 1) = (a + b) / 2 := by
    rw [hl]
    unfold wrap64
    split <;> omega
  simp only [Option.bind_some, if_true, bne_self_eq_false]
  unfold law05_ValAdds.j0
  dsimp only
  rw [e1, e2, if_neg (by simp)]
  by_cases hf : -9223372036854775808 ≤ a + b ∧ a + b < 9223372036854775808
  · rw [if_pos hf]
    have e3 : wrap64 (a + b - b) = a := by unfold wrap64; omega
    rw [if_pos (by omega)]
    simp only [if_true]
    rw [if_pos (by omega), e3]
    simp
  · rw [if_neg hf]
    simp only [if_true]
    by_cases h : (a + b) / 2 ≥ -4611686018427387904
    · rw [if_pos h, if_neg (by decide)]
      try rw [if_pos rfl]
      rw [if_neg (by omega)]
      rfl
    · rw [if_neg h, if_neg (by decide)]
      rfl
end Go.Proofs.Ythooijfdlamkkaa.Pure
