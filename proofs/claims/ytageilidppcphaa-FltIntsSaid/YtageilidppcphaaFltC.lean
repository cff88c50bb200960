/-
  Plain lemmas on the words of float64: the nearest word of a small number, doubled and halved; the order of words.
-/
import Derived.Test.YtageilidppcphaaHWhole
import Derived.Lib.Hide
namespace Go.Proofs.Ytageilidppcphaa.FltC
open Ieee (Datum Toward Format)

abbrev fmt : Format := FloatKind.f64.format
theorem sw : fmt.signWeight = 9223372036854775808 := by decide +kernel
theorem bin : fmt.binade = 4503599627370496 := by decide +kernel
theorem inf : fmt.infRung = 9218868437227405312 := by decide +kernel
theorem lp : fmt.leastPlace = -1074 := by decide +kernel
theorem fb : fmt.fractionBits = 52 := rfl

theorem read_sub (n : Nat) (h : n % 9223372036854775808 < 4503599627370496) : fmt.read n = .number (n / 9223372036854775808 % 2 == 1) (n % 9223372036854775808) (-1074) := by
  unfold Format.read
  rw [sw, bin, lp]
  simp only
  rw [if_pos h]
theorem read_norm (n : Nat) (h : 4503599627370496 ≤ n % 9223372036854775808) (h2 : n % 9223372036854775808 < 9218868437227405312) :
    fmt.read n = .number (n / 9223372036854775808 % 2 == 1) (4503599627370496 + n % 9223372036854775808 % 4503599627370496) (-1074 + (n % 9223372036854775808 / 4503599627370496 - 1 : Nat)) := by
  unfold Format.read
  rw [sw, bin, lp, inf]
  simp only
  rw [if_neg (by omega), if_pos h2]
theorem read_inf (n : Nat) (h : n % 9223372036854775808 = 9218868437227405312) : fmt.read n = .infinity (n / 9223372036854775808 % 2 == 1) := by
  unfold Format.read
  rw [sw, bin, lp, inf]
  simp only
  rw [if_neg (by omega), if_neg (by omega), if_pos h]
theorem read_nan (n : Nat) (h : 9218868437227405312 < n % 9223372036854775808) : ∃ s t, fmt.read n = .nan s t := by
  unfold Format.read
  rw [sw, bin, lp, inf]
  simp only
  rw [if_neg (by omega), if_neg (by omega), if_neg (by omega)]
  exact ⟨_, _, rfl⟩

theorem cmpI (a b : Int) : (compare a b = .lt ↔ a < b) ∧ (compare a b = .eq ↔ a = b) ∧ (compare a b = .gt ↔ b < a) := by
  have e : compare a b = if a < b then Ordering.lt else if a = b then .eq else .gt := rfl
  rw [e]
  split
  · refine ⟨by simp; omega, by simp; omega, by simp; omega⟩
  · split
    · refine ⟨by simp; omega, by simp; omega, by simp; omega⟩
    · refine ⟨by simp; omega, by simp; omega, by simp; omega⟩

theorem pow_split (a b : Nat) (h : a ≤ b) : (2 : Nat) ^ b = 2 ^ a * 2 ^ (b - a) := by rw [← Nat.pow_add]; congr 1; omega

theorem log2_shift (a k : Nat) (h0 : a ≠ 0) : (a * 2 ^ k).log2 = a.log2 + k := by
  have h1 : a * 2 ^ k ≠ 0 := by
    have := Nat.pow_pos (n := k) (show 0 < 2 by decide)
    exact Nat.mul_ne_zero h0 (by omega)
  have l1 := Nat.log2_self_le h0
  have l2 := @Nat.lt_log2_self a
  have u1 : 2 ^ (a.log2 + k) ≤ a * 2 ^ k := by rw [Nat.pow_add]; exact Nat.mul_le_mul_right _ l1
  have u2 : a * 2 ^ k < 2 ^ (a.log2 + k + 1) := by
    rw [show a.log2 + k + 1 = (a.log2 + 1) + k by omega, Nat.pow_add]
    exact Nat.mul_lt_mul_of_pos_right l2 (Nat.pow_pos (by decide))
  have v1 : a.log2 + k ≤ (a * 2 ^ k).log2 := by
    rw [Nat.le_log2 h1]; exact u1
  have v2 : (a * 2 ^ k).log2 < a.log2 + k + 1 := by
    rw [Nat.log2_lt h1]; exact u2
  omega

theorem cut_even0 (s : Bool) (N : Nat) : Toward.even.cut s N 0 = N := by
  unfold Toward.cut
  simp [Nat.mod_one]
theorem cut_exact (way : Toward) (s : Bool) (m k : Nat) (h0 : m ≠ 0) : way.cut s (m * 2 ^ k) k = m := by
  have hl := log2_shift m k h0
  have hp : 0 < 2 ^ k := Nat.pow_pos (by decide)
  have e1 : min k ((m * 2 ^ k).log2 + 2) = k := by omega
  unfold Toward.cut
  simp only [e1, Nat.shiftLeft_eq, Nat.one_mul, Nat.mul_div_cancel _ hp, Nat.mul_mod_left]
  cases way
  · have a2 : (2 ^ k == 2 * 0) = false := by simp
    simp [a2]
  · simp
  · simp
  · simp

/-- The places that are cut off or filled up. -/
def gap (a : Nat) (q : Int) : Nat := (q - max (q + (a.log2 : Int) - 52) (-1074)).toNat

/-- The nearest word of a small number is just it. -/
theorem near (s : Bool) (a : Nat) (q : Int) (h0 : a ≠ 0) (h1 : a < 9007199254740992) (h2 : -1074 ≤ q) (h3 : q + a.log2 ≤ 1023) (k : Nat) :
    fmt.nearest s (a * 2 ^ k) (q - k) = fmt.word s ((q - gap a q + 1074).toNat * 4503599627370496 + a * 2 ^ gap a q) := by
  have hl := log2_shift a k h0
  have hp : 0 < 2 ^ k := Nat.pow_pos (by decide)
  have hL : a.log2 ≤ 52 := by
    have := (Nat.log2_lt h0 (k := 53)).mpr (by omega)
    omega
  have hp2 : a < 2 ^ (a.log2 + 1) := Nat.lt_log2_self
  unfold Format.nearest
  rw [if_neg (Nat.mul_ne_zero h0 (by omega)), hl]
  simp only [fb, lp, bin, inf]
  have e1 : q - (k : Int) + ((a.log2 + k : Nat) : Int) - ((52 : Nat) : Int) = q + (a.log2 : Int) - 52 := by omega
  rw [e1]
  have hg : max (q + (a.log2 : Int) - 52) (-1074) = q - gap a q := by unfold gap; omega
  have hgb : gap a q ≤ 52 - a.log2 := by unfold gap; omega
  have hgq : (gap a q : Int) ≤ q + 1074 := by unfold gap; omega
  rw [hg]
  generalize hG : gap a q = g at *
  have hkept : Toward.even.cut s ((a * 2 ^ k) <<< (q - (k : Int) - (q - (g : Int))).toNat) ((q - (g : Int)) - (q - (k : Int))).toNat = a * 2 ^ g := by
    rw [Nat.shiftLeft_eq]
    rcases Nat.le_total k g with hkg | hkg
    · have e2 : (q - (k : Int) - (q - (g : Int))).toNat = g - k := by omega
      have e3 : ((q - (g : Int)) - (q - (k : Int))).toNat = 0 := by omega
      rw [e2, e3, cut_even0, pow_split k g hkg, Nat.mul_assoc]
    · have e2 : (q - (k : Int) - (q - (g : Int))).toNat = 0 := by omega
      have e3 : ((q - (g : Int)) - (q - (k : Int))).toNat = k - g := by omega
      rw [e2, e3, Nat.pow_zero, Nat.mul_one, pow_split g k hkg, ← Nat.mul_assoc]
      exact cut_exact _ _ _ _ (Nat.mul_ne_zero h0 (by have : 0 < 2 ^ g := Nat.pow_pos (by decide); omega))
  rw [hkept]
  have e4 : ((q - (g : Int)) - -1074).toNat = (q - (g : Int) + 1074).toNat := by congr 1
  have hk2 : a * 2 ^ g < 9007199254740992 := by
    have := Nat.mul_lt_mul_of_pos_right hp2 (Nat.pow_pos (n := g) (show 0 < 2 by decide))
    rw [← Nat.pow_add] at this
    have h5 : 2 ^ (a.log2 + 1 + g) ≤ 2 ^ 53 := Nat.pow_le_pow_right (by decide) (by omega)
    have e6 : (2 : Nat) ^ 53 = 9007199254740992 := by decide
    omega
  rw [e4, Nat.min_eq_left ?_]
  have hq : q - (g : Int) ≤ 971 := by
    have : q - (g : Int) = max (q + (a.log2 : Int) - 52) (-1074) := hg.symm
    omega
  by_cases hq' : q - (g : Int) + 1074 ≤ 2044
  · omega
  · have : (q - (g : Int) + 1074).toNat = 2045 := by omega
    rw [this]; omega

theorem gap_lt (a : Nat) (q : Int) (h0 : a ≠ 0) (h1 : a < 9007199254740992) : a * 2 ^ gap a q < 9007199254740992 := by
  have hL : a.log2 ≤ 52 := by
    have := (Nat.log2_lt h0 (k := 53)).mpr (by omega)
    omega
  have hgb : gap a q ≤ 52 - a.log2 := by unfold gap; omega
  have hp2 : a < 2 ^ (a.log2 + 1) := Nat.lt_log2_self
  have := Nat.mul_lt_mul_of_pos_right hp2 (Nat.pow_pos (n := gap a q) (show 0 < 2 by decide))
  rw [← Nat.pow_add] at this
  have h5 : 2 ^ (a.log2 + 1 + gap a q) ≤ 2 ^ 53 := Nat.pow_le_pow_right (by decide) (by omega)
  have e6 : (2 : Nat) ^ 53 = 9007199254740992 := by decide
  omega
/-- Filled up to 53 places, or at the least place. -/
theorem gap_full (a : Nat) (q : Int) (h0 : a ≠ 0) (h1 : a < 9007199254740992) (h2 : -1074 ≤ q) : 4503599627370496 ≤ a * 2 ^ gap a q ∨ q - gap a q = -1074 := by
  have hL : a.log2 ≤ 52 := by
    have := (Nat.log2_lt h0 (k := 53)).mpr (by omega)
    omega
  have l1 := Nat.log2_self_le h0
  by_cases h : q + (a.log2 : Int) - 52 ≤ -1074
  · right; unfold gap; omega
  · left
    have hg : gap a q = 52 - a.log2 := by unfold gap; omega
    rw [hg]
    have := Nat.mul_le_mul_right (2 ^ (52 - a.log2)) l1
    rw [← Nat.pow_add, show a.log2 + (52 - a.log2) = 52 by omega] at this
    have e6 : (2 : Nat) ^ 52 = 4503599627370496 := by decide
    omega

theorem word_parts (s : Bool) (r : Nat) (h : r < 9223372036854775808) : fmt.word s r % 9223372036854775808 = r ∧ (fmt.word s r / 9223372036854775808 % 2 == 1) = s ∧ fmt.word s r < 18446744073709551616 := by
  unfold Format.word
  rw [sw]
  cases s
  · simp only [Bool.false_eq_true, if_false]
    refine ⟨by omega, ?_, by omega⟩
    rw [beq_eq_false_iff_ne]
    omega
  · simp only [if_true]
    refine ⟨by omega, ?_, by omega⟩
    rw [beq_iff_eq]
    omega

/-- What is read of a word that is built so. -/
theorem read_word (s : Bool) (M : Nat) (p : Int) (h1 : M < 9007199254740992) (h2 : -1074 ≤ p) (h3 : p ≤ 971) (h4 : 4503599627370496 ≤ M ∨ p = -1074) :
    fmt.read (fmt.word s ((p + 1074).toNat * 4503599627370496 + M)) = .number s M p := by
  obtain ⟨e, he⟩ : ∃ e : Nat, e = (p + 1074).toNat := ⟨_, rfl⟩
  rw [← he]
  have hep : (e : Int) = p + 1074 := by omega
  have he2 : e ≤ 2045 := by omega
  obtain ⟨w1, w2, _⟩ := word_parts s (e * 4503599627370496 + M) (by omega)
  rcases Nat.lt_or_ge M 4503599627370496 with hM | hM
  · have hp : p = -1074 := by rcases h4 with h | h <;> omega
    have he0 : e = 0 := by omega
    subst he0
    rw [read_sub _ (by rw [w1]; omega), w1, w2, hp]
    simp
  · rw [read_norm _ (by rw [w1]; omega) (by rw [w1]; omega), w1, w2]
    have e7 : (e * 4503599627370496 + M) % 4503599627370496 = M - 4503599627370496 := by omega
    have e8 : (e * 4503599627370496 + M) / 4503599627370496 = e + 1 := by omega
    rw [e7, e8, show 4503599627370496 + (M - 4503599627370496) = M by omega, show (-1074 : Int) + ((e + 1 - 1 : Nat) : Int) = p by omega]

section
variable (s : Bool) (a : Nat) (q : Int) (h0 : a ≠ 0) (h1 : a < 9007199254740992) (h2 : -1074 ≤ q) (h3 : q + a.log2 ≤ 1023)
include h0 h1 h2 h3
theorem near0 : fmt.nearest s a q = fmt.word s ((q - gap a q + 1074).toNat * 4503599627370496 + a * 2 ^ gap a q) := by
  have := near s a q h0 h1 h2 h3 0
  simpa using this
/-- The same number, told with a smaller place. -/
theorem near_shift (k : Nat) : fmt.nearest s (a * 2 ^ k) (q - k) = fmt.nearest s a q := by rw [near s a q h0 h1 h2 h3 k, near0 s a q h0 h1 h2 h3]
theorem gap_le : -1074 ≤ q - gap a q ∧ q - gap a q ≤ 971 := by
  have hL : a.log2 ≤ 52 := by
    have := (Nat.log2_lt h0 (k := 53)).mpr (by omega)
    omega
  unfold gap; omega
theorem read_near : fmt.read (fmt.nearest s a q) = .number s (a * 2 ^ gap a q) (q - gap a q) := by
  rw [near0 s a q h0 h1 h2 h3]
  obtain ⟨g1, g2⟩ := gap_le a q h0 h1 h2 h3
  exact read_word s _ _ (gap_lt a q h0 h1) g1 g2 (gap_full a q h0 h1 h2)
theorem near_lt : fmt.nearest s a q < 18446744073709551616 ∧ fmt.nearest s a q % 9223372036854775808 < 9218868437227405312 := by
  rw [near0 s a q h0 h1 h2 h3]
  obtain ⟨g1, g2⟩ := gap_le a q h0 h1 h2 h3
  have g3 := gap_lt a q h0 h1
  obtain ⟨w1, w2, w3⟩ := word_parts s ((q - gap a q + 1074).toNat * 4503599627370496 + a * 2 ^ gap a q) (by omega)
  refine ⟨w3, ?_⟩
  rw [w1]
  have hp2 : a < 2 ^ (a.log2 + 1) := Nat.lt_log2_self
  omega
end

theorem two_word : fmt.read 4611686018427387904 = .number false 4503599627370496 (-51) := by decide +kernel
theorem one_word : fmt.read 4607182418800017408 = .number false 4503599627370496 (-52) := by decide +kernel
theorem unit_word : fmt.read 4841369599423283200 = .number false 4503599627370496 0 := by decide +kernel
theorem half_word : fmt.read 4602678819172646912 = .number false 4503599627370496 (-53) := by decide +kernel
theorem p52 : (2 : Nat) ^ 52 = 4503599627370496 := by decide

section
variable (s : Bool) (a : Nat) (q : Int) (h0 : a ≠ 0) (h1 : a < 9007199254740992) (h2 : -1074 ≤ q) (h3 : q + a.log2 ≤ 1023)
include h0 h1 h2 h3
/-- Halved. -/
theorem halved (h4 : -1074 < q) : fmt.div (fmt.nearest s a q) 4611686018427387904 = some (fmt.nearest s a (q - 1)) := by
  unfold Format.div
  rw [read_near s a q h0 h1 h2 h3, two_word]
  generalize hG : gap a q = g
  have hlt := gap_lt a q h0 h1
  rw [hG] at hlt
  have hp : 0 < 2 ^ g := Nat.pow_pos (by decide)
  have hne : a * 2 ^ g ≠ 0 := Nat.mul_ne_zero h0 (by omega)
  have hL : (a * 2 ^ g).log2 ≤ 52 := by
    have := (Nat.log2_lt hne (k := 53)).mpr (by omega)
    omega
  have hl2 : (4503599627370496 : Nat).log2 = 52 := by decide +kernel
  unfold Datum.quotient
  simp only [fb, hl2]
  rw [if_neg (by decide)]
  obtain ⟨c, hc⟩ : ∃ c, c = 52 + 2 + 52 - (a * 2 ^ g).log2 := ⟨_, rfl⟩
  have hc2 : 54 ≤ c := by omega
  rw [← hc, Nat.shiftLeft_eq, show (2 : Nat) ^ c = 2 ^ (c - 52) * 4503599627370496 by rw [← p52, ← Nat.pow_add]; congr 1; omega, ← Nat.mul_assoc, Nat.mul_div_cancel _ (by decide), Nat.mul_mod_left]
  simp only [Option.map_some, Option.some.injEq, bne_self_eq_false, Bool.toNat_false, Nat.add_zero, Bool.bne_false]
  show fmt.nearest _ _ _ = _
  have e1 : 2 * (a * 2 ^ g * 2 ^ (c - 52)) = a * 2 ^ (g + (c - 52) + 1) := by rw [Nat.pow_add, Nat.pow_add, Nat.pow_one, Nat.mul_assoc a, Nat.mul_comm 2, Nat.mul_assoc]
  have e2 : q - (g : Int) - -51 - (c : Int) - 1 = (q - 1) - ((g + (c - 52) + 1 : Nat) : Int) := by omega
  rw [e1, e2]
  exact near_shift s a (q - 1) h0 h1 (by omega) (by omega) _
/-- Times a power of two: 2 or 2^52. -/
theorem doubled (h4 : q + 1 + a.log2 ≤ 1023) : fmt.mul (fmt.nearest s a q) 4611686018427387904 = some (fmt.nearest s a (q + 1)) := by
  unfold Format.mul
  rw [read_near s a q h0 h1 h2 h3, two_word]
  generalize gap a q = g
  unfold Datum.product
  simp only [Option.map_some, Option.some.injEq]
  show fmt.nearest _ _ _ = _
  have e1 : a * 2 ^ g * 4503599627370496 = a * 2 ^ (g + 52) := by rw [Nat.pow_add, p52, Nat.mul_assoc]
  have e2 : q - (g : Int) + -51 = (q + 1) - ((g + 52 : Nat) : Int) := by omega
  rw [e1, e2, near_shift (s ^^ false) a (q + 1) h0 h1 (by omega) (by omega) _]
  cases s <;> rfl
theorem times52 (h4 : q + 52 + a.log2 ≤ 1023) : fmt.mul (fmt.nearest s a q) 4841369599423283200 = some (fmt.nearest s a (q + 52)) := by
  unfold Format.mul
  rw [read_near s a q h0 h1 h2 h3, unit_word]
  generalize gap a q = g
  unfold Datum.product
  simp only [Option.map_some, Option.some.injEq]
  show fmt.nearest _ _ _ = _
  have e1 : a * 2 ^ g * 4503599627370496 = a * 2 ^ (g + 52) := by rw [Nat.pow_add, p52, Nat.mul_assoc]
  have e2 : q - (g : Int) + 0 = (q + 52) - ((g + 52 : Nat) : Int) := by omega
  rw [e1, e2, near_shift (s ^^ false) a (q + 52) h0 h1 (by omega) (by omega) _]
  cases s <;> rfl
end
theorem times52_zero : fmt.mul 0 4841369599423283200 = some 0 := by decide +kernel

/-- Less one. -/
theorem less_one (f : Nat) (hf : f < 4503599627370496) : fmt.sub (fmt.nearest false (4503599627370496 + f) (-52)) 4607182418800017408 = some (fmt.nearest false f (-52)) := by
  have hlog : (4503599627370496 + f).log2 = 52 := by
    have l1 : 52 ≤ (4503599627370496 + f).log2 := by rw [Nat.le_log2 (by omega)]; omega
    have l2 : (4503599627370496 + f).log2 < 53 := by rw [Nat.log2_lt (by omega)]; omega
    omega
  have hg : gap (4503599627370496 + f) (-52) = 0 := by unfold gap; omega
  unfold Format.sub
  rw [read_near false (4503599627370496 + f) (-52) (by omega) (by omega) (by omega) (by omega), hg, one_word]
  unfold Datum.opposite Datum.sum
  simp only [Option.map_some, Option.some.injEq]
  have e1 : (-52 : Int) - ((0 : Nat) : Int) = -52 := by omega
  have e2 : min (-52 : Int) (-52) = -52 := by omega
  have e3 : ((-52 : Int) - -52).toNat = 0 := by omega
  rw [e1, e2, e3]
  unfold Ieee.signed
  simp only [Bool.false_eq_true, if_false, Nat.shiftLeft_zero, Nat.pow_zero, Nat.mul_one, Bool.not_false, if_true]
  have e4 : (((4503599627370496 + f : Nat) : Int) + -((4503599627370496 : Nat) : Int)) = (f : Int) := by omega
  rw [e4]
  show fmt.nearest _ _ _ = _
  have e5 : (if (f : Int) = 0 then (false && true) else decide ((f : Int) < 0)) = false := by
    split
    · rfl
    · simp
  rw [e5, Int.natAbs_natCast]

/-- To a whole number of 64 bits without a sign, of one below 2^53. -/
theorem toU (f : Nat) (h1 : f < 9007199254740992) : floatToIntVal .f64 (fmt.nearest false f 0) .u64 = some (f : Int) := by
  unfold floatToIntVal
  have hd : (FloatKind.f64.decode (fmt.nearest false f 0)).toInt .zero = some (f : Int) := by
    show (fmt.read (fmt.nearest false f 0)).toInt .zero = _
    by_cases h0 : f = 0
    · subst h0; decide +kernel
    · have hL : f.log2 ≤ 52 := by
        have := (Nat.log2_lt h0 (k := 53)).mpr (by omega)
        omega
      rw [read_near false f 0 h0 h1 (by omega) (by omega)]
      have hg : gap f 0 = 52 - f.log2 := by unfold gap; omega
      generalize gap f 0 = g at *
      unfold Datum.toInt Datum.integral
      simp only
      have e1 : ((0 : Int) - (g : Int)).toNat = 0 := by omega
      have e2 : (-((0 : Int) - (g : Int))).toNat = g := by omega
      rw [e1, e2, Nat.shiftLeft_zero, cut_exact _ _ _ _ h0]
      unfold Ieee.signed
      simp
  rw [hd]
  simp only
  rw [if_pos]
  have e1 : IntKind.u64.min = 0 := by decide
  have e2 : IntKind.u64.max = 18446744073709551615 := by decide
  rw [e1, e2]
  omega

/-! ## The order of words -/
def V (r : Nat) : Nat := if r < 4503599627370496 then r else (4503599627370496 + r % 4503599627370496) * 2 ^ (r / 4503599627370496 - 1)
theorem V_lt {r t : Nat} (h : r < t) : V r < V t := by
  unfold V
  by_cases h1 : t < 4503599627370496
  · rw [if_pos h1, if_pos (by omega)]; exact h
  · rw [if_neg h1]
    have hp : 0 < 2 ^ (t / 4503599627370496 - 1) := Nat.pow_pos (by decide)
    by_cases h2 : r < 4503599627370496
    · rw [if_pos h2]
      have : 4503599627370496 * 1 ≤ (4503599627370496 + t % 4503599627370496) * 2 ^ (t / 4503599627370496 - 1) := Nat.mul_le_mul (by omega) hp
      omega
    · rw [if_neg h2]
      by_cases h3 : r / 4503599627370496 = t / 4503599627370496
      · rw [h3]
        exact Nat.mul_lt_mul_of_pos_right (by omega) hp
      · have h4 : r / 4503599627370496 + 1 ≤ t / 4503599627370496 := by
          have : r / 4503599627370496 ≤ t / 4503599627370496 := Nat.div_le_div_right (Nat.le_of_lt h)
          omega
        have h5 : (4503599627370496 + r % 4503599627370496) * 2 ^ (r / 4503599627370496 - 1) < 9007199254740992 * 2 ^ (r / 4503599627370496 - 1) :=
          Nat.mul_lt_mul_of_pos_right (by omega) (Nat.pow_pos (by decide))
        have h6 : 4503599627370496 * 2 ^ (t / 4503599627370496 - 1) ≤ (4503599627370496 + t % 4503599627370496) * 2 ^ (t / 4503599627370496 - 1) := Nat.mul_le_mul_right _ (by omega)
        have h7 : 9007199254740992 * 2 ^ (r / 4503599627370496 - 1) ≤ 4503599627370496 * 2 ^ (t / 4503599627370496 - 1) := by
          have e1 : 9007199254740992 * 2 ^ (r / 4503599627370496 - 1) = 4503599627370496 * 2 ^ (r / 4503599627370496) := by
            have : r / 4503599627370496 = (r / 4503599627370496 - 1) + 1 := by omega
            conv => rhs; rw [this, Nat.pow_succ]
            rw [Nat.mul_comm (2 ^ _) 2, ← Nat.mul_assoc]
          rw [e1]
          exact Nat.mul_le_mul_left _ (Nat.pow_le_pow_right (by decide) (by omega))
        omega
theorem V_iff (r t : Nat) : V r < V t ↔ r < t := by
  constructor
  · intro h
    rcases Nat.lt_trichotomy r t with h1 | h1 | h1
    · exact h1
    · subst h1; omega
    · have := V_lt h1; omega
  · exact V_lt
theorem V_zero (r : Nat) : V r = 0 ↔ r = 0 := by
  constructor
  · intro h
    rcases Nat.eq_zero_or_pos r with h1 | h1
    · exact h1
    · have := V_lt h1; omega
  · rintro rfl; rfl

/-- A word's value, in units of the least place (infinity: as the next number would be). -/
def sv (n : Nat) : Int := if n / 9223372036854775808 % 2 = 1 then -(V (n % 9223372036854775808) : Int) else (V (n % 9223372036854775808) : Int)

theorem cmp_scale (a b : Int) (k : Nat) (hk : 0 < k) : compare (a * k) (b * k) = compare a b := by
  have c1 := cmpI a b
  have c2 := cmpI (a * k) (b * k)
  have hk' : (0 : Int) < k := by omega
  rcases Int.lt_trichotomy a b with h | h | h
  · rw [c1.1.2 h, c2.1.2 (Int.mul_lt_mul_of_pos_right h hk')]
  · subst h; rw [c1.2.1.2 rfl, c2.2.1.2 rfl]
  · rw [c1.2.2.2 h, c2.2.2.2 (Int.mul_lt_mul_of_pos_right h hk')]

theorem signed_up (s : Bool) (m i k : Nat) : Ieee.signed s m (i + k) = Ieee.signed s m i * ((2 ^ k : Nat) : Int) := by
  unfold Ieee.signed
  simp only [Nat.shiftLeft_eq]
  cases s
  · simp only [Bool.false_eq_true, if_false]
    rw [Nat.pow_add, ← Nat.mul_assoc]; exact Int.natCast_mul _ _
  · simp only [if_true]
    rw [Nat.pow_add, ← Nat.mul_assoc, Int.natCast_mul, Int.neg_mul]

theorem read_fin (n : Nat) (h : n % 9223372036854775808 < 9218868437227405312) : ∃ (m e : Nat), fmt.read n = .number (n / 9223372036854775808 % 2 == 1) m (-1074 + (e : Int)) ∧ sv n = Ieee.signed (n / 9223372036854775808 % 2 == 1) m e := by
  have hs : ∀ (v : Nat) (m e : Nat), v = m * 2 ^ e → (if n / 9223372036854775808 % 2 = 1 then -(v : Int) else (v : Int)) = Ieee.signed (n / 9223372036854775808 % 2 == 1) m e := by
    rintro v m e rfl
    unfold Ieee.signed
    rw [Nat.shiftLeft_eq]
    by_cases hb : n / 9223372036854775808 % 2 = 1
    · rw [if_pos hb, if_pos (by simpa using hb)]
    · rw [if_neg hb, if_neg (by simpa using hb)]
  by_cases h1 : n % 9223372036854775808 < 4503599627370496
  · refine ⟨n % 9223372036854775808, 0, ?_, ?_⟩
    · rw [read_sub n h1]; simp
    · unfold sv V
      rw [if_pos h1]
      exact hs _ _ _ (by simp)
  · refine ⟨_, _, read_norm n (by omega) h, ?_⟩
    unfold sv V
    rw [if_neg h1]
    exact hs _ _ _ rfl

theorem sv_far (n : Nat) (h : n % 9223372036854775808 < 9218868437227405312) : -(V 9218868437227405312 : Int) < sv n ∧ sv n < (V 9218868437227405312 : Int) := by
  have := V_lt h
  unfold sv
  generalize V 9218868437227405312 = B at *
  split <;> omega

theorem order_sv (n m : Nat) (hn : n % 9223372036854775808 ≤ 9218868437227405312) (hm : m % 9223372036854775808 ≤ 9218868437227405312) : fmt.order n m = some (compare (sv n) (sv m)) := by
  unfold Format.order
  have hinf : ∀ k : Nat, k % 9223372036854775808 = 9218868437227405312 → sv k = if (k / 9223372036854775808 % 2 == 1) = true then -(V 9218868437227405312 : Int) else (V 9218868437227405312 : Int) := by
    intro k hk
    unfold sv
    rw [hk]
    by_cases hb : k / 9223372036854775808 % 2 = 1
    · rw [if_pos hb, if_pos (by simpa using hb)]
    · rw [if_neg hb, if_neg (by simpa using hb)]
  have hV : 0 < V 9218868437227405312 := by
    rcases Nat.eq_zero_or_pos (V 9218868437227405312) with h | h
    · rw [V_zero] at h; omega
    · exact h
  rcases Nat.lt_or_ge (n % 9223372036854775808) 9218868437227405312 with h1 | h1
  · obtain ⟨a, e, hr, hv⟩ := read_fin n h1
    rcases Nat.lt_or_ge (m % 9223372036854775808) 9218868437227405312 with h2 | h2
    · obtain ⟨b, e', hr2, hv2⟩ := read_fin m h2
      rw [hr, hr2, hv, hv2]
      unfold Datum.order
      simp only
      rcases Nat.le_total e e' with hle | hle
      · have e1 : min (-1074 + (e : Int)) (-1074 + (e' : Int)) = -1074 + (e : Int) := by omega
        have e2 : (-1074 + (e : Int) - (-1074 + (e : Int))).toNat = 0 := by omega
        have e3 : (-1074 + (e' : Int) - (-1074 + (e : Int))).toNat = e' - e := by omega
        rw [e1, e2, e3]
        have f1 := signed_up (n / 9223372036854775808 % 2 == 1) a 0 e
        have f2 := signed_up (m / 9223372036854775808 % 2 == 1) b (e' - e) e
        rw [Nat.zero_add] at f1
        rw [show e' - e + e = e' by omega] at f2
        rw [f1, f2, cmp_scale _ _ _ (Nat.pow_pos (by decide))]
      · have e1 : min (-1074 + (e : Int)) (-1074 + (e' : Int)) = -1074 + (e' : Int) := by omega
        have e2 : (-1074 + (e' : Int) - (-1074 + (e' : Int))).toNat = 0 := by omega
        have e3 : (-1074 + (e : Int) - (-1074 + (e' : Int))).toNat = e - e' := by omega
        rw [e1, e2, e3]
        have f1 := signed_up (n / 9223372036854775808 % 2 == 1) a (e - e') e'
        have f2 := signed_up (m / 9223372036854775808 % 2 == 1) b 0 e'
        rw [show e - e' + e' = e by omega] at f1
        rw [Nat.zero_add] at f2
        rw [f1, f2, cmp_scale _ _ _ (Nat.pow_pos (by decide))]
    · have h2' : m % 9223372036854775808 = 9218868437227405312 := by omega
      have far := sv_far n h1
      rw [hr, read_inf m h2', hinf m h2']
      unfold Datum.order
      simp only
      have c := cmpI (sv n)
      cases hb : (m / 9223372036854775808 % 2 == 1)
      · simp only [Bool.false_eq_true, if_false]
        rw [(c _).1.2 far.2]
      · simp only [if_true]
        rw [(c _).2.2.2 far.1]
  · have h1' : n % 9223372036854775808 = 9218868437227405312 := by omega
    rw [read_inf n h1', hinf n h1']
    rcases Nat.lt_or_ge (m % 9223372036854775808) 9218868437227405312 with h2 | h2
    · obtain ⟨b, e', hr2, hv2⟩ := read_fin m h2
      have far := sv_far m h2
      rw [hr2]
      unfold Datum.order
      simp only
      cases hb : (n / 9223372036854775808 % 2 == 1)
      · simp only [Bool.false_eq_true, if_false]
        rw [(cmpI _ _).2.2.2 far.2]
      · simp only [if_true]
        rw [(cmpI _ _).1.2 far.1]
    · have h2' : m % 9223372036854775808 = 9218868437227405312 := by omega
      rw [read_inf m h2', hinf m h2']
      unfold Datum.order
      simp only
      generalize V 9218868437227405312 = B at *
      cases hb : (n / 9223372036854775808 % 2 == 1) <;> cases hb2 : (m / 9223372036854775808 % 2 == 1)
      · simp only [Bool.false_eq_true, if_false, Bool.toNat_false]
        rw [(cmpI _ _).2.1.2 rfl]; rfl
      · simp only [Bool.false_eq_true, if_false, if_true, Bool.toNat_false, Bool.toNat_true]
        rw [(cmpI _ _).2.2.2 (by omega)]; rfl
      · simp only [Bool.false_eq_true, if_false, if_true, Bool.toNat_false, Bool.toNat_true]
        rw [(cmpI _ _).1.2 (by omega)]; rfl
      · simp only [if_true, Bool.toNat_true]
        rw [(cmpI _ _).2.1.2 rfl]; rfl

theorem order_nan1 (n m : Nat) (h : 9218868437227405312 < n % 9223372036854775808) : fmt.order n m = none := by
  unfold Format.order
  obtain ⟨s, t, hr⟩ := read_nan n h
  rw [hr]; rfl

/-- A word's key. -/
def key (n : Nat) : Nat := if 9223372036854775808 ≤ n then 18446744073709551615 - n else n + 9223372036854775808

/-- Of two words that are not both noughts the order of values is that of keys. -/
theorem key_sv (n m : Nat) (hn : n < 18446744073709551616) (hm : m < 18446744073709551616) (h0 : n % 9223372036854775808 ≠ 0 ∨ m % 9223372036854775808 ≠ 0) : sv n < sv m ↔ key n < key m := by
  have a1 := V_iff (n % 9223372036854775808) (m % 9223372036854775808)
  have a2 := V_iff (m % 9223372036854775808) (n % 9223372036854775808)
  have z1 := V_zero (n % 9223372036854775808)
  have z2 := V_zero (m % 9223372036854775808)
  unfold sv key
  generalize V (n % 9223372036854775808) = A at *
  generalize V (m % 9223372036854775808) = B at *
  by_cases c1 : n / 9223372036854775808 % 2 = 1 <;> by_cases c2 : m / 9223372036854775808 % 2 = 1
  · rw [if_pos c1, if_pos c2, if_pos (by omega), if_pos (by omega)]
    omega
  · rw [if_pos c1, if_neg c2, if_pos (by omega), if_neg (by omega)]
    omega
  · rw [if_neg c1, if_pos c2, if_neg (by omega), if_pos (by omega)]
    omega
  · rw [if_neg c1, if_neg c2, if_neg (by omega), if_neg (by omega)]
    omega
theorem up1 (e f r : Nat) (h : r = (e + 1) * 4503599627370496 + f) : r = e * 4503599627370496 + (4503599627370496 + f) := by rw [h, Nat.add_mul, Nat.one_mul, Nat.add_assoc]
/-- A word that is no NaN is the nearest one of what is read of it. -/
theorem self_near (n : Nat) (hn : n < 18446744073709551616) (h : n % 9223372036854775808 < 9218868437227405312) (h0 : n % 9223372036854775808 ≠ 0) :
    ∃ (a : Nat) (q : Int), a ≠ 0 ∧ a < 9007199254740992 ∧ -1074 ≤ q ∧ q ≤ 971 ∧ n = fmt.nearest (n / 9223372036854775808 % 2 == 1) a q ∧
      (4503599627370496 ≤ a ∧ n % 9223372036854775808 = (q + 1074).toNat * 4503599627370496 + a ∨ a < 4503599627370496 ∧ q = -1074 ∧ n % 9223372036854775808 = a) := by
  have hw : n = fmt.word (n / 9223372036854775808 % 2 == 1) (n % 9223372036854775808) := by
    unfold Format.word
    rw [sw]
    by_cases hb : n / 9223372036854775808 % 2 = 1
    · rw [if_pos (by simpa using hb)]; omega
    · rw [if_neg (by simpa using hb)]; omega
  generalize hr : n % 9223372036854775808 = r at *
  generalize (n / 9223372036854775808 % 2 == 1) = s at *
  by_cases h1 : r < 4503599627370496
  · refine ⟨r, -1074, h0, by omega, by omega, by omega, ?_, .inr ⟨h1, rfl, rfl⟩⟩
    have hlog : r.log2 < 52 := by rw [Nat.log2_lt h0]; omega
    rw [near0 s r (-1074) h0 (by omega) (by omega) (by omega)]
    have hg : gap r (-1074) = 0 := by unfold gap; omega
    rw [hg]
    simpa using hw
  · obtain ⟨e, f, he, hf, hr2⟩ : ∃ e f : Nat, e < 2046 ∧ f < 4503599627370496 ∧ r = (e + 1) * 4503599627370496 + f := ⟨r / 4503599627370496 - 1, r % 4503599627370496, by omega, by omega, by omega⟩
    have hlog : (4503599627370496 + f).log2 = 52 := by
      have l1 : 52 ≤ (4503599627370496 + f).log2 := by rw [Nat.le_log2 (by omega)]; omega
      have l2 : (4503599627370496 + f).log2 < 53 := by rw [Nat.log2_lt (by omega)]; omega
      omega
    have e1 : ((e : Int) - 1074 + 1074).toNat = e := by omega
    have HW := Lib.hid hw
    clear hw hr hn h
    have hrv : r = e * 4503599627370496 + (4503599627370496 + f) := up1 e f r hr2
    have HR := Lib.hid hrv
    clear hr2 h1 h0 hrv
    refine ⟨4503599627370496 + f, (e : Int) - 1074, by omega, by omega, by omega, by omega, ?_, .inl ⟨by omega, by rw [e1]; exact HR.out⟩⟩
    rw [near0 s _ _ (by omega) (by omega) (by omega) (by omega)]
    have hg : gap (4503599627370496 + f) ((e : Int) - 1074) = 0 := by unfold gap; omega
    rw [hg, HW.out]
    refine congrArg (fmt.word s) ?_
    simp only [Nat.pow_zero, Nat.mul_one]
    have e2 : ((e : Int) - 1074 - ((0 : Nat) : Int) + 1074).toNat = e := by omega
    rw [e2]; exact HR.out
end Go.Proofs.Ytageilidppcphaa.FltC
