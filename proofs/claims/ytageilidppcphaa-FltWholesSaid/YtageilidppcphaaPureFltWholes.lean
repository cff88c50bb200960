/-
  Whether any bits are a whole number, and which, is as the document says: for every input. (FltWholes)
-/
import Derived.Test.YtageilidppcphaaPFltA
namespace Go.Proofs.Ytageilidppcphaa.Pure
open Go.RowKit Go.Proofs.Ytageilidppcphaa.PFlt Go.Proofs.YtageilidppcphaaW.PrintWords Go.Proofs.YtageilidppcphaaW.PrintLast
open Ieee (Datum Toward Format)

abbrev fmt : Format := FloatKind.f64.format
theorem sw : fmt.signWeight = 9223372036854775808 := by decide +kernel
theorem bin : fmt.binade = 4503599627370496 := by decide +kernel
theorem inf : fmt.infRung = 9218868437227405312 := by decide +kernel
theorem lp : fmt.leastPlace = -1074 := by decide +kernel
theorem fb : fmt.fractionBits = 52 := rfl

theorem read_sub (n : Nat) (h : n % 9223372036854775808 < 4503599627370496) : fmt.read n = .number (n / 9223372036854775808 % 2 == 1) (n % 9223372036854775808) (-1074) := by
  unfold Format.read
  rw [sw, bin, lp]
  simp only
  rw [if_pos h]
theorem read_norm (n : Nat) (h : 4503599627370496 ≤ n % 9223372036854775808) (h2 : n % 9223372036854775808 < 9218868437227405312) :
    fmt.read n = .number (n / 9223372036854775808 % 2 == 1) (4503599627370496 + n % 9223372036854775808 % 4503599627370496) (-1074 + (n % 9223372036854775808 / 4503599627370496 - 1 : Nat)) := by
  unfold Format.read
  rw [sw, bin, lp, inf]
  simp only
  rw [if_neg (by omega), if_pos h2]
theorem read_far (n : Nat) (h : 9218868437227405312 ≤ n % 9223372036854775808) : (∃ s, fmt.read n = .infinity s) ∨ ∃ s t, fmt.read n = .nan s t := by
  unfold Format.read
  rw [sw, bin, lp, inf]
  simp only
  rw [if_neg (by omega), if_neg (by omega)]
  split
  · exact .inl ⟨_, rfl⟩
  · exact .inr ⟨_, _, rfl⟩

theorem cmpI (a b : Int) : (compare a b = .lt ↔ a < b) ∧ (compare a b = .eq ↔ a = b) ∧ (compare a b = .gt ↔ b < a) := by
  have e : compare a b = if a < b then Ordering.lt else if a = b then .eq else .gt := rfl
  rw [e]
  split
  · refine ⟨by simp; omega, by simp; omega, by simp; omega⟩
  · split
    · refine ⟨by simp; omega, by simp; omega, by simp; omega⟩
    · refine ⟨by simp; omega, by simp; omega, by simp; omega⟩

theorem cut_zero (s : Bool) (N d : Nat) : Toward.zero.cut s N d = N / 2 ^ d := by
  unfold Toward.cut
  simp only [Nat.shiftLeft_eq, Nat.one_mul, Bool.toNat_false, Nat.add_zero]
  rcases Nat.le_total d (N.log2 + 2) with h | h
  · rw [Nat.min_eq_left h]
  · rw [Nat.min_eq_right h]
    have h1 : N < 2 ^ (N.log2 + 1) := Nat.lt_log2_self
    have h2 : 2 ^ (N.log2 + 1) ≤ 2 ^ (N.log2 + 2) := Nat.pow_le_pow_right (by decide) (by omega)
    have h3 : 2 ^ (N.log2 + 2) ≤ 2 ^ d := Nat.pow_le_pow_right (by decide) h
    rw [Nat.div_eq_of_lt (by omega), Nat.div_eq_of_lt (by omega)]
theorem cut_even0 (s : Bool) (N : Nat) : Toward.even.cut s N 0 = N := by
  unfold Toward.cut
  simp [Nat.mod_one]

/-- A whole number below 2^53 has a word of its own. -/
theorem write_back (s : Bool) (q : Nat) (h : q < 9007199254740992) : ∃ (mag c : Nat), fmt.read (fmt.write (.number s q 0)) = .number s mag (-(c : Int)) ∧ mag = q * 2 ^ c := by
  show ∃ (mag c : Nat), fmt.read (fmt.nearest s q 0) = .number s mag (-(c : Int)) ∧ mag = q * 2 ^ c
  unfold Format.nearest
  by_cases h0 : q = 0
  · rw [if_pos h0]
    obtain ⟨c, hc⟩ : ∃ c : Nat, c = 1074 := ⟨_, rfl⟩
    refine ⟨0, c, ?_, by rw [h0, Nat.zero_mul]⟩
    rw [hc]
    cases s <;> decide +kernel
  · rw [if_neg h0]
    have hlog : q.log2 ≤ 52 := by
      have := (Nat.log2_lt h0 (k := 53)).mpr (by omega)
      omega
    have hp1 : 2 ^ q.log2 ≤ q := Nat.log2_self_le h0
    have hp2 : q < 2 ^ (q.log2 + 1) := Nat.lt_log2_self
    simp only [fb, lp, bin, inf]
    generalize q.log2 = L at *
    have e1 : max ((0 : Int) + (L : Int) - ((52 : Nat) : Int)) (-1074) = (L : Int) - 52 := by omega
    have e2 : ((0 : Int) - ((L : Int) - 52)).toNat = 52 - L := by omega
    have e3 : (((L : Int) - 52) - 0).toNat = 0 := by omega
    have e4 : (((L : Int) - 52) - -1074).toNat = L + 1022 := by omega
    rw [e1, e2, e3, e4, cut_even0, Nat.shiftLeft_eq]
    have hk1 : 2 ^ L * 2 ^ (52 - L) ≤ q * 2 ^ (52 - L) := Nat.mul_le_mul_right _ hp1
    have hk2 : q * 2 ^ (52 - L) < 2 ^ (L + 1) * 2 ^ (52 - L) := Nat.mul_lt_mul_of_pos_right hp2 (Nat.pow_pos (by decide))
    rw [← Nat.pow_add, show L + (52 - L) = 52 by omega] at hk1
    rw [← Nat.pow_add, show L + 1 + (52 - L) = 53 by omega] at hk2
    have e5 : (2 : Nat) ^ 52 = 4503599627370496 := by decide
    have e6 : (2 : Nat) ^ 53 = 9007199254740992 := by decide
    rw [e5] at hk1
    rw [e6] at hk2
    refine ⟨q * 2 ^ (52 - L), 52 - L, ?_, rfl⟩
    generalize q * 2 ^ (52 - L) = K at *
    rw [Nat.min_eq_left (by omega)]
    have hw : ∀ rung, rung < 9218868437227405312 → (fmt.word s rung) % 9223372036854775808 = rung ∧ (fmt.word s rung / 9223372036854775808 % 2 == 1) = s := by
      intro rung hr
      unfold Format.word
      rw [sw]
      cases s
      · simp only [Bool.false_eq_true, if_false]
        refine ⟨by omega, ?_⟩
        rw [beq_eq_false_iff_ne]
        omega
      · simp only [if_true]
        refine ⟨by omega, ?_⟩
        rw [beq_iff_eq]
        omega
    obtain ⟨w1, w2⟩ := hw ((L + 1022) * 4503599627370496 + K) (by omega)
    rw [read_norm _ (by rw [w1]; omega) (by rw [w1]; omega), w1, w2]
    have e7 : ((L + 1022) * 4503599627370496 + K) % 4503599627370496 = K - 4503599627370496 := by omega
    have e8 : ((L + 1022) * 4503599627370496 + K) / 4503599627370496 = L + 1023 := by omega
    have e9 : 4503599627370496 + (K - 4503599627370496) = K := by omega
    have e10 : (-1074 : Int) + ((L + 1023 - 1 : Nat) : Int) = -((52 - L : Nat) : Int) := by omega
    rw [e7, e8, e9, e10]

theorem signed_inj (s : Bool) (a b k l : Nat) : Ieee.signed s a k = Ieee.signed s b l ↔ a * 2 ^ k = b * 2 ^ l := by
  unfold Ieee.signed
  rw [Nat.shiftLeft_eq, Nat.shiftLeft_eq]
  cases s
  · simp only [Bool.false_eq_true, if_false]; omega
  · simp only [if_true]; omega
theorem signed_le (s : Bool) (m k : Nat) : -((m * 2 ^ k : Nat) : Int) ≤ Ieee.signed s m k ∧ Ieee.signed s m k ≤ (m * 2 ^ k : Nat) := by
  unfold Ieee.signed
  rw [Nat.shiftLeft_eq]
  cases s
  · simp only [Bool.false_eq_true, if_false]; omega
  · simp only [if_true]; omega

theorem lo_word : fmt.read 14069245235905429504 = .number true 4503599627370496 1 := by decide +kernel
theorem hi_word : fmt.read 4845873199050653696 = .number false 4503599627370496 1 := by decide +kernel

/-- Of a number no greater than 2^53 with a place below the point. -/
theorem far_low (n : Nat) (s : Bool) (m d : Nat) (hr : fmt.read n = .number s m (-(d : Int))) (hm : m < 9007199254740992) : Hand.inFar n = true := by
  unfold Hand.inFar Format.order
  rw [hr, lo_word, hi_word]
  unfold Datum.order
  have e1 : min (-(d : Int)) 1 = -(d : Int) := by omega
  have e2 : (-(d : Int) - -(d : Int)).toNat = 0 := by omega
  have e3 : ((1 : Int) - -(d : Int)).toNat = d + 1 := by omega
  simp only [e1, e2, e3]
  have hp : 1 ≤ 2 ^ d := Nat.one_le_two_pow
  have hb : m ≤ 4503599627370496 * 2 ^ (d + 1) := by
    rw [Nat.pow_succ]
    omega
  obtain ⟨l1, l2⟩ := signed_le s m 0
  have t1 : Ieee.signed true 4503599627370496 (d + 1) = -((4503599627370496 * 2 ^ (d + 1) : Nat) : Int) := by unfold Ieee.signed; rw [Nat.shiftLeft_eq]; rfl
  have t2 : Ieee.signed false 4503599627370496 (d + 1) = ((4503599627370496 * 2 ^ (d + 1) : Nat) : Int) := by unfold Ieee.signed; rw [Nat.shiftLeft_eq]; rfl
  rw [t1, t2]
  generalize 4503599627370496 * 2 ^ (d + 1) = B at *
  have c1 := cmpI (Ieee.signed s m 0) (-(B : Int))
  have c2 := cmpI (Ieee.signed s m 0) (B : Int)
  simp only [Nat.pow_zero, Nat.mul_one] at l1 l2
  simp only [Bool.and_eq_true, Bool.or_eq_true, beq_iff_eq, Option.some.injEq]
  rw [c1.2.2, c1.2.1, c2.1, c2.2.1]
  omega
theorem far_big (n : Nat) (s : Bool) (m k : Nat) (hr : fmt.read n = .number s m ((k : Int) + 1)) (hm : 4503599627370496 < m * 2 ^ k) : Hand.inFar n = false := by
  unfold Hand.inFar Format.order
  rw [hr, lo_word, hi_word]
  unfold Datum.order
  have e1 : min ((k : Int) + 1) 1 = 1 := by omega
  have e2 : ((k : Int) + 1 - 1).toNat = k := by omega
  have e3 : ((1 : Int) - 1).toNat = 0 := by omega
  simp only [e1, e2, e3]
  have t1 : Ieee.signed true 4503599627370496 0 = -4503599627370496 := by decide
  have t2 : Ieee.signed false 4503599627370496 0 = 4503599627370496 := by decide
  rw [t1, t2]
  have c1 := cmpI (Ieee.signed s m k) (-4503599627370496)
  have c2 := cmpI (Ieee.signed s m k) 4503599627370496
  rw [Bool.eq_false_iff]
  intro h
  simp only [Bool.and_eq_true, Bool.or_eq_true, beq_iff_eq, Option.some.injEq] at h
  rw [c1.2.2, c1.2.1, c2.1, c2.2.1] at h
  unfold Ieee.signed at h
  rw [Nat.shiftLeft_eq] at h
  cases s
  · simp only [Bool.false_eq_true, if_false] at h; omega
  · simp only [if_true] at h; omega
theorem far_none (n : Nat) (h : (∃ s, fmt.read n = .infinity s) ∨ ∃ s t, fmt.read n = .nan s t) : Hand.inFar n = false := by
  unfold Hand.inFar Format.order
  rw [lo_word, hi_word]
  rcases h with ⟨s, h⟩ | ⟨s, t, h⟩
  · rw [h]
    cases s <;> rfl
  · rw [h]
    rfl

/-- What the code says of a number below 2^53 with d places behind the point. -/
theorem whole_low (a : Int) (ha : U a) (s : Bool) (m d : Nat) (hr : fmt.read a.toNat = .number s m (-(d : Int))) (hm : m < 9007199254740992) :
    flt_Whole.f a = some (if m % 2 ^ d = 0 then (if s then -((m / 2 ^ d : Nat) : Int) else ((m / 2 ^ d : Nat) : Int), true) else (0, false)) := by
  unfold flt_Whole.f Hand.fltWhole
  rw [if_pos (show 0 ≤ a ∧ a < 18446744073709551616 from ha), if_pos (far_low _ s m d hr hm)]
  have hq : m / 2 ^ d < 9007199254740992 := Nat.lt_of_le_of_lt (Nat.div_le_self _ _) hm
  have hint : (fmt.read a.toNat).integral .zero = .number s (m / 2 ^ d) 0 := by
    rw [hr]
    unfold Datum.integral
    simp only
    have e1 : (-(d : Int)).toNat = 0 := by omega
    have e2 : (- -(d : Int)).toNat = d := by omega
    rw [e1, e2, Nat.shiftLeft_zero, cut_zero]
  have htw : Hand.truncW a.toNat = fmt.write (.number s (m / 2 ^ d) 0) := by
    unfold Hand.truncW
    show fmt.write ((fmt.read a.toNat).integral .zero) = _
    rw [hint]
  obtain ⟨mag, c, hb, hmag⟩ := write_back s (m / 2 ^ d) hq
  have hord : (fmt.order a.toNat (Hand.truncW a.toNat) = some .eq) ↔ m % 2 ^ d = 0 := by
    unfold Format.order
    rw [htw, hb, hr]
    unfold Datum.order
    simp only [Option.some.injEq]
    rw [(cmpI _ _).2.1, signed_inj, hmag]
    have e1 : (-(d : Int) - min (-(d : Int)) (-(c : Int))).toNat = max d c - d := by omega
    have e2 : (-(c : Int) - min (-(d : Int)) (-(c : Int))).toNat = max d c - c := by omega
    rw [e1, e2]
    have f1 : m / 2 ^ d * 2 ^ c * 2 ^ (max d c - c) = m / 2 ^ d * 2 ^ d * 2 ^ (max d c - d) := by
      rw [Nat.mul_assoc, ← Nat.pow_add, Nat.mul_assoc, ← Nat.pow_add]
      congr 2
      omega
    rw [f1]
    have hp : 0 < 2 ^ (max d c - d) := Nat.pow_pos (by decide)
    have hdm := Nat.div_add_mod m (2 ^ d)
    rw [Nat.mul_comm] at hdm
    constructor
    · intro h
      have := Nat.eq_of_mul_eq_mul_right hp h
      omega
    · intro h
      rw [h] at hdm
      simp only [Nat.add_zero] at hdm
      rw [hdm]
  have hord2 : (fmt.order a.toNat (Hand.truncW a.toNat) != some .eq) = true ↔ ¬ (m % 2 ^ d = 0) := by
    rw [bne_iff_ne, ne_eq, hord]
  by_cases hz : m % 2 ^ d = 0
  · rw [if_pos hz, if_neg (by rw [hord2]; simpa using hz)]
    have hi : floatToIntVal .f64 a.toNat .i64 = some (if s then -((m / 2 ^ d : Nat) : Int) else ((m / 2 ^ d : Nat) : Int)) := by
      unfold floatToIntVal
      show (match (fmt.read a.toNat).toInt .zero with | some n => if IntKind.i64.min ≤ n ∧ n ≤ IntKind.i64.max then some n else none | none => none) = _
      unfold Datum.toInt
      rw [hint]
      simp only [Ieee.signed, Nat.shiftLeft_zero]
      rw [if_pos]
      have e3 : IntKind.i64.min = -9223372036854775808 := by decide +kernel
      have e4 : IntKind.i64.max = 9223372036854775807 := by decide +kernel
      rw [e3, e4]
      generalize m / 2 ^ d = q at *
      cases s
      · simp only [Bool.false_eq_true, if_false]; omega
      · simp only [if_true]; omega
    rw [hi]
  · rw [if_neg hz, if_pos (by rw [hord2]; exact hz)]
theorem whole_far (a : Int) (ha : U a) (h : Hand.inFar a.toNat = false) : flt_Whole.f a = some (0, false) := by
  unfold flt_Whole.f Hand.fltWhole
  rw [if_pos (show 0 ≤ a ∧ a < 18446744073709551616 from ha), if_neg (by rw [h]; simp)]

/-! The document's answer. -/
theorem ref_l (s : Bool) : ∀ (d k m : Nat), d + 2 < k → d ≤ 52 → m < 9007199254740992 → astragalref04_Whole.l0 k s (1075 - (d : Int)) (m : Int) = some (if m % 2 ^ d = 0 then (if s then -((m / 2 ^ d : Nat) : Int) else ((m / 2 ^ d : Nat) : Int), true) else (0, false)) := by
  intro d
  induction d with
  | zero =>
    intro k m hk _ hm
    obtain ⟨k, rfl⟩ : ∃ j, k = j + 2 := ⟨k - 2, by omega⟩
    have e1 : wrap64 (m : Int) = m := by unfold wrap64; omega
    have e2 : wrap64 (-(m : Int)) = -(m : Int) := by unfold wrap64; omega
    rw [astragalref04_Whole.l0, if_neg (by omega), if_neg (by omega), astragalref04_Whole.j3, if_neg (by omega), e1, e2]
    simp only [Nat.pow_zero, Nat.mod_one, Nat.div_one, if_true]
    cases s <;> rfl
  | succ d ih =>
    intro k m hk hd hm
    obtain ⟨k, rfl⟩ : ∃ j, k = j + 1 := ⟨k - 1, by omega⟩
    have e1 : Int.tmod (m : Int) 2 = (m : Int) % 2 := Int.tmod_eq_emod_of_nonneg (by omega)
    have e2 : Int.tdiv (m : Int) 2 = ((m / 2 : Nat) : Int) := by rw [Int.tdiv_eq_ediv_of_nonneg (by omega)]; omega
    have hmod : m % 2 ^ (d + 1) = m % 2 + 2 * (m / 2 % 2 ^ d) := by rw [Nat.pow_succ, Nat.mul_comm, Nat.mod_mul]
    have hdiv : m / 2 ^ (d + 1) = m / 2 / 2 ^ d := by rw [Nat.pow_succ, Nat.mul_comm, Nat.div_div_eq_div_mul]
    rw [astragalref04_Whole.l0, if_pos (by omega), e1, e2]
    by_cases h2 : (m : Int) % 2 = 0
    · rw [if_pos h2, IntKind.wrap_u64, IntKind.wrap_u64, show (1075 - ((d + 1 : Nat) : Int) + 1) % 18446744073709551616 = 1075 - (d : Int) by omega,
        show ((m / 2 : Nat) : Int) % 18446744073709551616 = ((m / 2 : Nat) : Int) by omega, ih k (m / 2) (by omega) (by omega) (by omega), hmod, hdiv]
      by_cases h3 : m / 2 % 2 ^ d = 0
      · have h4 : m % 2 + 2 * (m / 2 % 2 ^ d) = 0 := by omega
        rw [if_pos h3, h4]
        rfl
      · have h4 : ¬ (m % 2 + 2 * (m / 2 % 2 ^ d) = 0) := by omega
        rw [if_neg h3, if_neg h4]
    · have h4 : ¬ (m % 2 ^ (d + 1) = 0) := by omega
      rw [if_neg h2, if_neg h4]
theorem ref_mid (s : Bool) (e f k : Nat) (hk : 100 ≤ k) (he : 1023 ≤ e) (he2 : e ≤ 1075) (hf : f < 4503599627370496) : astragalref04_Whole.j0 k s (e : Int) (f : Int) false =
    some (if (4503599627370496 + f) % 2 ^ (1075 - e) = 0 then (if s then -(((4503599627370496 + f) / 2 ^ (1075 - e) : Nat) : Int) else (((4503599627370496 + f) / 2 ^ (1075 - e) : Nat) : Int), true) else (0, false)) := by
  obtain ⟨k, rfl⟩ : ∃ j, k = j + 2 := ⟨k - 2, by omega⟩
  have hd : decide ((e : Int) > 1076) = false := by simp; omega
  rw [astragalref04_Whole.j0, if_neg (by simp), if_neg (by omega), hd, astragalref04_Whole.j1, if_neg (by simp), IntKind.wrap_u64]
  have := ref_l s (1075 - e) k (4503599627370496 + f) (by omega) (by omega) (by omega)
  rw [← this]
  congr 1
  · omega
  · omega
theorem ref_out (s : Bool) (e f : Int) (k : Nat) (hk : 100 ≤ k) (he : e < 1023 ∨ 1076 < e) : astragalref04_Whole.j0 k s e f false = some (0, false) := by
  obtain ⟨k, rfl⟩ : ∃ j, k = j + 2 := ⟨k - 2, by omega⟩
  rw [astragalref04_Whole.j0, if_neg (by simp)]
  by_cases h : e < 1023
  · rw [if_pos h, astragalref04_Whole.j1, if_pos rfl]
  · rw [if_neg h, show decide (e > 1076) = true by simp; omega, astragalref04_Whole.j1, if_pos rfl]
theorem ref_top (s : Bool) (f : Nat) (k : Nat) (hk : 100 ≤ k) (hf : f < 4503599627370496) (hf0 : 0 < f) : astragalref04_Whole.j0 k s 1076 (f : Int) false = some (0, false) := by
  obtain ⟨k, rfl⟩ : ∃ j, k = j + 4 := ⟨k - 4, by omega⟩
  rw [astragalref04_Whole.j0, if_neg (by simp), if_neg (by decide), show decide ((1076 : Int) > 1076) = false by decide, astragalref04_Whole.j1, if_neg (by simp), IntKind.wrap_u64,
    astragalref04_Whole.l0, if_neg (by decide), if_pos rfl, IntKind.wrap_u64, astragalref04_Whole.j3, if_pos (by omega)]

theorem wholes_eq (a : Int) (ha : U a) : ∃ r, flt_Whole.f a = some r ∧ some r = astragalref04_Whole.f 200 a := by
  obtain ⟨h1, h2⟩ := ha
  obtain ⟨n, rfl⟩ := Int.eq_ofNat_of_zero_le h1
  have hn : n < 18446744073709551616 := by omega
  have hU : U ((n : Nat) : Int) := ⟨h1, h2⟩
  have hp : astragalref04_Parts.f (n : Int) = some ((n / 9223372036854775808 % 2 == 1), ((n % 9223372036854775808 / 4503599627370496 : Nat) : Int), ((n % 9223372036854775808 % 4503599627370496 : Nat) : Int)) := by
    unfold astragalref04_Parts.f
    rw [Int.tdiv_eq_ediv_of_nonneg h1, IntKind.wrap_u64, Int.tmod_eq_emod_of_nonneg (by omega), Int.tmod_eq_emod_of_nonneg h1]
    congr 2
    · rw [Bool.eq_iff_iff, decide_eq_true_iff, beq_iff_eq]; omega
    · congr 1
      · omega
      · omega
  unfold astragalref04_Whole.f
  rw [hp]
  simp only [Option.bind_some]
  have hsub := read_sub n
  have hnorm := read_norm n
  have hfar := read_far n
  have hr : n % 9223372036854775808 < 9223372036854775808 := by omega
  have hbig : n = n / 9223372036854775808 % 2 * 9223372036854775808 + n % 9223372036854775808 := by omega
  have hs2 : n / 9223372036854775808 % 2 = 0 ∨ n / 9223372036854775808 % 2 = 1 := by omega
  generalize hr0 : n % 9223372036854775808 = r at *
  generalize hs0 : n / 9223372036854775808 % 2 = sN at *
  by_cases he0 : r / 4503599627370496 = 0
  · have hlt : r < 4503599627370496 := by omega
    obtain ⟨d, hd⟩ : ∃ d : Nat, d = 1074 := ⟨_, rfl⟩
    refine ⟨_, whole_low _ hU _ r d (by rw [hd]; exact hsub hlt) (by omega), ?_⟩
    have hf : r % 4503599627370496 = r := by omega
    rw [he0, hf, if_pos (show ((0 : Nat) : Int) = 0 from rfl)]
    by_cases hz : r = 0
    · subst hz
      rw [show astragalref04_Whole.j0 200 (sN == 1) ((0 : Nat) : Int) ((0 : Nat) : Int) (((0 : Nat) : Int) == 0) = some (0, true) by rw [astragalref04_Whole.j0, if_pos (by decide)]]
      simp
    · have hlt2 : r < 2 ^ d := Nat.lt_of_lt_of_le hlt (by rw [show (4503599627370496 : Nat) = 2 ^ 52 by decide]; exact Nat.pow_le_pow_right (by decide) (by omega))
      rw [Nat.mod_eq_of_lt hlt2, if_neg hz, show (((r : Nat) : Int) == 0) = false by rw [beq_eq_false_iff_ne]; omega, ref_out _ _ _ 200 (by decide) (.inl (by omega))]
  · have hge : 4503599627370496 ≤ r := by omega
    have hne : ¬ (((r / 4503599627370496 : Nat) : Int) = 0) := by omega
    rw [if_neg hne]
    clear hne
    have hflt : r % 4503599627370496 < 4503599627370496 := by omega
    have her : r = r / 4503599627370496 * 4503599627370496 + r % 4503599627370496 := by omega
    generalize hE : r / 4503599627370496 = e at *
    generalize hF : r % 4503599627370496 = f at *
    by_cases hinf : 2047 ≤ e
    · refine ⟨_, whole_far _ hU (far_none _ (hfar (by omega))), ?_⟩
      rw [ref_out _ _ _ 200 (by decide) (.inr (by omega))]
    · have hrd := hnorm hge (by omega)
      by_cases hlow : e ≤ 1075
      · have hpl : (-1074 + ((e - 1 : Nat) : Int)) = -((1075 - e : Nat) : Int) := by omega
        rw [hpl] at hrd
        refine ⟨_, whole_low _ hU _ _ _ hrd (by omega), ?_⟩
        by_cases hmid : 1023 ≤ e
        · rw [ref_mid _ e f 200 (by decide) hmid hlow hflt]
        · have hlt2 : 4503599627370496 + f < 2 ^ (1075 - e) := Nat.lt_of_lt_of_le (show 4503599627370496 + f < 2 ^ 53 by rw [show (2 : Nat) ^ 53 = 9007199254740992 by decide]; omega) (Nat.pow_le_pow_right (by decide) (by omega))
          rw [Nat.mod_eq_of_lt hlt2, if_neg (by omega), ref_out _ _ _ 200 (by decide) (.inl (by omega))]
      · have hpl : (-1074 + ((e - 1 : Nat) : Int)) = ((e - 1076 : Nat) : Int) + 1 := by omega
        rw [hpl] at hrd
        by_cases h76 : e = 1076
        · subst h76
          by_cases hf0 : f = 0
          · subst hf0
            rcases hs2 with h | h
            · have : n = 4845873199050653696 := by omega
              subst this
              rw [h]
              exact ⟨(9007199254740992, true), by decide +kernel, by decide +kernel⟩
            · have : n = 14069245235905429504 := by omega
              subst this
              rw [h]
              exact ⟨(-9007199254740992, true), by decide +kernel, by decide +kernel⟩
          · refine ⟨_, whole_far _ hU (far_big _ _ _ _ hrd (by simp; omega)), ?_⟩
            rw [show ((1076 : Nat) : Int) = 1076 from rfl, ref_top _ f 200 (by decide) hflt (by omega)]
        · have hp2 : 2 ≤ 2 ^ (e - 1076) := by
            have := Nat.pow_le_pow_right (show 0 < 2 by decide) (show 1 ≤ e - 1076 by omega)
            simpa using this
          have hm2 : 4503599627370496 * 2 ≤ (4503599627370496 + f) * 2 ^ (e - 1076) := Nat.mul_le_mul (by omega) hp2
          refine ⟨_, whole_far _ hU (far_big _ _ _ _ hrd (by omega)), ?_⟩
          rw [ref_out _ _ _ 200 (by decide) (.inr (by omega))]

theorem FltWholes : astragallaw04_FltWholes.Pure := by
  intro a ha
  have ha := wf_u64 ha
  refine ⟨200, ?_⟩
  unfold astragallaw04_FltWholes.f
  obtain ⟨r, h1, h2⟩ := wholes_eq a ha
  rw [shown_true, h1, ← h2]
  simp
end Go.Proofs.Ytageilidppcphaa.Pure
