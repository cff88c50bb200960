/-
  Plain lemmas: the words of whole numbers, and of these and a half: their values, what flt.Whole tells of them.
-/
import Derived.Test.YtageilidppcphaaFlnA
import Derived.Test.YtageilidppcphaaHBits
namespace Go.Proofs.Ytageilidppcphaa.Hand
open Go.RowKit Go.Proofs.Ytageilidppcphaa.FltC Go.Proofs.YtageilidppcphaaW.PrintWords
open Ieee (Datum Toward Format)

theorem sv_near (s : Bool) (a : Nat) (q : Int) (h0 : a ≠ 0) (h1 : a < 9007199254740992) (h2 : -1074 ≤ q) (h3 : q + a.log2 ≤ 1023) :
    sv (fmt.nearest s a q) = Ieee.signed s a (q + 1074).toNat := by
  obtain ⟨n1, n2⟩ := near_lt s a q h0 h1 h2 h3
  obtain ⟨m, e, hr, hv⟩ := read_fin _ n2
  rw [hv]
  rw [read_near s a q h0 h1 h2 h3] at hr
  have hg := gap_le a q h0 h1 h2 h3
  generalize gap a q = g at *
  injection hr with r1 r2 r3
  rw [← r1, ← r2]
  have he : (q + 1074).toNat = g + e := by omega
  rw [he]
  unfold Ieee.signed
  simp only [Nat.shiftLeft_eq, Nat.pow_add, Nat.mul_assoc]

def Pn (k : Nat) : Nat := 2 ^ k
theorem pow_Pn (k : Nat) : (2 : Nat) ^ k = Pn k := rfl
theorem shl_Pn (x k : Nat) : x <<< k = x * Pn k := Nat.shiftLeft_eq x k
theorem Pn_pos (k : Nat) : 0 < Pn k := Nat.pow_pos (by decide)
theorem Pn_succ (k : Nat) : Pn (k + 1) = 2 * Pn k := by unfold Pn; rw [Nat.pow_succ, Nat.mul_comm]
theorem P74_two : Pn 1074 = 2 * Pn 1073 := Pn_succ 1073
/-- The word of a whole number. -/
def wd (a : Int) : Nat := fmt.nearest (a < 0) a.natAbs 0
theorem wd_float (a : Int) : floatOfInt .f64 a = wd a := rfl
/-- The word of a whole number and a half. -/
def wh (a : Int) : Nat := fmt.nearest (2 * a + 1 < 0) (2 * a + 1).natAbs (-1)

theorem wd_zero : wd 0 = 0 := by decide +kernel
theorem log_lt (n k : Nat) (h0 : n ≠ 0) (h : n < 2 ^ k) : n.log2 < k := (Nat.log2_lt h0).mpr h

section
variable (a : Int) (h : -1125899906842624 < a) (h' : a < 1125899906842624)
include h h'
theorem wd_pos (h0 : a ≠ 0) : a.natAbs ≠ 0 ∧ a.natAbs < 9007199254740992 ∧ (0 : Int) + a.natAbs.log2 ≤ 1023 := by
  have hl := log_lt a.natAbs 53 (by omega) (by omega)
  exact ⟨by omega, by omega, by omega⟩
theorem wd_lt : wd a < 18446744073709551616 ∧ wd a % 9223372036854775808 < 9218868437227405312 := by
  by_cases h0 : a = 0
  · subst h0; rw [wd_zero]; decide
  · obtain ⟨p1, p2, p3⟩ := wd_pos a h h' h0
    exact near_lt _ _ _ p1 p2 (by omega) p3
theorem sv_wd : sv (wd a) = a * ((Pn 1074 : Nat) : Int) := by
  by_cases h0 : a = 0
  · subst h0; rw [wd_zero, sv_zero, Int.zero_mul]
  · obtain ⟨p1, p2, p3⟩ := wd_pos a h h' h0
    unfold wd
    rw [sv_near _ _ _ p1 p2 (by omega) p3]
    unfold Ieee.signed
    rw [show ((0 : Int) + 1074).toNat = 1074 from rfl, shl_Pn]
    generalize Pn 1074 = K
    by_cases hs : a < 0
    · rw [if_pos (by simpa using hs), Int.natCast_mul, show ((a.natAbs : Nat) : Int) = -a by omega, Int.neg_mul, Int.neg_neg]
    · rw [if_neg (by simpa using hs), Int.natCast_mul, show ((a.natAbs : Nat) : Int) = a by omega]
theorem wh_pos : (2 * a + 1).natAbs ≠ 0 ∧ (2 * a + 1).natAbs < 9007199254740992 ∧ (-1 : Int) + (2 * a + 1).natAbs.log2 ≤ 1023 := by
  have hl := log_lt (2 * a + 1).natAbs 53 (by omega) (by omega)
  exact ⟨by omega, by omega, by omega⟩
theorem wh_lt : wh a < 18446744073709551616 ∧ wh a % 9223372036854775808 < 9218868437227405312 := by
  obtain ⟨p1, p2, p3⟩ := wh_pos a h h'
  exact near_lt _ _ _ p1 p2 (by omega) p3
theorem sv_wh : sv (wh a) = (2 * a + 1) * ((Pn 1073 : Nat) : Int) := by
  obtain ⟨p1, p2, p3⟩ := wh_pos a h h'
  unfold wh
  rw [sv_near _ _ _ p1 p2 (by omega) p3]
  unfold Ieee.signed
  rw [show ((-1 : Int) + 1074).toNat = 1073 from rfl, shl_Pn]
  generalize Pn 1073 = K
  by_cases hs : 2 * a + 1 < 0
  · rw [if_pos (by simpa using hs), Int.natCast_mul, show (((2 * a + 1).natAbs : Nat) : Int) = -(2 * a + 1) by omega, Int.neg_mul, Int.neg_neg]
  · rw [if_neg (by simpa using hs), Int.natCast_mul, show (((2 * a + 1).natAbs : Nat) : Int) = 2 * a + 1 by omega]

/-- A half more. -/
theorem half_add : fmt.add (wd a) 4602678819172646912 = some (wh a) := by
  by_cases h0 : a = 0
  · subst h0; decide +kernel
  obtain ⟨p1, p2, p3⟩ := wd_pos a h h' h0
  obtain ⟨q1, q2, q3⟩ := wh_pos a h h'
  unfold wd Format.add
  rw [read_near _ _ _ p1 p2 (by omega) p3, half_word]
  have hgl := gap_le a.natAbs 0 p1 p2 (by omega) p3
  have hL : a.natAbs.log2 < 50 := log_lt a.natAbs 50 p1 (by omega)
  have hg : gap a.natAbs 0 = 52 - a.natAbs.log2 := by unfold gap; omega
  generalize gap a.natAbs 0 = g at *
  unfold Datum.sum
  simp only [Option.map_some, Option.some.injEq]
  have e1 : min ((0 : Int) - (g : Int)) (-53) = -53 := by omega
  have e2 : ((0 : Int) - (g : Int) - -53).toNat = 53 - g := by omega
  have e3 : ((-53 : Int) - -53).toNat = 0 := rfl
  rw [e1, e2, e3]
  have hs1 : Ieee.signed (decide (a < 0)) (a.natAbs * 2 ^ g) (53 - g) = a * 9007199254740992 := by
    unfold Ieee.signed
    rw [Nat.shiftLeft_eq, Nat.mul_assoc, ← Nat.pow_add, show g + (53 - g) = 53 by omega, show (2 : Nat) ^ 53 = 9007199254740992 from rfl]
    by_cases hs : a < 0
    · rw [if_pos (by simpa using hs)]; omega
    · rw [if_neg (by simpa using hs)]; omega
  have hs2 : Ieee.signed false 4503599627370496 0 = 4503599627370496 := rfl
  rw [hs1, hs2]
  have ht : a * 9007199254740992 + 4503599627370496 = (2 * a + 1) * 4503599627370496 := by omega
  have hne : ¬ a * 9007199254740992 + 4503599627370496 = 0 := by omega
  rw [if_neg hne, ht]
  show fmt.nearest _ _ _ = _
  have e4 : ((2 * a + 1) * 4503599627370496).natAbs = (2 * a + 1).natAbs * 2 ^ 52 := by rw [Int.natAbs_mul]; rfl
  have e5 : decide ((2 * a + 1) * 4503599627370496 < 0) = decide (2 * a + 1 < 0) := by
    rw [decide_eq_decide]; omega
  rw [e4, e5]
  have := near_shift (decide (2 * a + 1 < 0)) (2 * a + 1).natAbs (-1) q1 q2 (by omega) q3 52
  rw [show (-1 : Int) - ((52 : Nat) : Int) = -53 from rfl] at this
  exact this
end

theorem lo_sv : sv 14069245235905429504 = -9007199254740992 * ((Pn 1074 : Nat) : Int) := by decide +kernel
theorem hi_sv : sv 4845873199050653696 = 9007199254740992 * ((Pn 1074 : Nat) : Int) := by decide +kernel
theorem far_of (n : Nat) (hn : n % 9223372036854775808 ≤ 9218868437227405312) (h1 : -9007199254740992 * ((Pn 1074 : Nat) : Int) < sv n) (h2 : sv n < 9007199254740992 * ((Pn 1074 : Nat) : Int)) : inFar n = true := by
  have a1 := (sv_lt n 14069245235905429504 hn (by decide)).2.1 (by rw [lo_sv]; exact h1)
  have a2 := (sv_lt n 4845873199050653696 hn (by decide)).1 (by rw [hi_sv]; exact h2)
  unfold inFar
  rw [a1, a2]; rfl
theorem far_mul (a : Int) (K : Nat) (hK : 0 < K) (h : -9007199254740992 < a) (h' : a < 9007199254740992) : -9007199254740992 * (K : Int) < a * K ∧ a * K < 9007199254740992 * (K : Int) :=
  ⟨Int.mul_lt_mul_of_pos_right h (by omega), Int.mul_lt_mul_of_pos_right h' (by omega)⟩

theorem cut_zero (s : Bool) (N d : Nat) : Toward.zero.cut s N d = N / 2 ^ d := by
  unfold Toward.cut
  simp only [Nat.shiftLeft_eq, Nat.one_mul, Bool.toNat_false, Nat.add_zero]
  rcases Nat.le_total d (N.log2 + 2) with h | h
  · rw [Nat.min_eq_left h]
  · rw [Nat.min_eq_right h]
    have h1 : N < 2 ^ (N.log2 + 1) := Nat.lt_log2_self
    have h2 : 2 ^ (N.log2 + 1) ≤ 2 ^ (N.log2 + 2) := Nat.pow_le_pow_right (by decide) (by omega)
    have h3 : 2 ^ (N.log2 + 2) ≤ 2 ^ d := Nat.pow_le_pow_right (by decide) h
    rw [Nat.div_eq_of_lt (by omega), Nat.div_eq_of_lt (by omega)]

section
variable (a : Int) (h : -1125899906842624 < a) (h' : a < 1125899906842624)
include h h'
theorem whole_int : fltWhole (wd a : Nat) = some (a, true) := by
  obtain ⟨l1, l2⟩ := wd_lt a h h'
  have hpow := Pn_pos 1074
  have hf : inFar (wd a) = true := by
    obtain ⟨f1, f2⟩ := far_mul a (Pn 1074) hpow (by omega) (by omega)
    exact far_of _ (by omega) (by rw [sv_wd a h h']; exact f1) (by rw [sv_wd a h h']; exact f2)
  have htr : truncW (wd a) = wd a ∧ (FloatKind.f64.decode (wd a)).toInt .zero = some a := by
    by_cases h0 : a = 0
    · subst h0; rw [wd_zero]; exact ⟨by decide +kernel, by decide +kernel⟩
    · obtain ⟨p1, p2, p3⟩ := wd_pos a h h' h0
      have hL : a.natAbs.log2 ≤ 52 := by have := log_lt a.natAbs 53 p1 (by omega); omega
      have hr : (FloatKind.f64.decode (wd a)).integral .zero = .number (decide (a < 0)) a.natAbs 0 := by
        show (fmt.read (fmt.nearest (decide (a < 0)) a.natAbs 0)).integral .zero = _
        rw [read_near _ _ _ p1 p2 (by omega) p3]
        have hg : gap a.natAbs 0 = 52 - a.natAbs.log2 := by unfold gap; omega
        generalize gap a.natAbs 0 = g at *
        unfold Datum.integral
        simp only
        have e1 : ((0 : Int) - (g : Int)).toNat = 0 := by omega
        have e2 : (-((0 : Int) - (g : Int))).toNat = g := by omega
        rw [e1, e2, Nat.shiftLeft_zero, cut_exact _ _ _ _ p1]
      refine ⟨?_, ?_⟩
      · unfold truncW; rw [hr]; rfl
      · unfold Datum.toInt
        rw [hr]
        simp only [Ieee.signed, Nat.shiftLeft_zero]
        by_cases hs : a < 0
        · rw [if_pos (by simpa using hs)]; congr 1; omega
        · rw [if_neg (by simpa using hs)]; congr 1; omega
  have ho : FloatKind.f64.format.order (wd a) (wd a) = some .eq := (sv_lt _ _ (by omega) (by omega)).2.2 rfl
  have hi : floatToIntVal .f64 (wd a) .i64 = some a := by
    unfold floatToIntVal
    rw [htr.2]
    simp only
    rw [if_pos]
    have e1 : IntKind.i64.min = -9223372036854775808 := by decide
    have e2 : IntKind.i64.max = 9223372036854775807 := by decide
    rw [e1, e2]; omega
  unfold fltWhole
  rw [if_pos (by omega), Int.toNat_natCast, if_pos hf, htr.1, ho, hi]
  rfl
theorem whole_half : fltWhole (wh a : Nat) = some (0, false) := by
  obtain ⟨l1, l2⟩ := wh_lt a h h'
  obtain ⟨p1, p2, p3⟩ := wh_pos a h h'
  have hpow := Pn_pos 1073
  have hs74 : ((Pn 1074 : Nat) : Int) = 2 * ((Pn 1073 : Nat) : Int) := by rw [P74_two, Int.natCast_mul]; rfl
  have hsv := sv_wh a h h'
  have hf : inFar (wh a) = true := by
    obtain ⟨f1, f2⟩ := far_mul (2 * a + 1) (Pn 1073) hpow (by omega) (by omega)
    refine far_of _ (by omega) ?_ ?_
    · rw [hsv, hs74]; generalize ((Pn 1073 : Nat) : Int) = K at *; omega
    · rw [hsv, hs74]; generalize ((Pn 1073 : Nat) : Int) = K at *; omega
  have hL : (2 * a + 1).natAbs.log2 ≤ 51 := by have := log_lt (2 * a + 1).natAbs 52 p1 (by omega); omega
  have htr : truncW (wh a) = fmt.nearest (decide (2 * a + 1 < 0)) ((2 * a + 1).natAbs / 2) 0 := by
    unfold truncW
    have hr : (FloatKind.f64.decode (wh a)).integral .zero = .number (decide (2 * a + 1 < 0)) ((2 * a + 1).natAbs / 2) 0 := by
      show (fmt.read (fmt.nearest (decide (2 * a + 1 < 0)) (2 * a + 1).natAbs (-1))).integral .zero = _
      rw [read_near _ _ _ p1 p2 (by omega) p3]
      have hg : gap (2 * a + 1).natAbs (-1) = 52 - (2 * a + 1).natAbs.log2 := by unfold gap; omega
      generalize gap (2 * a + 1).natAbs (-1) = g at *
      unfold Datum.integral
      simp only
      have e1 : ((-1 : Int) - (g : Int)).toNat = 0 := by omega
      have e2 : (-((-1 : Int) - (g : Int))).toNat = g + 1 := by omega
      rw [e1, e2, Nat.shiftLeft_zero, cut_zero, Nat.pow_succ, ← Nat.div_div_eq_div_mul, Nat.mul_div_cancel _ (Nat.pow_pos (by decide))]
    rw [hr]; rfl
  have hne : (FloatKind.f64.format.order (wh a) (truncW (wh a)) != some .eq) = true := by
    rw [htr]
    generalize hb : (2 * a + 1).natAbs / 2 = b
    have hb2 : (2 * a + 1).natAbs = 2 * b + 1 := by omega
    have ht : sv (fmt.nearest (decide (2 * a + 1 < 0)) b 0) = Ieee.signed (decide (2 * a + 1 < 0)) b 1074 ∧ fmt.nearest (decide (2 * a + 1 < 0)) b 0 % 9223372036854775808 ≤ 9218868437227405312 := by
      by_cases hb0 : b = 0
      · subst hb0
        by_cases hs : 2 * a + 1 < 0
        · rw [decide_eq_true hs]; exact ⟨by decide +kernel, by decide +kernel⟩
        · rw [decide_eq_false hs]; exact ⟨by decide +kernel, by decide +kernel⟩
      · have hl := log_lt b 53 hb0 (by omega)
        have hnl := near_lt (decide (2 * a + 1 < 0)) b 0 hb0 (by omega) (by omega) (by omega)
        exact ⟨sv_near _ b 0 hb0 (by omega) (by omega) (by omega), by omega⟩
    obtain ⟨t1, t2⟩ := ht
    have hsne : sv (wh a) ≠ sv (fmt.nearest (decide (2 * a + 1 < 0)) b 0) := by
      rw [t1, hsv]
      unfold Ieee.signed
      rw [shl_Pn, P74_two]
      generalize Pn 1073 = K at *
      have e0 : b * (2 * K) = 2 * b * K := by rw [← Nat.mul_assoc, Nat.mul_comm b 2]
      rw [e0]
      have e1 : ((2 * b * K : Nat) : Int) = (2 * (b : Int)) * (K : Int) := by rw [Int.natCast_mul, Int.natCast_mul]; rfl
      by_cases hs : 2 * a + 1 < 0
      · rw [if_pos (by simpa using hs), e1, ← Int.neg_mul]
        intro hc
        have := Int.eq_of_mul_eq_mul_right (by omega) hc
        omega
      · rw [if_neg (by simpa using hs), e1]
        intro hc
        have := Int.eq_of_mul_eq_mul_right (by omega) hc
        omega
    have o := sv_lt (wh a) (fmt.nearest (decide (2 * a + 1 < 0)) b 0) (by omega) t2
    rcases Int.lt_trichotomy (sv (wh a)) (sv (fmt.nearest (decide (2 * a + 1 < 0)) b 0)) with q | q | q
    · rw [o.1 q]; rfl
    · exact absurd q hsne
    · rw [o.2.1 q]; rfl
  unfold fltWhole
  rw [if_pos (by omega), Int.toNat_natCast, if_pos hf, if_pos hne]
theorem bitsW_wd : bitsW (wd a) = wd a := by
  unfold bitsW
  split
  · rename_i hz
    by_cases h0 : a = 0
    · subst h0; rw [wd_zero]
    · exfalso
      have hsv := sv_wd a h h'
      have : sv (wd a) = 0 := by unfold sv; rw [hz]; split <;> rfl
      rw [this] at hsv
      have hK : (0 : Int) < ((Pn 1074 : Nat) : Int) := by have := Pn_pos 1074; omega
      generalize ((Pn 1074 : Nat) : Int) = K at *
      rcases Int.mul_eq_zero.1 hsv.symm with h | h <;> omega
  · rfl
theorem bitsW_wh : bitsW (wh a) = wh a := by
  unfold bitsW
  split
  · rename_i hz
    exfalso
    have hsv := sv_wh a h h'
    have : sv (wh a) = 0 := by unfold sv; rw [hz]; split <;> rfl
    rw [this] at hsv
    have hK : (0 : Int) < ((Pn 1073 : Nat) : Int) := by have := Pn_pos 1073; omega
    generalize ((Pn 1073 : Nat) : Int) = K at *
    rcases Int.mul_eq_zero.1 hsv.symm with h | h <;> omega
  · rfl
theorem compare_wd (b : Int) (g : -1125899906842624 < b) (g' : b < 1125899906842624) :
    ∃ c, PFln.flt_Compare.f (wd a : Nat) (wd b : Nat) = some c ∧ decide (c < 0) = decide (a < b) := by
  obtain ⟨l1, l2⟩ := wd_lt a h h'
  obtain ⟨m1, m2⟩ := wd_lt b g g'
  have hK : (0 : Int) < ((Pn 1074 : Nat) : Int) := by have := Pn_pos 1074; omega
  have s1 := sv_wd a h h'
  have s2 := sv_wd b g g'
  by_cases hab : a = b
  · subst hab
    refine ⟨0, ?_, by simp⟩
    rw [Pure.compare_f ⟨by omega, by omega⟩ ⟨by omega, by omega⟩]
    unfold Pure.cmp; rw [if_neg (by omega), if_neg (by omega)]
  · have hlt : sv (wd a) < sv (wd b) ↔ a < b := by
      rw [s1, s2]
      exact Int.mul_lt_mul_right hK
    have hne : sv (wd a) ≠ sv (wd b) := by
      rw [s1, s2]
      intro hc
      exact hab (Int.eq_of_mul_eq_mul_right (by omega) hc)
    rw [Pure.compare_sv _ _ l1 m1 (by omega) (by omega) hne]
    refine ⟨_, rfl, ?_⟩
    by_cases hc : a < b
    · rw [if_pos (hlt.2 hc)]; simp [hc]
    · rw [if_neg (fun h => hc (hlt.1 h))]; simp [hc]
end
end Go.Proofs.Ytageilidppcphaa.Hand
