/-
  By hand: the contract of the law's own function bits (a float64's bits by steps): it tells the very bits, but 0 of both noughts.
-/
import Derived.Test.YtageilidppcphaaFltC
namespace Go.Proofs.Ytageilidppcphaa.Hand
open Go.RowKit Go.Proofs.YtageilidppcphaaW.PrintWords Go.Proofs.Ytageilidppcphaa.FltC
open Ieee (Datum Toward Format)

theorem neg_word (m : Nat) (h : m < 9223372036854775808) : Op.negFloat .f64 (9223372036854775808 + m) = m := by
  show (9223372036854775808 + m) ^^^ 2 ^ 63 = m
  have e : (2 : Nat) ^ 63 = 9223372036854775808 := by decide
  have h1 : 2 ^ 63 + m = 2 ^ 63 ^^^ m := by
    apply Nat.eq_of_testBit_eq
    intro i
    rw [Nat.testBit_xor, Nat.testBit_two_pow]
    rcases Nat.lt_trichotomy i 63 with hi | hi | hi
    · rw [Nat.testBit_two_pow_add_gt hi, decide_eq_false (by omega)]; simp
    · subst hi
      rw [Nat.testBit_two_pow_add_eq, decide_eq_true rfl, Nat.testBit_lt_two_pow (by omega)]; rfl
    · have hp : 2 ^ 64 ≤ 2 ^ i := Nat.pow_le_pow_right (by decide) (by omega)
      have e2 : (2 : Nat) ^ 64 = 18446744073709551616 := by decide
      rw [Nat.testBit_lt_two_pow (by omega), Nat.testBit_lt_two_pow (x := m) (by omega), decide_eq_false (by omega)]; rfl
  rw [← e, h1, Nat.xor_comm (2 ^ 63) m, Nat.xor_assoc, Nat.xor_self, Nat.xor_zero]

section
variable (a : Nat) (p : Int) (h0 : a ≠ 0) (h1 : a < 9007199254740992) (h2 : -1074 ≤ p) (h3 : p + a.log2 ≤ 1023)
include h0 h1 h2 h3
theorem lt_two (h : p ≤ -52) : FloatKind.f64.format.order (fmt.nearest false a p) 4611686018427387904 = some .lt := by
  show Format.order fmt _ _ = _
  unfold Format.order
  rw [read_near false a p h0 h1 h2 h3, two_word]
  have hl := gap_lt a p h0 h1
  generalize a * 2 ^ gap a p = M at *
  generalize gap a p = g at *
  unfold Datum.order
  have e1 : min (p - (g : Int)) (-51) = p - (g : Int) := by omega
  have e2 : (p - (g : Int) - (p - (g : Int))).toNat = 0 := by omega
  obtain ⟨c, hc⟩ : ∃ c : Nat, (-51 - (p - (g : Int))).toNat = c + 1 := ⟨(-51 - (p - (g : Int))).toNat - 1, by omega⟩
  simp only [e1, e2, hc]
  unfold Ieee.signed
  simp only [Bool.false_eq_true, if_false, Nat.shiftLeft_eq, Nat.pow_zero, Nat.mul_one]
  have hp : 1 ≤ 2 ^ c := Nat.one_le_two_pow
  rw [Nat.pow_succ, (cmpI _ _).1.2 (by omega)]
theorem lt_one (h : p - gap a p ≤ -53) : FloatKind.f64.format.order (fmt.nearest false a p) 4607182418800017408 = some .lt := by
  show Format.order fmt _ _ = _
  unfold Format.order
  rw [read_near false a p h0 h1 h2 h3, one_word]
  have hl := gap_lt a p h0 h1
  generalize a * 2 ^ gap a p = M at *
  generalize gap a p = g at *
  unfold Datum.order
  have e1 : min (p - (g : Int)) (-52) = p - (g : Int) := by omega
  have e2 : (p - (g : Int) - (p - (g : Int))).toNat = 0 := by omega
  obtain ⟨c, hc⟩ : ∃ c : Nat, (-52 - (p - (g : Int))).toNat = c + 1 := ⟨(-52 - (p - (g : Int))).toNat - 1, by omega⟩
  simp only [e1, e2, hc]
  unfold Ieee.signed
  simp only [Bool.false_eq_true, if_false, Nat.shiftLeft_eq, Nat.pow_zero, Nat.mul_one]
  have hp : 1 ≤ 2 ^ c := Nat.one_le_two_pow
  rw [Nat.pow_succ, (cmpI _ _).1.2 (by omega)]
end
theorem log_full (a : Nat) (h1 : 4503599627370496 ≤ a) (h2 : a < 9007199254740992) : a.log2 = 52 := by
  have l1 : 52 ≤ a.log2 := by rw [Nat.le_log2 (by omega)]; omega
  have l2 : a.log2 < 53 := by rw [Nat.log2_lt (by omega)]; omega
  omega
theorem log_few (a : Nat) (h0 : a ≠ 0) (h2 : a < 4503599627370496) : a.log2 ≤ 51 := by
  have l2 : a.log2 < 52 := by rw [Nat.log2_lt (by omega)]; omega
  omega
theorem gap_none (a : Nat) (p : Int) (h1 : 4503599627370496 ≤ a) (h2 : a < 9007199254740992) (h3 : -1074 ≤ p) : gap a p = 0 := by
  have := log_full a h1 h2
  unfold gap; omega
theorem ge_two (a : Nat) (p : Int) (h1 : 4503599627370496 ≤ a) (h2 : a < 9007199254740992) (h : -51 ≤ p) (h3 : p ≤ 971) :
    FloatKind.f64.format.order (fmt.nearest false a p) 4611686018427387904 = some .gt ∨ FloatKind.f64.format.order (fmt.nearest false a p) 4611686018427387904 = some .eq := by
  have hlog := log_full a h1 h2
  show Format.order fmt _ _ = _ ∨ Format.order fmt _ _ = _
  unfold Format.order
  rw [read_near false a p (by omega) h2 (by omega) (by omega), two_word, gap_none a p h1 h2 (by omega)]
  unfold Datum.order
  have e1 : min (p - ((0 : Nat) : Int)) (-51) = -51 := by omega
  have e2 : ((-51 : Int) - -51).toNat = 0 := by omega
  simp only [e1, e2]
  unfold Ieee.signed
  simp only [Bool.false_eq_true, if_false, Nat.shiftLeft_eq, Nat.pow_zero, Nat.mul_one]
  generalize (p - ((0 : Nat) : Int) - -51).toNat = c
  have hp : a * 1 ≤ a * 2 ^ c := Nat.mul_le_mul_left _ Nat.one_le_two_pow
  have cc := cmpI ((a * 2 ^ c : Nat) : Int) ((4503599627370496 : Nat) : Int)
  by_cases he : a * 2 ^ c = 4503599627370496
  · right; rw [cc.2.1.2 (by omega)]
  · left; rw [cc.2.2.2 (by omega)]
theorem ge_one (a : Nat) (h1 : 4503599627370496 ≤ a) (h2 : a < 9007199254740992) : (FloatKind.f64.format.order (fmt.nearest false a (-52)) 4607182418800017408 == some .lt) = false := by
  have hlog := log_full a h1 h2
  show (Format.order fmt _ _ == _) = _
  unfold Format.order
  rw [read_near false a (-52) (by omega) h2 (by omega) (by omega), one_word, gap_none a (-52) h1 h2 (by omega)]
  unfold Datum.order
  have e1 : min ((-52 : Int) - ((0 : Nat) : Int)) (-52) = -52 := by omega
  have e2 : ((-52 : Int) - -52).toNat = 0 := by omega
  have e3 : ((-52 : Int) - ((0 : Nat) : Int) - -52).toNat = 0 := by omega
  simp only [e1, e2, e3]
  unfold Ieee.signed
  simp only [Bool.false_eq_true, if_false, Nat.shiftLeft_eq, Nat.pow_zero, Nat.mul_one]
  have cc := cmpI (a : Int) ((4503599627370496 : Nat) : Int)
  by_cases he : a = 4503599627370496
  · rw [cc.2.1.2 (by omega)]; rfl
  · rw [cc.2.2.2 (by omega)]; rfl

/-- The bits; of both noughts 0. -/
def bitsW (n : Nat) : Nat := if n % 9223372036854775808 = 0 then 0 else n

theorem bits_zero (n : Nat) (h : n % 9223372036854775808 = 0) (w : World) :
    Calls Try.prog 15 #[.float .f64 n] w fun e w' => e = .returned (.int .u64 (bitsW n : Nat)) ∧ w = w' := by
  have ho : FloatKind.f64.format.order n 0 = some .eq := by
    have h1 := order_sv n 0 (by omega) (by omega)
    have hz : sv n = 0 ∧ sv 0 = 0 := by
      unfold sv; rw [h]; exact ⟨by split <;> simp [V], by decide⟩
    rw [hz.1, hz.2] at h1
    exact h1
  have hb : bitsW n = 0 := by unfold bitsW; rw [if_pos h]
  rw [hb]
  clear h hb
  go_enter Try.func15, Try.ntmps15
  go_wp2
  go_ret
  exact ⟨rfl, rfl⟩

theorem bits_inf (n : Nat) (hn : n < 18446744073709551616) (h : n % 9223372036854775808 = 9218868437227405312) (w : World) :
    Calls Try.prog 15 #[.float .f64 n] w fun e w' => e = .returned (.int .u64 (bitsW n : Nat)) ∧ w = w' := by
  have hb : bitsW n = n := by unfold bitsW; rw [if_neg (by omega)]
  rw [hb]
  clear hb
  have hc : n = 9218868437227405312 ∨ n = 18442240474082181120 := by omega
  rcases hc with rfl | rfl
  · have o1 : FloatKind.f64.format.order 9218868437227405312 0 = some .gt := by decide +kernel
    have o2 : FloatKind.f64.format.order 9218868437227405312 9218868437227405311 = some .gt := by decide +kernel
    clear h hn
    go_enter Try.func15, Try.ntmps15
    go_wp2
    go_ret
    exact ⟨rfl, rfl⟩
  · have o0 : FloatKind.f64.format.order 18442240474082181120 0 = some .lt := by decide +kernel
    have o1 : FloatKind.f64.format.order 9218868437227405312 0 = some .gt := by decide +kernel
    have o2 : FloatKind.f64.format.order 9218868437227405312 9218868437227405311 = some .gt := by decide +kernel
    have hng : Op.unary .neg (.float .f64 18442240474082181120) = pure (.float .f64 9218868437227405312) := by
      show pure (Value.float .f64 (Op.negFloat .f64 18442240474082181120)) = _
      rw [show Op.negFloat .f64 18442240474082181120 = 9218868437227405312 from by decide +kernel]
    clear h hn
    go_enter Try.func15, Try.ntmps15
    go_wp2
    go_ret
    exact ⟨rfl, rfl⟩

theorem pos_of_gap (a : Nat) (p : Int) (h0 : a ≠ 0) (h2 : a < 4503599627370496) (h : -1074 < p) : p - gap a p < p := by
  have := log_few a h0 h2
  unfold gap; omega

/-- The rest, of what is known at the loops. -/
structure Fin (n : Nat) (s : Bool) (a : Nat) (q : Int) : Prop where
  h0 : a ≠ 0
  h1 : a < 9007199254740992
  h2 : -1074 ≤ q
  h3 : q ≤ 971
  h4 : 4503599627370496 ≤ a ∨ a < 4503599627370496 ∧ q = -1074
theorem Fin.log {n : Nat} {s : Bool} {a : Nat} {q : Int} (h : Fin n s a q) (p : Int) (hp : p ≤ max q (-52)) : p + a.log2 ≤ 1023 := by
  have hL : a.log2 ≤ 52 := by
    have := (Nat.log2_lt h.h0 (k := 53)).mpr (by have := h.h1; omega)
    omega
  have := h.h3
  omega

set_option maxHeartbeats 2000000 in
theorem bits_fin (n : Nat) (s : Bool) (a : Nat) (q : Int) (F : Fin n s a q) (w : World)
    (o0 : if s then FloatKind.f64.format.order n 0 = some .lt else FloatKind.f64.format.order n 0 = some .gt)
    (hn : s = false → n = fmt.nearest false a q)
    (hng : s = true → Op.unary .neg (.float .f64 n) = pure (.float .f64 (fmt.nearest false a q)))
    (o1 : FloatKind.f64.format.order (fmt.nearest false a q) 0 = some .gt)
    (o2 : (FloatKind.f64.format.order (fmt.nearest false a q) 9218868437227405311 == some .gt) = false) :
    Calls Try.prog 15 #[.float .f64 n] w fun e w' =>
      e = .returned (.int .u64 ((if s then 9223372036854775808 else 0) + (q + 1074).toNat * 4503599627370496 + (a : Int))) ∧ w = w' := by
  have HF := Lib.hid F
  obtain ⟨x, hx⟩ : ∃ x, x = fmt.nearest false a q := ⟨_, rfl⟩
  rw [← hx] at hn hng o1 o2
  have HX := Lib.hid hx
  obtain ⟨T, hT⟩ : ∃ T : Nat, T = (q + 52).toNat := ⟨_, rfl⟩
  have HT := Lib.hid hT
  clear hx hT F
  cases s
  · obtain rfl := hn rfl
    clear hng
    simp only [Bool.false_eq_true, if_false] at o0
    clear o0
    go_enter Try.func15, Try.ntmps15
    go_wp2
    go_loop [0, 4] (fun xx e => ∃ (t x1 : Nat), xx = .float .f64 x1 ∧ e = .int .u64 (1023 + (t : Int)) ∧ t ≤ T ∧ Aside0 (x1 = fmt.nearest false a (q - (t : Int)))) (fun _ e => 3000 - (intOf e).toNat)
    case atStart => exact ⟨0, _, rfl, rfl, Nat.zero_le _, ⟨by rw [HX.out]; simp⟩⟩
    case round =>
      obtain ⟨t, x1, rfl, rfl, ht, HX1⟩ := hrel
      have F := HF.out
      have hT := HT.out
      have hTb : T ≤ 1023 := by have := F.h3; omega
      by_cases hlt : t < T
      · have hq : -51 ≤ q - (t : Int) := by omega
        have ha : 4503599627370496 ≤ a := by rcases F.h4 with h | h <;> omega
        have hge := ge_two a (q - (t : Int)) ha F.h1 hq (by have := F.h3; omega)
        have hdv := halved false a (q - (t : Int)) F.h0 F.h1 (by omega) (F.log _ (by omega)) (by omega)
        rw [← HX1.out] at hge hdv
        obtain ⟨x2, hx2⟩ : ∃ x2, x2 = fmt.nearest false a (q - (t : Int) - 1) := ⟨_, rfl⟩
        rw [← hx2] at hdv
        have hdiv : ∀ w, (binOp .quo 32 (.float .f64 x1) (.float .f64 4611686018427387904)).run Try.prog w = .ok (.float .f64 x2) w := fun w => run_float_arith w .quo 32 .f64 x1 _ x2 hdv
        have HX2 : Aside0 (x2 = fmt.nearest false a (q - ((t + 1 : Nat) : Int))) := ⟨by rw [hx2, show q - (t : Int) - 1 = q - ((t + 1 : Nat) : Int) by omega]⟩
        clear hdv hx2 F hT hq ha o1 o2
        rcases hge with hge | hge
        all_goals
          go_wp2
          go_round
          case rel => exact ⟨t + 1, x2, rfl, by go_num, by omega, HX2⟩
          case measure => simp [intOf]; omega
      · obtain rfl : t = T := by omega
        have hlt2 : FloatKind.f64.format.order x1 4611686018427387904 = some .lt := by
          rw [HX1.out]
          exact lt_two a (q - (t : Int)) F.h0 F.h1 (by have := F.h2; omega) (F.log _ (by omega)) (by omega)
        clear o1 o2 hlt F hT
        go_wp2
        clear hlt2
        go_loop [0, 4] (fun xx e => ∃ (u x2 : Nat), xx = .float .f64 x2 ∧ e = .int .u64 (1023 + (t : Int) - (u : Int)) ∧ (u : Int) ≤ -52 - q + (t : Int) ∧ Aside0 (x2 = fmt.nearest false a (q - (t : Int) + (u : Int)))) (fun _ e => (intOf e).toNat)
        case atStart => exact ⟨0, x1, rfl, by simp, by have hT := HT.out; omega, ⟨by rw [HX1.out]; simp⟩⟩
        case round =>
          obtain ⟨u, x2, rfl, rfl, hu, HX2⟩ := hrel
          have F := HF.out
          have hT := HT.out
          by_cases hlt : (u : Int) < -52 - q + (t : Int)
          · have ht0 : t = 0 := by omega
            subst ht0
            have hub : u < 1022 := by have := F.h2; omega
            have hl1 : FloatKind.f64.format.order x2 4607182418800017408 = some .lt := by
              rw [HX2.out]
              exact lt_one a _ F.h0 F.h1 (by have := F.h2; omega) (F.log _ (by omega)) (by unfold gap; omega)
            have hml := doubled false a (q - ((0 : Nat) : Int) + (u : Int)) F.h0 F.h1 (by have := F.h2; omega) (F.log _ (by omega)) (by have := F.log (-52) (by omega); omega)
            rw [← HX2.out] at hml
            obtain ⟨x3, hx3⟩ : ∃ x3, x3 = fmt.nearest false a (q - ((0 : Nat) : Int) + (u : Int) + 1) := ⟨_, rfl⟩
            rw [← hx3] at hml
            have hmul : ∀ w, (binOp .mul 32 (.float .f64 x2) (.float .f64 4611686018427387904)).run Try.prog w = .ok (.float .f64 x3) w := fun w => run_float_arith w .mul 32 .f64 x2 _ x3 hml
            have HX3 : Aside0 (x3 = fmt.nearest false a (q - ((0 : Nat) : Int) + ((u + 1 : Nat) : Int))) := ⟨by rw [hx3, show q - ((0 : Nat) : Int) + (u : Int) + 1 = q - ((0 : Nat) : Int) + ((u + 1 : Nat) : Int) by omega]⟩
            have HU : Aside0 (((u + 1 : Nat) : Int) ≤ -52 - q + ((0 : Nat) : Int)) := ⟨by omega⟩
            clear hml hx3 F hT hlt hu
            go_wp2
            go_round
            case rel => exact ⟨u + 1, x3, rfl, congrArg (Value.int .u64) (by omega), HU.out, HX3⟩
            case measure => simp [intOf]; omega
          · have hu2 : (u : Int) = -52 - q + (t : Int) := by omega
            have hq2 : q - (t : Int) + (u : Int) = -52 := by omega
            rw [hq2] at HX2
            rcases F.h4 with ha | ⟨ha, hq⟩
            · obtain ⟨f, hf, rfl⟩ : ∃ f, f < 4503599627370496 ∧ a = 4503599627370496 + f := ⟨a - 4503599627370496, by have := F.h1; omega, by omega⟩
              have hl1 := ge_one (4503599627370496 + f) ha F.h1
              have hsb := less_one f hf
              rw [← HX2.out] at hl1 hsb
              obtain ⟨x3, hx3⟩ : ∃ x3, x3 = fmt.nearest false f (-52) := ⟨_, rfl⟩
              rw [← hx3] at hsb
              obtain ⟨x4, hx4⟩ : ∃ x4, x4 = fmt.nearest false f 0 := ⟨_, rfl⟩
              have hml : fmt.mul x3 4841369599423283200 = some x4 := by
                rw [hx3, hx4]
                by_cases hf0 : f = 0
                · subst hf0; decide +kernel
                · have := log_few f hf0 hf
                  exact times52 false f (-52) hf0 (by omega) (by omega) (by omega) (by omega)
              have hcv := toU f (by omega)
              rw [← hx4] at hcv
              have hsub : ∀ w, (binOp .sub 32 (.float .f64 x2) (.float .f64 4607182418800017408)).run Try.prog w = .ok (.float .f64 x3) w := fun w => run_float_arith w .sub 32 .f64 x2 _ x3 hsb
              have hmul : ∀ w, (binOp .mul 32 (.float .f64 x3) (.float .f64 4841369599423283200)).run Try.prog w = .ok (.float .f64 x4) w := fun w => run_float_arith w .mul 32 .f64 x3 _ x4 hml
              have hcon : ∀ w, (convert 32 22 (.float .f64 x4)).run Try.prog w = .ok (.int .u64 (f : Int)) w := fun w => run_convert_float_int w _ _ _ _ _ _ (by kernel_rfl) Try.underlying22 hcv
              obtain ⟨e1, he1⟩ : ∃ e1 : Nat, (1023 : Int) + (t : Int) - (u : Int) = (e1 : Int) ∧ e1 = (q + 1075).toNat ∧ e1 ≤ 2046 := ⟨(q + 1075).toNat, by have := F.h2; have := F.h3; omega, rfl, by have := F.h3; omega⟩
              obtain ⟨he1, he2, he3⟩ := he1
              have HE2 := Lib.hid he2
              rw [he1]
              have Hq := Lib.hid (show (q + 1074).toNat + 1 = e1 by have := F.h2; omega)
              clear hsb hml hcv hx3 hx4 F hT hlt hu hu2 hq2 he1 he2 ha
              go_wp2
              go_ret
              refine ⟨?_, rfl⟩
              refine congrArg Ending.returned (congrArg (Value.int .u64) ?_)
              have := Hq.out
              omega
            · have ht0 : t = 0 := by omega
              subst ht0
              have hu3 : u = 1022 := by omega
              subst hu3
              subst hq
              have hl1 : FloatKind.f64.format.order x2 4607182418800017408 = some .lt := by
                rw [HX2.out]
                have := pos_of_gap a (-52) F.h0 ha (by omega)
                exact lt_one a _ F.h0 F.h1 (by omega) (by have := F.log (-52) (by omega); omega) (by omega)
              have hml := times52 false a (-52) F.h0 F.h1 (by omega) (by have := F.log (-52) (by omega); omega) (by have := log_few a F.h0 ha; omega)
              rw [← HX2.out] at hml
              obtain ⟨x4, hx4⟩ : ∃ x4, x4 = fmt.nearest false a 0 := ⟨_, rfl⟩
              rw [show (-52 : Int) + 52 = 0 from rfl, ← hx4] at hml
              have hcv := toU a F.h1
              rw [← hx4] at hcv
              have hmul : ∀ w, (binOp .mul 32 (.float .f64 x2) (.float .f64 4841369599423283200)).run Try.prog w = .ok (.float .f64 x4) w := fun w => run_float_arith w .mul 32 .f64 x2 _ x4 hml
              have hcon : ∀ w, (convert 32 22 (.float .f64 x4)).run Try.prog w = .ok (.int .u64 (a : Int)) w := fun w => run_convert_float_int w _ _ _ _ _ _ (by kernel_rfl) Try.underlying22 hcv
              clear hml hcv hx4 F hT hlt hu hu2 hq2
              go_wp2
              go_ret
              refine ⟨?_, rfl⟩
              refine congrArg Ending.returned (congrArg (Value.int .u64) ?_)
              omega
  · have hn2 := hng rfl
    clear hng hn
    simp only [if_true] at o0
    go_enter Try.func15, Try.ntmps15
    go_wp2
    go_loop [0, 4] (fun xx e => ∃ (t x1 : Nat), xx = .float .f64 x1 ∧ e = .int .u64 (1023 + (t : Int)) ∧ t ≤ T ∧ Aside0 (x1 = fmt.nearest false a (q - (t : Int)))) (fun _ e => 3000 - (intOf e).toNat)
    case atStart => exact ⟨0, _, rfl, rfl, Nat.zero_le _, ⟨by rw [HX.out]; simp⟩⟩
    case round =>
      obtain ⟨t, x1, rfl, rfl, ht, HX1⟩ := hrel
      have F := HF.out
      have hT := HT.out
      have hTb : T ≤ 1023 := by have := F.h3; omega
      by_cases hlt : t < T
      · have hq : -51 ≤ q - (t : Int) := by omega
        have ha : 4503599627370496 ≤ a := by rcases F.h4 with h | h <;> omega
        have hge := ge_two a (q - (t : Int)) ha F.h1 hq (by have := F.h3; omega)
        have hdv := halved false a (q - (t : Int)) F.h0 F.h1 (by omega) (F.log _ (by omega)) (by omega)
        rw [← HX1.out] at hge hdv
        obtain ⟨x2, hx2⟩ : ∃ x2, x2 = fmt.nearest false a (q - (t : Int) - 1) := ⟨_, rfl⟩
        rw [← hx2] at hdv
        have hdiv : ∀ w, (binOp .quo 32 (.float .f64 x1) (.float .f64 4611686018427387904)).run Try.prog w = .ok (.float .f64 x2) w := fun w => run_float_arith w .quo 32 .f64 x1 _ x2 hdv
        have HX2 : Aside0 (x2 = fmt.nearest false a (q - ((t + 1 : Nat) : Int))) := ⟨by rw [hx2, show q - (t : Int) - 1 = q - ((t + 1 : Nat) : Int) by omega]⟩
        clear hdv hx2 F hT hq ha o1 o2
        rcases hge with hge | hge
        all_goals
          go_wp2
          go_round
          case rel => exact ⟨t + 1, x2, rfl, by go_num, by omega, HX2⟩
          case measure => simp [intOf]; omega
      · obtain rfl : t = T := by omega
        have hlt2 : FloatKind.f64.format.order x1 4611686018427387904 = some .lt := by
          rw [HX1.out]
          exact lt_two a (q - (t : Int)) F.h0 F.h1 (by have := F.h2; omega) (F.log _ (by omega)) (by omega)
        clear o1 o2 hlt F hT
        go_wp2
        clear hlt2
        go_loop [0, 4] (fun xx e => ∃ (u x2 : Nat), xx = .float .f64 x2 ∧ e = .int .u64 (1023 + (t : Int) - (u : Int)) ∧ (u : Int) ≤ -52 - q + (t : Int) ∧ Aside0 (x2 = fmt.nearest false a (q - (t : Int) + (u : Int)))) (fun _ e => (intOf e).toNat)
        case atStart => exact ⟨0, x1, rfl, by simp, by have hT := HT.out; omega, ⟨by rw [HX1.out]; simp⟩⟩
        case round =>
          obtain ⟨u, x2, rfl, rfl, hu, HX2⟩ := hrel
          have F := HF.out
          have hT := HT.out
          by_cases hlt : (u : Int) < -52 - q + (t : Int)
          · have ht0 : t = 0 := by omega
            subst ht0
            have hub : u < 1022 := by have := F.h2; omega
            have hl1 : FloatKind.f64.format.order x2 4607182418800017408 = some .lt := by
              rw [HX2.out]
              exact lt_one a _ F.h0 F.h1 (by have := F.h2; omega) (F.log _ (by omega)) (by unfold gap; omega)
            have hml := doubled false a (q - ((0 : Nat) : Int) + (u : Int)) F.h0 F.h1 (by have := F.h2; omega) (F.log _ (by omega)) (by have := F.log (-52) (by omega); omega)
            rw [← HX2.out] at hml
            obtain ⟨x3, hx3⟩ : ∃ x3, x3 = fmt.nearest false a (q - ((0 : Nat) : Int) + (u : Int) + 1) := ⟨_, rfl⟩
            rw [← hx3] at hml
            have hmul : ∀ w, (binOp .mul 32 (.float .f64 x2) (.float .f64 4611686018427387904)).run Try.prog w = .ok (.float .f64 x3) w := fun w => run_float_arith w .mul 32 .f64 x2 _ x3 hml
            have HX3 : Aside0 (x3 = fmt.nearest false a (q - ((0 : Nat) : Int) + ((u + 1 : Nat) : Int))) := ⟨by rw [hx3, show q - ((0 : Nat) : Int) + (u : Int) + 1 = q - ((0 : Nat) : Int) + ((u + 1 : Nat) : Int) by omega]⟩
            have HU : Aside0 (((u + 1 : Nat) : Int) ≤ -52 - q + ((0 : Nat) : Int)) := ⟨by omega⟩
            clear hml hx3 F hT hlt hu
            go_wp2
            go_round
            case rel => exact ⟨u + 1, x3, rfl, congrArg (Value.int .u64) (by omega), HU.out, HX3⟩
            case measure => simp [intOf]; omega
          · have hu2 : (u : Int) = -52 - q + (t : Int) := by omega
            have hq2 : q - (t : Int) + (u : Int) = -52 := by omega
            rw [hq2] at HX2
            rcases F.h4 with ha | ⟨ha, hq⟩
            · obtain ⟨f, hf, rfl⟩ : ∃ f, f < 4503599627370496 ∧ a = 4503599627370496 + f := ⟨a - 4503599627370496, by have := F.h1; omega, by omega⟩
              have hl1 := ge_one (4503599627370496 + f) ha F.h1
              have hsb := less_one f hf
              rw [← HX2.out] at hl1 hsb
              obtain ⟨x3, hx3⟩ : ∃ x3, x3 = fmt.nearest false f (-52) := ⟨_, rfl⟩
              rw [← hx3] at hsb
              obtain ⟨x4, hx4⟩ : ∃ x4, x4 = fmt.nearest false f 0 := ⟨_, rfl⟩
              have hml : fmt.mul x3 4841369599423283200 = some x4 := by
                rw [hx3, hx4]
                by_cases hf0 : f = 0
                · subst hf0; decide +kernel
                · have := log_few f hf0 hf
                  exact times52 false f (-52) hf0 (by omega) (by omega) (by omega) (by omega)
              have hcv := toU f (by omega)
              rw [← hx4] at hcv
              have hsub : ∀ w, (binOp .sub 32 (.float .f64 x2) (.float .f64 4607182418800017408)).run Try.prog w = .ok (.float .f64 x3) w := fun w => run_float_arith w .sub 32 .f64 x2 _ x3 hsb
              have hmul : ∀ w, (binOp .mul 32 (.float .f64 x3) (.float .f64 4841369599423283200)).run Try.prog w = .ok (.float .f64 x4) w := fun w => run_float_arith w .mul 32 .f64 x3 _ x4 hml
              have hcon : ∀ w, (convert 32 22 (.float .f64 x4)).run Try.prog w = .ok (.int .u64 (f : Int)) w := fun w => run_convert_float_int w _ _ _ _ _ _ (by kernel_rfl) Try.underlying22 hcv
              obtain ⟨e1, he1⟩ : ∃ e1 : Nat, (1023 : Int) + (t : Int) - (u : Int) = (e1 : Int) ∧ e1 = (q + 1075).toNat ∧ e1 ≤ 2046 := ⟨(q + 1075).toNat, by have := F.h2; have := F.h3; omega, rfl, by have := F.h3; omega⟩
              obtain ⟨he1, he2, he3⟩ := he1
              have HE2 := Lib.hid he2
              rw [he1]
              have Hq := Lib.hid (show (q + 1074).toNat + 1 = e1 by have := F.h2; omega)
              clear hsb hml hcv hx3 hx4 F hT hlt hu hu2 hq2 he1 he2 ha
              go_wp2
              go_ret
              refine ⟨?_, rfl⟩
              refine congrArg Ending.returned (congrArg (Value.int .u64) ?_)
              have := Hq.out
              omega
            · have ht0 : t = 0 := by omega
              subst ht0
              have hu3 : u = 1022 := by omega
              subst hu3
              subst hq
              have hl1 : FloatKind.f64.format.order x2 4607182418800017408 = some .lt := by
                rw [HX2.out]
                have := pos_of_gap a (-52) F.h0 ha (by omega)
                exact lt_one a _ F.h0 F.h1 (by omega) (by have := F.log (-52) (by omega); omega) (by omega)
              have hml := times52 false a (-52) F.h0 F.h1 (by omega) (by have := F.log (-52) (by omega); omega) (by have := log_few a F.h0 ha; omega)
              rw [← HX2.out] at hml
              obtain ⟨x4, hx4⟩ : ∃ x4, x4 = fmt.nearest false a 0 := ⟨_, rfl⟩
              rw [show (-52 : Int) + 52 = 0 from rfl, ← hx4] at hml
              have hcv := toU a F.h1
              rw [← hx4] at hcv
              have hmul : ∀ w, (binOp .mul 32 (.float .f64 x2) (.float .f64 4841369599423283200)).run Try.prog w = .ok (.float .f64 x4) w := fun w => run_float_arith w .mul 32 .f64 x2 _ x4 hml
              have hcon : ∀ w, (convert 32 22 (.float .f64 x4)).run Try.prog w = .ok (.int .u64 (a : Int)) w := fun w => run_convert_float_int w _ _ _ _ _ _ (by kernel_rfl) Try.underlying22 hcv
              clear hml hcv hx4 F hT hlt hu hu2 hq2
              go_wp2
              go_ret
              refine ⟨?_, rfl⟩
              refine congrArg Ending.returned (congrArg (Value.int .u64) ?_)
              omega

theorem max_word : fmt.read 9218868437227405311 = .number false 9007199254740991 971 := by decide +kernel
theorem sv_lt (n m : Nat) (hn : n % 9223372036854775808 ≤ 9218868437227405312) (hm : m % 9223372036854775808 ≤ 9218868437227405312) :
    (sv n < sv m → FloatKind.f64.format.order n m = some .lt) ∧ (sv m < sv n → FloatKind.f64.format.order n m = some .gt) ∧ (sv n = sv m → FloatKind.f64.format.order n m = some .eq) := by
  have h := order_sv n m hn hm
  have c := cmpI (sv n) (sv m)
  refine ⟨fun h1 => ?_, fun h1 => ?_, fun h1 => ?_⟩
  · rw [h, c.1.2 h1]
  · rw [h, c.2.2.2 h1]
  · rw [h, c.2.1.2 h1]
theorem sv_zero : sv 0 = 0 := by decide

/-- What bits tells: the very bits, but of both noughts 0. -/
theorem bits_calls (n : Nat) (hn : n < 18446744073709551616) (h : n % 9223372036854775808 ≤ 9218868437227405312) (w : World) :
    Calls Try.prog 15 #[.float .f64 n] w fun e w' => e = .returned (.int .u64 (bitsW n : Nat)) ∧ w = w' := by
  by_cases hz : n % 9223372036854775808 = 0
  · exact bits_zero n hz w
  by_cases hi : n % 9223372036854775808 = 9218868437227405312
  · exact bits_inf n hn hi w
  have hlt : n % 9223372036854775808 < 9218868437227405312 := by omega
  obtain ⟨a, q, h0, h1, h2, h3, hself, hform⟩ := self_near n hn hlt hz
  have hb : bitsW n = n := by unfold bitsW; rw [if_neg hz]
  rw [hb]
  have hL : a.log2 ≤ 52 := by
    have := (Nat.log2_lt h0 (k := 53)).mpr (by omega)
    omega
  have F : ∀ s, Fin n s a q := fun s => ⟨h0, h1, h2, h3, hform.imp (fun h => h.1) (fun h => ⟨h.1, h.2.1⟩)⟩
  have hr : n % 9223372036854775808 = (q + 1074).toNat * 4503599627370496 + a := by
    rcases hform with ⟨_, h⟩ | ⟨_, h', h⟩
    · exact h
    · rw [h, h']; simp
  have hV : 0 < V (n % 9223372036854775808) := by
    rcases Nat.eq_zero_or_pos (V (n % 9223372036854775808)) with h | h
    · rw [V_zero] at h; exact absurd h hz
    · exact h
  have hVm := V_iff (n % 9223372036854775808) 9218868437227405312
  by_cases hs : n / 9223372036854775808 % 2 = 1
  · have hsb : (n / 9223372036854775808 % 2 == 1) = true := by simpa using hs
    rw [hsb] at hself
    have hnr : n = 9223372036854775808 + n % 9223372036854775808 := by omega
    have hx : fmt.nearest false a q = n % 9223372036854775808 := by
      have e1 := near0 true a q h0 h1 h2 (by have := (F true).log q (by omega); omega)
      have e2 := near0 false a q h0 h1 h2 (by have := (F true).log q (by omega); omega)
      rw [← hself] at e1
      rw [e2]
      unfold Format.word at e1 ⊢
      rw [sw] at e1
      simp only [if_true, Bool.false_eq_true, if_false] at e1 ⊢
      have hg := gap_lt a q h0 h1
      have hg2 := gap_le a q h0 h1 h2 (by have := (F true).log q (by omega); omega)
      omega
    have key := bits_fin n true a q (F true) w
      (by
        show FloatKind.f64.format.order n 0 = some .lt
        refine (sv_lt n 0 (by omega) (by omega)).1 ?_
        rw [sv_zero]; unfold sv; rw [if_pos hs]; omega)
      (fun h => by cases h)
      (fun _ => by
        show pure (Value.float .f64 (Op.negFloat .f64 n)) = _
        rw [hnr, neg_word _ (by omega), hx])
      (by
        rw [hx]
        refine (sv_lt _ 0 (by omega) (by omega)).2.1 ?_
        rw [sv_zero]; unfold sv; rw [if_neg (by omega), show n % 9223372036854775808 % 9223372036854775808 = n % 9223372036854775808 by omega]; omega)
      (by
        rw [hx]
        have hle : sv (n % 9223372036854775808) < sv 9218868437227405311 ∨ sv (n % 9223372036854775808) = sv 9218868437227405311 := by
          unfold sv
          rw [if_neg (by omega), if_neg (by omega), show n % 9223372036854775808 % 9223372036854775808 = n % 9223372036854775808 by omega, show 9218868437227405311 % 9223372036854775808 = 9218868437227405311 from rfl]
          rcases Nat.lt_or_ge (n % 9223372036854775808) 9218868437227405311 with h | h
          · left; have := V_lt h; omega
          · right; rw [show n % 9223372036854775808 = 9218868437227405311 by omega]
        have := sv_lt (n % 9223372036854775808) 9218868437227405311 (by omega) (by omega)
        rcases hle with h | h
        · rw [this.1 h]; rfl
        · rw [this.2.2 h]; rfl)
    refine key.mono fun e w' ⟨he, hw⟩ => ⟨?_, hw⟩
    rw [he]
    refine congrArg Ending.returned (congrArg (Value.int .u64) ?_)
    simp only [if_true]
    omega
  · have hsb : (n / 9223372036854775808 % 2 == 1) = false := by simpa using hs
    rw [hsb] at hself
    have hnr : n = n % 9223372036854775808 := by omega
    have key := bits_fin n false a q (F false) w
      (by
        show FloatKind.f64.format.order n 0 = some .gt
        refine (sv_lt n 0 (by omega) (by omega)).2.1 ?_
        rw [sv_zero]; unfold sv; rw [if_neg hs]; omega)
      (fun _ => hself)
      (fun h => by cases h)
      (by
        rw [← hself]
        refine (sv_lt _ 0 (by omega) (by omega)).2.1 ?_
        rw [sv_zero]; unfold sv; rw [if_neg hs]; omega)
      (by
        rw [← hself]
        have hle : sv n < sv 9218868437227405311 ∨ sv n = sv 9218868437227405311 := by
          unfold sv
          rw [if_neg hs, if_neg (by omega), show 9218868437227405311 % 9223372036854775808 = 9218868437227405311 from rfl]
          rcases Nat.lt_or_ge (n % 9223372036854775808) 9218868437227405311 with h | h
          · left; have := V_lt h; omega
          · right; rw [show n % 9223372036854775808 = 9218868437227405311 by omega]
        have := sv_lt n 9218868437227405311 (by omega) (by omega)
        rcases hle with h | h
        · rw [this.1 h]; rfl
        · rw [this.2.2 h]; rfl)
    refine key.mono fun e w' ⟨he, hw⟩ => ⟨?_, hw⟩
    rw [he]
    refine congrArg Ending.returned (congrArg (Value.int .u64) ?_)
    simp only [Bool.false_eq_true, if_false]
    omega
end Go.Proofs.Ytageilidppcphaa.Hand
