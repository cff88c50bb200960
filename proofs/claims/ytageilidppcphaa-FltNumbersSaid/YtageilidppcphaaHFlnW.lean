/-
  By hand: the walk of FltNumbers, for every two floats and every two words.
-/
import Derived.Test.YtageilidppcphaaFlnA
import Derived.Test.YtageilidppcphaaHBits
namespace Go.Proofs.Ytageilidppcphaa.Hand
open Go.RowKit Go.Proofs.Ytageilidppcphaa.PFln Go.Proofs.YtageilidppcphaaW.PrintWords Go.Proofs.YtageilidppcphaaW.PrintLast Go.Proofs.Ytageilidppcphaa.FltC

theorem sv_bitsW (n : Nat) : sv (bitsW n) = sv n := by
  unfold bitsW
  split
  · rename_i h
    rw [sv_zero]; unfold sv; rw [h]; split <;> rfl
  · rfl
theorem bitsW_lt (n : Nat) (hn : n < 18446744073709551616) (h : n % 9223372036854775808 ≤ 9218868437227405312) : bitsW n < 18446744073709551616 ∧ bitsW n % 9223372036854775808 ≤ 9218868437227405312 := by
  unfold bitsW; split
  · decide
  · exact ⟨hn, h⟩

set_option maxHeartbeats 2000000 in
set_option maxRecDepth 100000 in
theorem numbers_skip (x y : Nat) (a b : Int) (na nb : Bool) (c : Int) (w : World)
    (hx : FloatKind.f64.format.order x x = none ∨ FloatKind.f64.format.order x x = some .eq ∧ (FloatKind.f64.format.order y y = none ∨ FloatKind.f64.format.order y y = some .eq ∧ FloatKind.f64.format.order x y = some .eq))
    (hna : ref04_IsNan.f a = some na) (hnb : ref04_IsNan.f b = some nb) (hc : flt_Compare.f a b = some c)
    (hk : (na && nb && c != 0) = false ∧ (na && !nb && c != 1) = false ∧ (!na && nb && c != -1) = false) :
    Calls Try.prog 7 #[.float .f64 x, .float .f64 y, .int .u64 a, .int .u64 b] w fun e w' => e = .returned (.bool true) ∧ Drawn0 w w' := by
  have HA := Aside0.mk hna
  have HB := Aside0.mk hnb
  have HC := Aside0.mk hc
  obtain ⟨k1, k2, k3⟩ := hk
  have S := Aside0.mk Pure.shown_true
  have N1 : Aside0 (flt_Nan.f = some 9221120237041090560) := ⟨rfl⟩
  have M1 : Aside0 (flt_Compare.f 9223372036854775808 0 = some (-1)) := ⟨by decide +kernel⟩
  have M2 : Aside0 (flt_Compare.f 9218868437227405312 9221120237041090560 = some (-1)) := ⟨by decide +kernel⟩
  clear hna hnb hc
  rcases hx with o1 | ⟨o1, o2 | ⟨o2, o3⟩⟩
  all_goals
    cases na <;> cases nb
    all_goals
      simp only [Bool.true_and, Bool.false_and, Bool.not_true, Bool.not_false] at k1 k2 k3
      go_enter Try.func7, Try.ntmps7
      go_wp2_with (first
        | (go_at_call 10; (with_reducible refine (law04_shown.calls true _ S.out).mono ?_); rintro e w' ⟨rfl, ⟨nd, rfl⟩⟩)
        | (go_at_call 16; (with_reducible refine (ref04_IsNan.calls a _ _ HA.out).mono ?_); rintro e w' ⟨rfl, ⟨nd, rfl⟩⟩)
        | (go_at_call 16; (with_reducible refine (ref04_IsNan.calls b _ _ HB.out).mono ?_); rintro e w' ⟨rfl, ⟨nd, rfl⟩⟩)
        | (go_at_call 17; (with_reducible refine (flt_Nan.calls _ _ N1.out).mono ?_); rintro e w' ⟨rfl, ⟨nd, rfl⟩⟩)
        | (go_at_call 13; (with_reducible refine (flt_Compare.calls 9223372036854775808 0 _ _ M1.out).mono ?_); rintro e w' ⟨rfl, ⟨nd, rfl⟩⟩)
        | (go_at_call 13; (with_reducible refine (flt_Compare.calls 9218868437227405312 9221120237041090560 _ _ M2.out).mono ?_); rintro e w' ⟨rfl, ⟨nd, rfl⟩⟩)
        | (go_at_call 13; (with_reducible refine (flt_Compare.calls a b _ _ HC.out).mono ?_); rintro e w' ⟨rfl, ⟨nd, rfl⟩⟩))
      go_ret
      exact ⟨by first | rfl | (simp; done), by repeat (first | exact Drawn0.refl _ | apply Drawn0.step)⟩

set_option maxHeartbeats 2000000 in
set_option maxRecDepth 100000 in
theorem numbers_go (x y : Nat) (a b : Int) (na nb : Bool) (c : Int) (w : World) (hx1 : x < 18446744073709551616) (hy1 : y < 18446744073709551616)
    (hx2 : x % 9223372036854775808 ≤ 9218868437227405312) (hy2 : y % 9223372036854775808 ≤ 9218868437227405312)
    (o1 : FloatKind.f64.format.order x x = some .eq) (o2 : FloatKind.f64.format.order y y = some .eq)
    (hxy : FloatKind.f64.format.order x y = some .lt ∧ flt_Compare.f (bitsW x : Nat) (bitsW y : Nat) = some (-1) ∨ FloatKind.f64.format.order x y = some .gt ∧ flt_Compare.f (bitsW x : Nat) (bitsW y : Nat) = some 1)
    (hna : ref04_IsNan.f a = some na) (hnb : ref04_IsNan.f b = some nb) (hc : flt_Compare.f a b = some c)
    (hk : (na && nb && c != 0) = false ∧ (na && !nb && c != 1) = false ∧ (!na && nb && c != -1) = false) :
    Calls Try.prog 7 #[.float .f64 x, .float .f64 y, .int .u64 a, .int .u64 b] w fun e w' => e = .returned (.bool true) ∧ Drawn0 w w' := by
  have HA := Aside0.mk hna
  have HB := Aside0.mk hnb
  have HC := Aside0.mk hc
  obtain ⟨k1, k2, k3⟩ := hk
  have S := Aside0.mk Pure.shown_true
  have N1 : Aside0 (flt_Nan.f = some 9221120237041090560) := ⟨rfl⟩
  have M1 : Aside0 (flt_Compare.f 9223372036854775808 0 = some (-1)) := ⟨by decide +kernel⟩
  have M2 : Aside0 (flt_Compare.f 9218868437227405312 9221120237041090560 = some (-1)) := ⟨by decide +kernel⟩
  have BX := Aside0.mk (fun w => bits_calls x hx1 hx2 w)
  have BY := Aside0.mk (fun w => bits_calls y hy1 hy2 w)
  clear hna hnb hc hx1 hy1 hx2 hy2
  rcases hxy with ⟨o3, hcm⟩ | ⟨o3, hcm⟩
  all_goals
    have HM := Aside0.mk hcm
    clear hcm
    cases na <;> cases nb
    all_goals
      simp only [Bool.true_and, Bool.false_and, Bool.not_true, Bool.not_false] at k1 k2 k3
      go_enter Try.func7, Try.ntmps7
      go_wp2_with (first
        | (go_at_call 10; (with_reducible refine (law04_shown.calls true _ S.out).mono ?_); rintro e w' ⟨rfl, ⟨nd, rfl⟩⟩)
        | (go_at_call 15; (with_reducible refine (BX.out _).mono ?_); rintro e w' ⟨rfl, rfl⟩)
        | (go_at_call 15; (with_reducible refine (BY.out _).mono ?_); rintro e w' ⟨rfl, rfl⟩)
        | (go_at_call 16; (with_reducible refine (ref04_IsNan.calls a _ _ HA.out).mono ?_); rintro e w' ⟨rfl, ⟨nd, rfl⟩⟩)
        | (go_at_call 16; (with_reducible refine (ref04_IsNan.calls b _ _ HB.out).mono ?_); rintro e w' ⟨rfl, ⟨nd, rfl⟩⟩)
        | (go_at_call 17; (with_reducible refine (flt_Nan.calls _ _ N1.out).mono ?_); rintro e w' ⟨rfl, ⟨nd, rfl⟩⟩)
        | (go_at_call 13; (with_reducible refine (flt_Compare.calls 9223372036854775808 0 _ _ M1.out).mono ?_); rintro e w' ⟨rfl, ⟨nd, rfl⟩⟩)
        | (go_at_call 13; (with_reducible refine (flt_Compare.calls 9218868437227405312 9221120237041090560 _ _ M2.out).mono ?_); rintro e w' ⟨rfl, ⟨nd, rfl⟩⟩)
        | (go_at_call 13; (with_reducible refine (flt_Compare.calls a b _ _ HC.out).mono ?_); rintro e w' ⟨rfl, ⟨nd, rfl⟩⟩)
        | (go_at_call 13; (with_reducible refine (flt_Compare.calls (bitsW x : Nat) (bitsW y : Nat) _ _ HM.out).mono ?_); rintro e w' ⟨rfl, ⟨nd, rfl⟩⟩))
      go_ret
      exact ⟨by first | rfl | (simp; done), by repeat (first | exact Drawn0.refl _ | apply Drawn0.step)⟩

theorem nan_key {a : Int} (h : Pure.U a) : (a % 9223372036854775808 > 9218868437227405312 → Pure.ck a = 18444492273895866368) ∧ (¬ a % 9223372036854775808 > 9218868437227405312 → Pure.ck a < 18444492273895866368) := by
  obtain ⟨h1, h2⟩ := h
  constructor
  · intro hc
    unfold Pure.ck Pure.cl Hand.keyOf
    rw [if_pos hc]; decide
  · intro hc
    have e : Pure.cl a = a := by unfold Pure.cl; rw [if_neg hc]
    unfold Pure.ck Hand.keyOf
    rw [e]
    split <;> omega
theorem numbers_any (x y : Nat) (a b : Int) (w : World) (hx : x < 18446744073709551616) (hy : y < 18446744073709551616) (ha : Pure.U a) (hb : Pure.U b) :
    Calls Try.prog 7 #[.float .f64 x, .float .f64 y, .int .u64 a, .int .u64 b] w fun e w' => e = .returned (.bool true) ∧ Drawn0 w w' := by
  have hk : (decide (a % 9223372036854775808 > 9218868437227405312) && decide (b % 9223372036854775808 > 9218868437227405312) && Pure.cmp (Pure.ck a) (Pure.ck b) != 0) = false ∧
      (decide (a % 9223372036854775808 > 9218868437227405312) && !decide (b % 9223372036854775808 > 9218868437227405312) && Pure.cmp (Pure.ck a) (Pure.ck b) != 1) = false ∧
      (!decide (a % 9223372036854775808 > 9218868437227405312) && decide (b % 9223372036854775808 > 9218868437227405312) && Pure.cmp (Pure.ck a) (Pure.ck b) != -1) = false := by
    have k1 := nan_key ha
    have k2 := nan_key hb
    generalize Pure.ck a = p at *
    generalize Pure.ck b = q at *
    by_cases c1 : a % 9223372036854775808 > 9218868437227405312 <;> by_cases c2 : b % 9223372036854775808 > 9218868437227405312
    · have e1 := k1.1 c1
      have e2 := k2.1 c2
      subst e1 e2
      simp [c1, c2, Pure.cmp]
    · have e1 := k1.1 c1
      have e2 := k2.2 c2
      have e3 : Pure.cmp p q = 1 := by unfold Pure.cmp; rw [if_neg (by omega), if_pos (by omega)]
      simp [c1, c2, e3]
    · have e1 := k1.2 c1
      have e2 := k2.1 c2
      have e3 : Pure.cmp p q = -1 := by unfold Pure.cmp; rw [if_pos (by omega)]
      simp [c1, c2, e3]
    · simp [c1, c2]
  have hna := Pure.isnan_f ha
  have hnb := Pure.isnan_f hb
  have hc := Pure.compare_f ha hb
  by_cases c1 : 9218868437227405312 < x % 9223372036854775808
  · exact numbers_skip x y a b _ _ _ w (.inl (order_nan1 x x c1)) hna hnb hc hk
  have o1 : FloatKind.f64.format.order x x = some .eq := (sv_lt x x (by omega) (by omega)).2.2 rfl
  by_cases c2 : 9218868437227405312 < y % 9223372036854775808
  · exact numbers_skip x y a b _ _ _ w (.inr ⟨o1, .inl (order_nan1 y y c2)⟩) hna hnb hc hk
  have o2 : FloatKind.f64.format.order y y = some .eq := (sv_lt y y (by omega) (by omega)).2.2 rfl
  have o3 := sv_lt x y (by omega) (by omega)
  by_cases hne : sv x = sv y
  · exact numbers_skip x y a b _ _ _ w (.inr ⟨o1, .inr ⟨o2, o3.2.2 hne⟩⟩) hna hnb hc hk
  have bx := bitsW_lt x hx (by omega)
  have byy := bitsW_lt y hy (by omega)
  have hcm := Pure.compare_sv (bitsW x) (bitsW y) bx.1 byy.1 bx.2 byy.2 (by rw [sv_bitsW, sv_bitsW]; exact hne)
  rw [sv_bitsW, sv_bitsW] at hcm
  refine numbers_go x y a b _ _ _ w hx hy (by omega) (by omega) o1 o2 ?_ hna hnb hc hk
  by_cases hlt : sv x < sv y
  · rw [if_pos hlt] at hcm
    exact .inl ⟨o3.1 hlt, hcm⟩
  · rw [if_neg hlt] at hcm
    exact .inr ⟨o3.2.1 (by omega), hcm⟩
end Go.Proofs.Ytageilidppcphaa.Hand
