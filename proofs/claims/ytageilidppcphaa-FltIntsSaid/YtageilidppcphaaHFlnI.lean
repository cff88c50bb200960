/-
  By hand: the walk of FltInts, for every two whole numbers.
-/
import Derived.Test.YtageilidppcphaaFltD
import Derived.Test.YtageilidppcphaaPFlnx1
namespace Go.Proofs.Ytageilidppcphaa.Hand
open Go.RowKit Go.Proofs.Ytageilidppcphaa.PFln Go.Proofs.YtageilidppcphaaW.PrintWords Go.Proofs.YtageilidppcphaaW.PrintLast Go.Proofs.Ytageilidppcphaa.FltC

set_option maxHeartbeats 2000000 in
set_option maxRecDepth 100000 in
theorem ints_any (n m : Int) (w : World) :
    Calls Try.prog 6 #[.int .i64 n, .int .i64 m] w fun e w' => e = .returned (.bool true) ∧ Drawn0 w w' := by
  have lo : ∀ n : Int, -1125899906842624 < n.tmod 1125899906842624 ∧ n.tmod 1125899906842624 < 1125899906842624 := fun n =>
    ⟨by have := Int.lt_tmod_of_pos n (show (0 : Int) < 1125899906842624 by decide); omega, Int.tmod_lt_of_pos n (by decide)⟩
  obtain ⟨a, ha⟩ : ∃ a, n.tmod 1125899906842624 = a := ⟨_, rfl⟩
  obtain ⟨b, hb⟩ : ∃ b, m.tmod 1125899906842624 = b := ⟨_, rfl⟩
  have la := lo n
  have lb := lo m
  rw [ha] at la
  rw [hb] at lb
  obtain ⟨c, hc, hcl⟩ := compare_wd a la.1 la.2 b lb.1 lb.2
  have la1 := wd_lt a la.1 la.2
  have lb1 := wd_lt b lb.1 lb.2
  have lh1 := wh_lt a la.1 la.2
  have BA := Aside0.mk (fun w => bits_calls (wd a) la1.1 (by omega) w)
  have BB := Aside0.mk (fun w => bits_calls (wd b) lb1.1 (by omega) w)
  have BH := Aside0.mk (fun w => bits_calls (wh a) lh1.1 (by omega) w)
  rw [bitsW_wd a la.1 la.2] at BA
  rw [bitsW_wd b lb.1 lb.2] at BB
  rw [bitsW_wh a la.1 la.2] at BH
  have WA : Aside0 (flt_Whole.f (wd a : Nat) = some (a, true)) := ⟨whole_int a la.1 la.2⟩
  have WB : Aside0 (flt_Whole.f (wd b : Nat) = some (b, true)) := ⟨whole_int b lb.1 lb.2⟩
  have WH : Aside0 (flt_Whole.f (wh a : Nat) = some (0, false)) := ⟨whole_half a la.1 la.2⟩
  have hadd := half_add a la.1 la.2
  have hfa : floatOfInt .f64 a = wd a := rfl
  have hfb : floatOfInt .f64 b = wd b := rfl
  have HC := Aside0.mk hc
  have S := Aside0.mk Pure.shown_true
  generalize wh a = xh at *
  generalize wd b = xb at *
  generalize wd a = xa at *
  have hpl : ∀ w, (binOp .add 32 (.float .f64 xa) (.float .f64 4602678819172646912)).run Try.prog w = .ok (.float .f64 xh) w := fun w => run_float_arith w .add 32 .f64 xa _ xh hadd
  clear hadd lo hc la1 lb1 lh1 la lb
  cases hd : decide (a < b) with
  | true =>
    rw [hd] at hcl
    go_enter Try.func6, Try.ntmps6
    go_wp2_with (first
      | (go_at_call 10; (with_reducible refine (law04_shown.calls true _ S.out).mono ?_); rintro e w' ⟨rfl, ⟨nd, rfl⟩⟩)
      | (go_at_call 15; (with_reducible refine (BA.out _).mono ?_); rintro e w' ⟨rfl, rfl⟩)
      | (go_at_call 15; (with_reducible refine (BB.out _).mono ?_); rintro e w' ⟨rfl, rfl⟩)
      | (go_at_call 15; (with_reducible refine (BH.out _).mono ?_); rintro e w' ⟨rfl, rfl⟩)
      | (go_at_call 11; (with_reducible refine (flt_Whole.calls (xa : Nat) _ _ _ WA.out).mono ?_); rintro e w' ⟨rfl, ⟨nd, rfl⟩⟩)
      | (go_at_call 11; (with_reducible refine (flt_Whole.calls (xb : Nat) _ _ _ WB.out).mono ?_); rintro e w' ⟨rfl, ⟨nd, rfl⟩⟩)
      | (go_at_call 11; (with_reducible refine (flt_Whole.calls (xh : Nat) _ _ _ WH.out).mono ?_); rintro e w' ⟨rfl, ⟨nd, rfl⟩⟩)
      | (go_at_call 13; (with_reducible refine (flt_Compare.calls (xa : Nat) (xb : Nat) _ _ HC.out).mono ?_); rintro e w' ⟨rfl, ⟨nd, rfl⟩⟩))
    go_ret
    exact ⟨by first | rfl | (simp; done), by repeat (first | exact Drawn0.refl _ | apply Drawn0.step)⟩
  | false =>
    rw [hd] at hcl
    go_enter Try.func6, Try.ntmps6
    go_wp2_with (first
      | (go_at_call 10; (with_reducible refine (law04_shown.calls true _ S.out).mono ?_); rintro e w' ⟨rfl, ⟨nd, rfl⟩⟩)
      | (go_at_call 15; (with_reducible refine (BA.out _).mono ?_); rintro e w' ⟨rfl, rfl⟩)
      | (go_at_call 15; (with_reducible refine (BB.out _).mono ?_); rintro e w' ⟨rfl, rfl⟩)
      | (go_at_call 15; (with_reducible refine (BH.out _).mono ?_); rintro e w' ⟨rfl, rfl⟩)
      | (go_at_call 11; (with_reducible refine (flt_Whole.calls (xa : Nat) _ _ _ WA.out).mono ?_); rintro e w' ⟨rfl, ⟨nd, rfl⟩⟩)
      | (go_at_call 11; (with_reducible refine (flt_Whole.calls (xb : Nat) _ _ _ WB.out).mono ?_); rintro e w' ⟨rfl, ⟨nd, rfl⟩⟩)
      | (go_at_call 11; (with_reducible refine (flt_Whole.calls (xh : Nat) _ _ _ WH.out).mono ?_); rintro e w' ⟨rfl, ⟨nd, rfl⟩⟩)
      | (go_at_call 13; (with_reducible refine (flt_Compare.calls (xa : Nat) (xb : Nat) _ _ HC.out).mono ?_); rintro e w' ⟨rfl, ⟨nd, rfl⟩⟩))
    go_ret
    exact ⟨by first | rfl | (simp; done), by repeat (first | exact Drawn0.refl _ | apply Drawn0.step)⟩
end Go.Proofs.Ytageilidppcphaa.Hand
