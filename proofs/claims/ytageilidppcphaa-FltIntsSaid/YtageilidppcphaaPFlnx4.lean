-- Written by this session's program wip/gprint/gprint.py, over the kit's print, with given functions; no text of print.sh's.
import Derived.Test.YtageilidppcphaaPFlnx0
namespace Go.Proofs.Ytageilidppcphaa.PFln
open Go.RowKit Go.Proofs.YtageilidppcphaaW.PrintWords Go.Proofs.YtageilidppcphaaW.PrintLast Go.Proofs.YtageilidppcphaaW.PrintMore
attribute [local go_sem] max2_int min2_int max_two min_two max_three min_three max_four min_four   -- for this text's walks alone
set_option linter.unusedVariables false
set_option linter.unusedSimpArgs false

/-! ### ref04_Parts: function 26 -/
def ref04_Parts.f (a0 : Int) : Option (Bool × Int × Int) := some (decide (a0 ≥ 9223372036854775808), Int.tmod (IntKind.u64.wrap (Int.tdiv a0 4503599627370496)) 2048, Int.tmod a0 4503599627370496)
set_option maxHeartbeats 8000000 in
set_option maxRecDepth 100000 in
theorem ref04_Parts.calls (a0 : Int) (r1 : Bool) (r2 : Int) (r3 : Int) (w : World) (h : ref04_Parts.f a0 = some (r1, r2, r3)) :
    Calls Try.prog 26 #[.int .u64 a0] w fun e w' => e = .returned (.tuple #[.bool r1, .int .u64 r2, .int .u64 r3]) ∧ Drawn0 w w' := by
  have H : (some (decide (a0 ≥ 9223372036854775808), Int.tmod (IntKind.u64.wrap (Int.tdiv a0 4503599627370496)) 2048, Int.tmod a0 4503599627370496)) = some (r1, r2, r3) := h
  clear h
  simp only [Option.some.injEq, Prod.mk.injEq] at H
  obtain ⟨rfl, rfl, rfl⟩ := H
  go_enter Try.func26, Try.ntmps26
  go_wp2
  go_ret3
  exact ⟨by first | rfl | (simp; done) | (simp [*]; done), by repeat (first | exact Drawn0.refl _ | apply Drawn0.step)⟩

/-! ### ref04_IsNan: function 16 -/
def ref04_IsNan.f (a0 : Int) : Option (Bool) := (ref04_Parts.f a0).bind fun bt109 => (if bt109.2.1 = 2047 then (some (bt109.2.2 != 0)) else (some false))
set_option maxHeartbeats 8000000 in
set_option maxRecDepth 100000 in
theorem ref04_IsNan.calls (a0 : Int) (r : Bool) (w : World) (h : ref04_IsNan.f a0 = some r) :
    Calls Try.prog 16 #[.int .u64 a0] w fun e w' => e = .returned (.bool r) ∧ Drawn0 w w' := by
  have H : ((ref04_Parts.f a0).bind fun bt109 => (if bt109.2.1 = 2047 then (some (bt109.2.2 != 0)) else (some false))) = some r := h
  clear h
  replace H := Option.bind_eq_some_iff.mp H
  obtain ⟨⟨t109, t110, t111⟩, A20, H⟩ := H
  replace H : (if t110 = 2047 then (some (t111 != 0)) else (some false)) = some r := H
  have A2 := Aside0.mk A20
  clear A20
  by_cases c3 : t110 = 2047
  · rw [if_pos c3] at H
    have c3b0 : (t110 == 2047) = true := beq_iff_eq.mpr c3
    have c3b1 : (t110 != 2047) = false := bne_eq_false_iff_eq.mpr c3
    clear c3
    obtain rfl := Option.some.inj H
    go_enter Try.func16, Try.ntmps16
    go_wp2_with (first | ((with_reducible refine gate_callee (f := 26) rfl ?_); refine goesL_ (some 8) rfl rfl Try.func26 (by kernel_rfl) rfl #[.int .u64 a0] rfl (by (try simp only [List.map_toArray, List.map_cons, List.map_nil]); first | done | rfl | (simp only [List.length_drop, List.length_take]; rfl)) ?_; (with_reducible refine (ref04_Parts.calls a0 t109 t110 t111 _ A2.out).mono ?_); rintro e w' ⟨rfl, ⟨nd, rfl⟩⟩; refine ⟨_, rfl, ?_⟩))
    go_ret
    exact ⟨by first | rfl | (simp; done) | (simp [*]; done), by repeat (first | exact Drawn0.refl _ | apply Drawn0.step)⟩
  · rw [if_neg c3] at H
    have c3b0 : (t110 == 2047) = false := beq_eq_false_iff_ne.mpr c3
    have c3b1 : (t110 != 2047) = true := bne_iff_ne.mpr c3
    obtain rfl := Option.some.inj H
    go_enter Try.func16, Try.ntmps16
    go_wp2_with (first | ((with_reducible refine gate_callee (f := 26) rfl ?_); refine goesL_ (some 8) rfl rfl Try.func26 (by kernel_rfl) rfl #[.int .u64 a0] rfl (by (try simp only [List.map_toArray, List.map_cons, List.map_nil]); first | done | rfl | (simp only [List.length_drop, List.length_take]; rfl)) ?_; (with_reducible refine (ref04_Parts.calls a0 t109 t110 t111 _ A2.out).mono ?_); rintro e w' ⟨rfl, ⟨nd, rfl⟩⟩; refine ⟨_, rfl, ?_⟩))
    go_ret
    exact ⟨by first | rfl | (simp; done) | (simp [*]; done), by repeat (first | exact Drawn0.refl _ | apply Drawn0.step)⟩

/-! ### flt_Nan: function 17 -/
def flt_Nan.f  : Option (Int) := some 9221120237041090560
set_option maxHeartbeats 8000000 in
set_option maxRecDepth 100000 in
theorem flt_Nan.calls  (r : Int) (w : World) (h : flt_Nan.f  = some r) :
    Calls Try.prog 17 #[] w fun e w' => e = .returned (.int .u64 r) ∧ Drawn0 w w' := by
  have H : (some 9221120237041090560) = some r := h
  clear h
  obtain rfl := Option.some.inj H
  go_enter Try.func17, Try.ntmps17
  go_wp2
  go_ret
  exact ⟨by first | rfl | (simp; done) | (simp [*]; done), by repeat (first | exact Drawn0.refl _ | apply Drawn0.step)⟩

end Go.Proofs.Ytageilidppcphaa.PFln
