-- Written by this session's program wip/gprint/gprint.py, over the kit's print, with given functions; no text of print.sh's.
import Derived.Test.YtageilidppcphaaPFltx0
import Derived.Test.YtageilidppcphaaPFltx3
namespace Go.Proofs.Ytageilidppcphaa.PFlt
open Go.RowKit Go.Proofs.YtageilidppcphaaW.PrintWords Go.Proofs.YtageilidppcphaaW.PrintLast Go.Proofs.YtageilidppcphaaW.PrintMore
attribute [local go_sem] max2_int min2_int max_two min_two max_three min_three max_four min_four   -- for this text's walks alone
set_option linter.unusedVariables false
set_option linter.unusedSimpArgs false

/-! ### astragallaw04_FltSteps: function 5 -/
def astragallaw04_FltSteps.f (a0 : Int) (a1 : Int) : Option (Bool) := (astragallaw04_shown.f).bind fun t160 => (if t160 = true then ((flt_Compare.f (Int.tmod a0 9218868437227405312) (IntKind.u64.wrap ((Int.tmod a0 9218868437227405312) + 1))).bind fun t161 => (if t161 = (-1) then ((flt_Compare.f (Int.tmod a0 9218868437227405312) (Int.tmod a1 9218868437227405312)).bind fun t162 => ((flt_Compare.f (IntKind.u64.wrap (9223372036854775808 + (Int.tmod a1 9218868437227405312))) (IntKind.u64.wrap (9223372036854775808 + (Int.tmod a0 9218868437227405312)))).bind fun t163 => (if t162 = t163 then ((flt_Compare.f (IntKind.u64.wrap (9223372036854775808 + (Int.tmod a0 9218868437227405312))) (Int.tmod a1 9218868437227405312)).bind fun t164 => (some (t164 == (-1)))) else (some false)))) else (some false))) else (some false))
set_option maxHeartbeats 8000000 in
set_option maxRecDepth 100000 in
theorem astragallaw04_FltSteps.calls (a0 : Int) (a1 : Int) (r : Bool) (w : World) (h : astragallaw04_FltSteps.f a0 a1 = some r) :
    Calls Try.prog 5 #[.int .u64 a0, .int .u64 a1] w fun e w' => e = .returned (.bool r) ∧ Drawn0 w w' := by
  have H : ((astragallaw04_shown.f).bind fun t160 => (if t160 = true then ((flt_Compare.f (Int.tmod a0 9218868437227405312) (IntKind.u64.wrap ((Int.tmod a0 9218868437227405312) + 1))).bind fun t161 => (if t161 = (-1) then ((flt_Compare.f (Int.tmod a0 9218868437227405312) (Int.tmod a1 9218868437227405312)).bind fun t162 => ((flt_Compare.f (IntKind.u64.wrap (9223372036854775808 + (Int.tmod a1 9218868437227405312))) (IntKind.u64.wrap (9223372036854775808 + (Int.tmod a0 9218868437227405312)))).bind fun t163 => (if t162 = t163 then ((flt_Compare.f (IntKind.u64.wrap (9223372036854775808 + (Int.tmod a0 9218868437227405312))) (Int.tmod a1 9218868437227405312)).bind fun t164 => (some (t164 == (-1)))) else (some false)))) else (some false))) else (some false))) = some r := h
  clear h
  replace H := Option.bind_eq_some_iff.mp H
  obtain ⟨t160, A30, H⟩ := H
  replace H : (if t160 = true then ((flt_Compare.f (Int.tmod a0 9218868437227405312) (IntKind.u64.wrap ((Int.tmod a0 9218868437227405312) + 1))).bind fun t161 => (if t161 = (-1) then ((flt_Compare.f (Int.tmod a0 9218868437227405312) (Int.tmod a1 9218868437227405312)).bind fun t162 => ((flt_Compare.f (IntKind.u64.wrap (9223372036854775808 + (Int.tmod a1 9218868437227405312))) (IntKind.u64.wrap (9223372036854775808 + (Int.tmod a0 9218868437227405312)))).bind fun t163 => (if t162 = t163 then ((flt_Compare.f (IntKind.u64.wrap (9223372036854775808 + (Int.tmod a0 9218868437227405312))) (Int.tmod a1 9218868437227405312)).bind fun t164 => (some (t164 == (-1)))) else (some false)))) else (some false))) else (some false)) = some r := H
  have A3 := Aside0.mk A30
  clear A30
  by_cases c4 : t160 = true
  · subst c4
    have H1 : ((flt_Compare.f (Int.tmod a0 9218868437227405312) (IntKind.u64.wrap ((Int.tmod a0 9218868437227405312) + 1))).bind fun t161 => (if t161 = (-1) then ((flt_Compare.f (Int.tmod a0 9218868437227405312) (Int.tmod a1 9218868437227405312)).bind fun t162 => ((flt_Compare.f (IntKind.u64.wrap (9223372036854775808 + (Int.tmod a1 9218868437227405312))) (IntKind.u64.wrap (9223372036854775808 + (Int.tmod a0 9218868437227405312)))).bind fun t163 => (if t162 = t163 then ((flt_Compare.f (IntKind.u64.wrap (9223372036854775808 + (Int.tmod a0 9218868437227405312))) (Int.tmod a1 9218868437227405312)).bind fun t164 => (some (t164 == (-1)))) else (some false)))) else (some false))) = some r := by rw [if_pos rfl] at H; exact H
    clear H
    have H := H1
    clear H1
    replace H := Option.bind_eq_some_iff.mp H
    obtain ⟨t161, A50, H⟩ := H
    replace H : (if t161 = (-1) then ((flt_Compare.f (Int.tmod a0 9218868437227405312) (Int.tmod a1 9218868437227405312)).bind fun t162 => ((flt_Compare.f (IntKind.u64.wrap (9223372036854775808 + (Int.tmod a1 9218868437227405312))) (IntKind.u64.wrap (9223372036854775808 + (Int.tmod a0 9218868437227405312)))).bind fun t163 => (if t162 = t163 then ((flt_Compare.f (IntKind.u64.wrap (9223372036854775808 + (Int.tmod a0 9218868437227405312))) (Int.tmod a1 9218868437227405312)).bind fun t164 => (some (t164 == (-1)))) else (some false)))) else (some false)) = some r := H
    have A5 := Aside0.mk A50
    clear A50
    by_cases c6 : t161 = (-1)
    · rw [if_pos c6] at H
      have c6b0 : (t161 == (-1)) = true := beq_iff_eq.mpr c6
      have c6b1 : (t161 != (-1)) = false := bne_eq_false_iff_eq.mpr c6
      clear c6
      replace H := Option.bind_eq_some_iff.mp H
      obtain ⟨t162, A70, H⟩ := H
      replace H : ((flt_Compare.f (IntKind.u64.wrap (9223372036854775808 + (Int.tmod a1 9218868437227405312))) (IntKind.u64.wrap (9223372036854775808 + (Int.tmod a0 9218868437227405312)))).bind fun t163 => (if t162 = t163 then ((flt_Compare.f (IntKind.u64.wrap (9223372036854775808 + (Int.tmod a0 9218868437227405312))) (Int.tmod a1 9218868437227405312)).bind fun t164 => (some (t164 == (-1)))) else (some false))) = some r := H
      have A7 := Aside0.mk A70
      clear A70
      replace H := Option.bind_eq_some_iff.mp H
      obtain ⟨t163, A80, H⟩ := H
      replace H : (if t162 = t163 then ((flt_Compare.f (IntKind.u64.wrap (9223372036854775808 + (Int.tmod a0 9218868437227405312))) (Int.tmod a1 9218868437227405312)).bind fun t164 => (some (t164 == (-1)))) else (some false)) = some r := H
      have A8 := Aside0.mk A80
      clear A80
      by_cases c9 : t162 = t163
      · rw [if_pos c9] at H
        have c9b0 : (t162 == t163) = true := beq_iff_eq.mpr c9
        have c9b1 : (t162 != t163) = false := bne_eq_false_iff_eq.mpr c9
        clear c9
        replace H := Option.bind_eq_some_iff.mp H
        obtain ⟨t164, A100, H⟩ := H
        replace H : (some (t164 == (-1))) = some r := H
        have A10 := Aside0.mk A100
        clear A100
        obtain rfl := Option.some.inj H
        go_enter Try.func5, Try.ntmps5
        go_wp2_with (first | ((with_reducible refine gate_callee (f := 10) rfl ?_); refine goesL_ (some 8) rfl rfl Try.func10 (by kernel_rfl) rfl #[] rfl (by (try simp only [List.map_toArray, List.map_cons, List.map_nil]); first | done | rfl | (simp only [List.length_drop, List.length_take]; rfl)) ?_; (with_reducible refine (astragallaw04_shown.calls  true _ A3.out).mono ?_); rintro e w' ⟨rfl, ⟨nd, rfl⟩⟩; refine ⟨_, rfl, ?_⟩) | (go_at_call 13; (with_reducible refine (flt_Compare.calls (Int.tmod a0 9218868437227405312) (IntKind.u64.wrap ((Int.tmod a0 9218868437227405312) + 1)) t161 _ A5.out).mono ?_); rintro e w' ⟨rfl, ⟨nd, rfl⟩⟩) | (go_at_call 13; (with_reducible refine (flt_Compare.calls (Int.tmod a0 9218868437227405312) (Int.tmod a1 9218868437227405312) t162 _ A7.out).mono ?_); rintro e w' ⟨rfl, ⟨nd, rfl⟩⟩) | (go_at_call 13; (with_reducible refine (flt_Compare.calls (IntKind.u64.wrap (9223372036854775808 + (Int.tmod a1 9218868437227405312))) (IntKind.u64.wrap (9223372036854775808 + (Int.tmod a0 9218868437227405312))) t163 _ A8.out).mono ?_); rintro e w' ⟨rfl, ⟨nd, rfl⟩⟩) | (go_at_call 13; (with_reducible refine (flt_Compare.calls (IntKind.u64.wrap (9223372036854775808 + (Int.tmod a0 9218868437227405312))) (Int.tmod a1 9218868437227405312) t164 _ A10.out).mono ?_); rintro e w' ⟨rfl, ⟨nd, rfl⟩⟩))
        go_ret
        exact ⟨by first | rfl | (simp; done) | (simp [*]; done), by repeat (first | exact Drawn0.refl _ | apply Drawn0.step)⟩
      · rw [if_neg c9] at H
        have c9b0 : (t162 == t163) = false := beq_eq_false_iff_ne.mpr c9
        have c9b1 : (t162 != t163) = true := bne_iff_ne.mpr c9
        obtain rfl := Option.some.inj H
        go_enter Try.func5, Try.ntmps5
        go_wp2_with (first | ((with_reducible refine gate_callee (f := 10) rfl ?_); refine goesL_ (some 8) rfl rfl Try.func10 (by kernel_rfl) rfl #[] rfl (by (try simp only [List.map_toArray, List.map_cons, List.map_nil]); first | done | rfl | (simp only [List.length_drop, List.length_take]; rfl)) ?_; (with_reducible refine (astragallaw04_shown.calls  true _ A3.out).mono ?_); rintro e w' ⟨rfl, ⟨nd, rfl⟩⟩; refine ⟨_, rfl, ?_⟩) | (go_at_call 13; (with_reducible refine (flt_Compare.calls (Int.tmod a0 9218868437227405312) (IntKind.u64.wrap ((Int.tmod a0 9218868437227405312) + 1)) t161 _ A5.out).mono ?_); rintro e w' ⟨rfl, ⟨nd, rfl⟩⟩) | (go_at_call 13; (with_reducible refine (flt_Compare.calls (Int.tmod a0 9218868437227405312) (Int.tmod a1 9218868437227405312) t162 _ A7.out).mono ?_); rintro e w' ⟨rfl, ⟨nd, rfl⟩⟩) | (go_at_call 13; (with_reducible refine (flt_Compare.calls (IntKind.u64.wrap (9223372036854775808 + (Int.tmod a1 9218868437227405312))) (IntKind.u64.wrap (9223372036854775808 + (Int.tmod a0 9218868437227405312))) t163 _ A8.out).mono ?_); rintro e w' ⟨rfl, ⟨nd, rfl⟩⟩))
        go_ret
        exact ⟨by first | rfl | (simp; done) | (simp [*]; done), by repeat (first | exact Drawn0.refl _ | apply Drawn0.step)⟩
    · rw [if_neg c6] at H
      have c6b0 : (t161 == (-1)) = false := beq_eq_false_iff_ne.mpr c6
      have c6b1 : (t161 != (-1)) = true := bne_iff_ne.mpr c6
      obtain rfl := Option.some.inj H
      go_enter Try.func5, Try.ntmps5
      go_wp2_with (first | ((with_reducible refine gate_callee (f := 10) rfl ?_); refine goesL_ (some 8) rfl rfl Try.func10 (by kernel_rfl) rfl #[] rfl (by (try simp only [List.map_toArray, List.map_cons, List.map_nil]); first | done | rfl | (simp only [List.length_drop, List.length_take]; rfl)) ?_; (with_reducible refine (astragallaw04_shown.calls  true _ A3.out).mono ?_); rintro e w' ⟨rfl, ⟨nd, rfl⟩⟩; refine ⟨_, rfl, ?_⟩) | (go_at_call 13; (with_reducible refine (flt_Compare.calls (Int.tmod a0 9218868437227405312) (IntKind.u64.wrap ((Int.tmod a0 9218868437227405312) + 1)) t161 _ A5.out).mono ?_); rintro e w' ⟨rfl, ⟨nd, rfl⟩⟩))
      go_ret
      exact ⟨by first | rfl | (simp; done) | (simp [*]; done), by repeat (first | exact Drawn0.refl _ | apply Drawn0.step)⟩
  · replace c4 := Bool.eq_false_iff.mpr c4
    subst c4
    have H1 : (some false) = some r := by rw [if_neg (show ¬ (false = true) by decide)] at H; exact H
    clear H
    have H := H1
    clear H1
    obtain rfl := Option.some.inj H
    go_enter Try.func5, Try.ntmps5
    go_wp2_with (first | ((with_reducible refine gate_callee (f := 10) rfl ?_); refine goesL_ (some 8) rfl rfl Try.func10 (by kernel_rfl) rfl #[] rfl (by (try simp only [List.map_toArray, List.map_cons, List.map_nil]); first | done | rfl | (simp only [List.length_drop, List.length_take]; rfl)) ?_; (with_reducible refine (astragallaw04_shown.calls  false _ A3.out).mono ?_); rintro e w' ⟨rfl, ⟨nd, rfl⟩⟩; refine ⟨_, rfl, ?_⟩))
    go_ret
    exact ⟨by first | rfl | (simp; done) | (simp [*]; done), by repeat (first | exact Drawn0.refl _ | apply Drawn0.step)⟩

/-- THE ONE PURE STATEMENT of astragallaw04_FltSteps: yours. -/
def astragallaw04_FltSteps.Pure : Prop := ∀ (a0 : Int) (a1 : Int), (Lit.int .u64 a0).wf = true → (Lit.int .u64 a1).wf = true → astragallaw04_FltSteps.f a0 a1 = some true
theorem astragallaw04_FltSteps.walk (P : astragallaw04_FltSteps.Pure) (a0 : Int) (a1 : Int) (w : World) (w0 : (Lit.int .u64 a0).wf = true) (w1 : (Lit.int .u64 a1).wf = true) :
    Calls Try.prog 5 #[.int .u64 a0, .int .u64 a1] w fun e w' => e = .returned (.bool true) ∧ Below w.heap.size w w' := by
  have h := P a0 a1 w0 w1
  refine (astragallaw04_FltSteps.calls a0 a1 true w h).mono ?_
  rintro e w' ⟨rfl, hd⟩
  exact ⟨rfl, hd.below⟩

end Go.Proofs.Ytageilidppcphaa.PFlt
