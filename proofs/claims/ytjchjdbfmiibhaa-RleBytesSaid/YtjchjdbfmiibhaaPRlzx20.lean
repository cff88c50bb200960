import Derived.Test.YtjchjdbfmiibhaaPRlzx0
import Derived.Test.YtjchjdbfmiibhaaPRlzx1
import Derived.Test.YtjchjdbfmiibhaaPRlzx8
import Derived.Test.YtjchjdbfmiibhaaPRlzx18
import Derived.Test.YtjchjdbfmiibhaaPRlzx19
namespace Go.Proofs.Ytjchjdbfmiibhaa.PRlz
open Go.RowKit Go.Proofs.YtjchjdbfmiibhaaW.PrintWords Go.Proofs.YtjchjdbfmiibhaaW.PrintLast Go.Proofs.YtjchjdbfmiibhaaW.PrintMore
attribute [local go_sem] max2_int min2_int max_two min_two max_three min_three max_four min_four
set_option linter.unusedVariables false
set_option linter.unusedSimpArgs false
attribute [local go_sem high] eqA32
theorem ref08_ToRuns.q0_ {α : Type _} (l : List α) (i : Nat) (a : α) : l.toArray.setIfInBounds i a = (l.set i a).toArray := List.setIfInBounds_toArray ..
theorem ref08_ToRuns.q1_ {α : Type _} (a b : α) (l : List α) : (a :: l).set 0 b = b :: l := rfl
theorem ref08_ToRuns.q2_ {α : Type _} (a b : α) (l : List α) (n : Nat) : (a :: l).set (n + 1) b = a :: l.set n b := rfl
open ref08_ToRuns (q0_ q1_ q2_)
mutual
def ref08_ToRuns.j0 : Nat → List Int → Int → Int → Bool → Option ((List (S75)) × Int)
 | 0, _, _, _, _ => none
 | k + 1, x0, x1, x2, x24 => if x24 = true then (some (([] : List (S75)), 2)) else (ref08_ToRuns.l0 k x0 x2 ([] : List (S75)) x1)
def ref08_ToRuns.l0 : Nat → List Int → Int → List (S75) → Int → Option ((List (S75)) × Int)
 | 0, _, _, _, _ => none
 | k + 1, x0, x2, x8, x9 => if x9 > 0 then ((ref02_Get.f k x0).bind fun bt377 => (if bt377.2.2 = 0 then (if bt377.1 = 0 then (ref08_ToRuns.j2 k x0 x2 x8 x9 bt377.1 bt377.2.1 true) else (ref08_ToRuns.j2 k x0 x2 x8 x9 bt377.1 bt377.2.1 (decide (bt377.1 > (IntKind.u64.wrap (x9)))))) else (some (([] : List (S75)), bt377.2.2)))) else (if (x0.length : Int) = 0 then (some (x8, 0)) else (some (([] : List (S75)), 4)))
def ref08_ToRuns.j2 : Nat → List Int → Int → List (S75) → Int → Int → Int → Bool → Option ((List (S75)) × Int)
 | 0, _, _, _, _, _, _, _ => none
 | k + 1, x0, x2, x8, x9, x10, x11, x44 => if x44 = true then (some (([] : List (S75)), 4)) else (if 0 ≤ x11 then (if x11 ≤ (x0.length : Int) then ((ref05_Of.f k (x0.drop (x11 : Int).toNat) x2).bind fun bt385 => (if bt385.2.2.2.2 = 0 then (if (x8.length : Int) > 0 then (if 0 ≤ (wrap64 ((x8.length : Int) - 1)) then (if (wrap64 ((x8.length : Int) - 1)) < (x8.length : Int) then (if (((rd_T75 x8 (wrap64 ((x8.length : Int) - 1))).f1.f0) == bt385.1 && (((rd_T75 x8 (wrap64 ((x8.length : Int) - 1))).f1.f1) == bt385.2.1 && ((((rd_T75 x8 (wrap64 ((x8.length : Int) - 1))).f1.f2).toList) == bt385.2.2.1.toList))) = true then (some (([] : List (S75)), 4)) else (if x8.length < 3518437208883 then (ref08_ToRuns.l0 k bt385.2.2.2.1 x2 (x8 ++ [(⟨wrap64 (x10), (⟨bt385.1, bt385.2.1, bt385.2.2.1⟩ : S32)⟩ : S75)]) (wrap64 (x9 - (wrap64 (x10))))) else (none))) else (none)) else (none)) else (if x8.length < 3518437208883 then (ref08_ToRuns.l0 k bt385.2.2.2.1 x2 (x8 ++ [(⟨wrap64 (x10), (⟨bt385.1, bt385.2.1, bt385.2.2.1⟩ : S32)⟩ : S75)]) (wrap64 (x9 - (wrap64 (x10))))) else (none))) else (some (([] : List (S75)), bt385.2.2.2.2)))) else (none)) else (none))
end
def ref08_ToRuns.f (k : Nat) (l0 : List Int) (a1 : Int) (a2 : Int) : Option ((List (S75)) × Int) := (ref07_Kinds.f a2).bind fun t376 => (if t376 = true then (if a1 < 0 then (ref08_ToRuns.j0 k l0 a1 a2 true) else (ref08_ToRuns.j0 k l0 a1 a2 (decide (a1 > 4096)))) else (some (([] : List (S75)), 1)))
theorem ref08_ToRuns.mono_l : ∀ k, (∀ y0 y1 y2 y3, LeO (ref08_ToRuns.j0 k y0 y1 y2 y3) (ref08_ToRuns.j0 (k + 1) y0 y1 y2 y3)) ∧ (∀ y0 y1 y2 y3, LeO (ref08_ToRuns.l0 k y0 y1 y2 y3) (ref08_ToRuns.l0 (k + 1) y0 y1 y2 y3)) ∧ (∀ y0 y1 y2 y3 y4 y5 y6, LeO (ref08_ToRuns.j2 k y0 y1 y2 y3 y4 y5 y6) (ref08_ToRuns.j2 (k + 1) y0 y1 y2 y3 y4 y5 y6))
 | 0 => ⟨fun _ _ _ _ r h => by simp [ref08_ToRuns.j0] at h, fun _ _ _ _ r h => by simp [ref08_ToRuns.l0] at h, fun _ _ _ _ _ _ _ r h => by simp [ref08_ToRuns.j2] at h⟩
 | k + 1 => by
  obtain ⟨ih0, ih1, ih2⟩ := ref08_ToRuns.mono_l k
  refine ⟨?_, ?_, ?_⟩
  ·
   intro y0 y1 y2 y3
   unfold ref08_ToRuns.j0
   repeat' first
   | (with_reducible exact ih0 _ _ _ _)
   | (with_reducible exact ih1 _ _ _ _)
   | (with_reducible exact ih2 _ _ _ _ _ _ _)
   | (with_reducible exact ref02_Get.mono _ _)
   | (with_reducible exact ref05_Of.mono _ _ _)
   | (with_reducible exact LeO.refl _)
   | (with_reducible exact LeO.none _)
   | (with_reducible refine LeO.ite ?_ ?_)
   | (with_reducible refine LeO.bind ?_ (fun _ => ?_))
   | exact ih0 _ _ _ _
   | exact ih1 _ _ _ _
   | exact ih2 _ _ _ _ _ _ _
   | exact ref02_Get.mono _ _
   | exact ref05_Of.mono _ _ _
   | exact LeO.none _
   | refine LeO.ite ?_ ?_
   | refine LeO.bind ?_ (fun _ => ?_)
  ·
   intro y0 y1 y2 y3
   unfold ref08_ToRuns.l0
   repeat' first
   | (with_reducible exact ih0 _ _ _ _)
   | (with_reducible exact ih1 _ _ _ _)
   | (with_reducible exact ih2 _ _ _ _ _ _ _)
   | (with_reducible exact ref02_Get.mono _ _)
   | (with_reducible exact ref05_Of.mono _ _ _)
   | (with_reducible exact LeO.refl _)
   | (with_reducible exact LeO.none _)
   | (with_reducible refine LeO.ite ?_ ?_)
   | (with_reducible refine LeO.bind ?_ (fun _ => ?_))
   | exact ih0 _ _ _ _
   | exact ih1 _ _ _ _
   | exact ih2 _ _ _ _ _ _ _
   | exact ref02_Get.mono _ _
   | exact ref05_Of.mono _ _ _
   | exact LeO.none _
   | refine LeO.ite ?_ ?_
   | refine LeO.bind ?_ (fun _ => ?_)
  ·
   intro y0 y1 y2 y3 y4 y5 y6
   unfold ref08_ToRuns.j2
   repeat' first
   | (with_reducible exact ih0 _ _ _ _)
   | (with_reducible exact ih1 _ _ _ _)
   | (with_reducible exact ih2 _ _ _ _ _ _ _)
   | (with_reducible exact ref02_Get.mono _ _)
   | (with_reducible exact ref05_Of.mono _ _ _)
   | (with_reducible exact LeO.refl _)
   | (with_reducible exact LeO.none _)
   | (with_reducible refine LeO.ite ?_ ?_)
   | (with_reducible refine LeO.bind ?_ (fun _ => ?_))
   | exact ih0 _ _ _ _
   | exact ih1 _ _ _ _
   | exact ih2 _ _ _ _ _ _ _
   | exact ref02_Get.mono _ _
   | exact ref05_Of.mono _ _ _
   | exact LeO.none _
   | refine LeO.ite ?_ ?_
   | refine LeO.bind ?_ (fun _ => ?_)
theorem ref08_ToRuns.mono : ∀ a0 a1 a2 k, LeO (ref08_ToRuns.f k a0 a1 a2) (ref08_ToRuns.f (k + 1) a0 a1 a2) := by
 intro a0 a1 a2 k
 obtain ⟨ih0, ih1, ih2⟩ := ref08_ToRuns.mono_l k
 unfold ref08_ToRuns.f
 repeat' first
  | (with_reducible exact ih0 _ _ _ _)
  | (with_reducible exact ih1 _ _ _ _)
  | (with_reducible exact ih2 _ _ _ _ _ _ _)
  | (with_reducible exact ref02_Get.mono _ _)
  | (with_reducible exact ref05_Of.mono _ _ _)
  | (with_reducible exact LeO.refl _)
  | (with_reducible exact LeO.none _)
  | (with_reducible refine LeO.ite ?_ ?_)
  | (with_reducible refine LeO.bind ?_ (fun _ => ?_))
  | exact ih0 _ _ _ _
  | exact ih1 _ _ _ _
  | exact ih2 _ _ _ _ _ _ _
  | exact ref02_Get.mono _ _
  | exact ref05_Of.mono _ _ _
  | exact LeO.none _
  | refine LeO.ite ?_ ?_
  | refine LeO.bind ?_ (fun _ => ?_)
set_option maxHeartbeats 8000000 in
set_option maxRecDepth 100000 in
theorem ref08_ToRuns.calls (k : Nat) (P0_ : Nat → Prop) (A0 : Option Addr) (c0 : Nat) (l0 : List Int) (a1 : Int) (a2 : Int) (r1 : List (S75)) (r2 : Int) (w : World) (hs0 : Kd.V (Kd.int .u8) 5 w w.heap.size (fun k_ => P0_ k_) (.slice A0 l0.length c0) l0) (h : ref08_ToRuns.f k l0 a1 a2 = some (r1, r2)) :
 Calls Try.prog 32 #[.slice A0 l0.length c0, .int .i64 a1, .int .i64 a2] w fun e w' => ∃ v0_ : Value, e = .returned (.tuple #[v0_, .int .i64 r2]) ∧ Kd.R k75 75 w' w.heap.size (fun k_ => (w.heap.size ≤ k_)) v0_ r1 ∧ Below w.heap.size w w' := by
 have hu32 := Try.underlying32
 have hu75 := Try.underlying75
 have HO0 := Aside0.mk (show Kd.V (Kd.int .u8) 5 w w.heap.size (fun k_ => (P0_ k_ ∨ w.heap.size ≤ k_)) (.slice A0 l0.length c0) l0 from Kd.V_mono hs0 (fun k_ hk => .inl hk))
 have HB := Aside0.mk (Below.refl w.heap.size w)
 have H : ((ref07_Kinds.f a2).bind fun t376 => (if t376 = true then (if a1 < 0 then (ref08_ToRuns.j0 k l0 a1 a2 true) else (ref08_ToRuns.j0 k l0 a1 a2 (decide (a1 > 4096)))) else (some (([] : List (S75)), 1)))) = some (r1, r2) := h
 clear h
 replace H := Option.bind_eq_some_iff.mp H
 obtain ⟨t376, A40, H⟩ := H
 replace H : (if t376 = true then (if a1 < 0 then (ref08_ToRuns.j0 k l0 a1 a2 true) else (ref08_ToRuns.j0 k l0 a1 a2 (decide (a1 > 4096)))) else (some (([] : List (S75)), 1))) = some (r1, r2) := H
 have A4 := Aside0.mk A40
 clear A40
 by_cases c5 : t376 = true
 ·
  subst c5
  have H1 : (if a1 < 0 then (ref08_ToRuns.j0 k l0 a1 a2 true) else (ref08_ToRuns.j0 k l0 a1 a2 (decide (a1 > 4096)))) = some (r1, r2) := by rw [if_pos rfl] at H; exact H
  clear H
  have H := H1
  clear H1
  have HC6 := Aside0.mk H
  clear H
  go_enter Try.func32, Try.ntmps32
  go_upto_region 3 with (first | (go_at_call 44; (with_reducible refine (ref07_Kinds.calls a2 true _ A4.out).mono ?_); rintro e w' ⟨rfl, ⟨nd, rfl⟩⟩; (try first | exact ⟨rfl, _, World.drewN_drewN _ _ _⟩ | exact ⟨rfl, _, Eq.trans (World.drewN_drewN _ _ _) (congrArg (World.drewN _) (Nat.add_assoc _ _ _))⟩)))
  repeat (go_quiet (first | (go_at_call 44; (with_reducible refine (ref07_Kinds.calls a2 true _ A4.out).mono ?_); rintro e w' ⟨rfl, ⟨nd, rfl⟩⟩; (try first | exact ⟨rfl, _, World.drewN_drewN _ _ _⟩ | exact ⟨rfl, _, Eq.trans (World.drewN_drewN _ _ _) (congrArg (World.drewN _) (Nat.add_assoc _ _ _))⟩))); go_upto_region 3 with (first | (go_at_call 44; (with_reducible refine (ref07_Kinds.calls a2 true _ A4.out).mono ?_); rintro e w' ⟨rfl, ⟨nd, rfl⟩⟩; (try first | exact ⟨rfl, _, World.drewN_drewN _ _ _⟩ | exact ⟨rfl, _, Eq.trans (World.drewN_drewN _ _ _) (congrArg (World.drewN _) (Nat.add_assoc _ _ _))⟩))))
  (try simp only [Act.put, q0_, q1_, q2_])
  go_cut [24] (fun v24 wc => ∃ (kq : Nat) (x24_5 : Bool), v24 = .bool x24_5 ∧ Aside0 (ref08_ToRuns.j0 kq l0 a1 a2 x24_5 = some (r1, r2)) ∧ Aside0 (kq ≤ k) ∧ Aside0 (Kd.V (Kd.int .u8) 5 wc w.heap.size (fun k_ => (P0_ k_ ∨ w.heap.size ≤ k_)) (.slice A0 l0.length c0) l0) ∧ Aside0 (Below w.heap.size w wc))
  case first =>
   have H := HC6.out
   clear HC6
   by_cases c7 : a1 < 0
   ·
    rw [if_pos c7] at H
    have c7b0 : decide (a1 < 0) = true := decide_eq_true c7
    clear c7
    (first | rw [c7b0] | (simp only [i64_w, i32_w]; rw [c7b0]) | skip)
    have H' := Aside0.mk H
    clear H
    go_wp2
    repeat (go_quiet (fail); try go_wp2)
    go_meet
    case rel => exact ⟨_, (true), (by first | rfl | (simp; done) | (simp [*]; done)), H', ⟨by first | omega | exact Nat.le_refl _⟩, ⟨by (with_reducible repeat (first | apply Kd.V_alloc | apply Kd.V_drewN | apply Kd.V_drew)); exact HO0.out⟩, ⟨by repeat (with_reducible first | exact HB.out | apply below_alloc | apply pw_below_drewN | apply below_drew1)⟩⟩
   ·
    rw [if_neg c7] at H
    have c7b0 : decide (a1 < 0) = false := decide_eq_false c7
    clear c7
    (first | rw [c7b0] | (simp only [i64_w, i32_w]; rw [c7b0]) | skip)
    have H' := Aside0.mk H
    clear H
    go_wp2
    repeat (go_quiet (fail); try go_wp2)
    go_meet
    case rel => exact ⟨_, (decide (a1 > 4096)), (by first | rfl | (simp; done) | (simp [*]; done)), H', ⟨by first | omega | exact Nat.le_refl _⟩, ⟨by (with_reducible repeat (first | apply Kd.V_alloc | apply Kd.V_drewN | apply Kd.V_drew)); exact HO0.out⟩, ⟨by repeat (with_reducible first | exact HB.out | apply below_alloc | apply pw_below_drewN | apply below_drew1)⟩⟩
  case rest =>
   clear HC6
   try clear p2
   try clear c3
   try clear c5
   try clear c7
   try clear c7b0
   obtain ⟨kq, x24_5, rfl, HA, HJ5, HO_0, HB⟩ := hcut
   cases kq with
   | zero => exact absurd HA.out (by simp [ref08_ToRuns.j0])
   | succ kj5 =>
    have H := HA.out
    clear HA
    simp only [ref08_ToRuns.j0] at H
    by_cases c8 : x24_5 = true
    ·
     subst c8
     have H1 : (some (([] : List (S75)), 2)) = some (r1, r2) := by rw [if_pos rfl] at H; exact H
     clear H
     have H := H1
     clear H1
     simp only [Option.some.injEq, Prod.mk.injEq] at H
     obtain ⟨rfl, rfl⟩ := H
     go_wp2
     repeat (go_quiet (fail); try go_wp2)
     go_ret2
     exact ⟨_, by first | rfl | (simp [errW_none, errW_some] <;> rfl) | (simp [*, errW_none, errW_some] <;> rfl), by first | exact Kd.R_nil _ _ _ _ _ | exact Kd.N_nil _ _ _ _ _ | exact Kd.V_nil _ _ _ _ _ | exact Kd.Q_nil _ _ _ _ _ | exact Kd.S_nil _ _ _ _ _, by repeat (with_reducible first | exact HB.out | apply below_alloc | apply pw_below_drewN | apply below_drew1)⟩
    ·
     replace c8 := Bool.eq_false_iff.mpr c8
     subst c8
     have H1 : (ref08_ToRuns.l0 kj5 l0 a2 ([] : List (S75)) a1) = some (r1, r2) := by rw [if_neg (show ¬ (false = true) by decide)] at H; exact H
     clear H
     have H := H1
     clear H1
     have H' := Aside0.mk H
     clear H
     go_wp2
     repeat (go_quiet (fail); try go_wp2)
     go_loopg [0, 8, 9] kj5 (fun kq v0 v8 v9 w' => ∃ (x0_2 : List Int) (x8_2 : List (S75)) (x9_2 : Int), v9 = .int .i64 x9_2 ∧ Aside0 (ref08_ToRuns.l0 kq x0_2 a2 x8_2 x9_2 = some (r1, r2)) ∧ Aside0 (kq ≤ kj5) ∧ Aside0 (Kd.V (Kd.int .u8) 5 w' w.heap.size (fun k_ => (P0_ k_ ∨ w.heap.size ≤ k_) ∧ some k_ ≠ (v8 : Value).ownBlock) v0 x0_2) ∧ Aside0 (Kd.R k75 75 w' w.heap.size (fun k_ => (w.heap.size ≤ k_)) v8 x8_2) ∧ Aside0 (Below w.heap.size w w'))
     case atStart => exact ⟨(l0), (([] : List (S75))), (a1), (by first | rfl | (simp; done) | (simp [*]; done)), H', ⟨Nat.le_refl _⟩, ⟨by (with_reducible repeat (first | apply Kd.V_alloc | apply Kd.V_drewN | apply Kd.V_drew)); exact Kd.V_mono HO_0.out (fun _ hk => ⟨hk, (by simp [Value.ownBlock])⟩)⟩, ⟨by first | exact Kd.R_nil _ _ _ _ _ | exact Kd.N_nil _ _ _ _ _ | exact Kd.V_nil _ _ _ _ _ | exact Kd.Q_nil _ _ _ _ _ | exact Kd.S_nil _ _ _ _ _⟩, ⟨by repeat (with_reducible first | exact HB.out | apply below_alloc | apply pw_below_drewN | apply below_drew1)⟩⟩
     case round =>
      clear H'
      try clear p2
      try clear c3
      try clear c5
      try clear c7
      try clear c7b0
      try clear c8
      try clear p2
      obtain ⟨x0_2, x8_2, x9_2, rfl, HA, HK2, HO_0, HO_8, HB⟩ := hrel
      cases gk with
      | zero => exact absurd HA.out (by simp [ref08_ToRuns.l0])
      | succ k2 =>
       have H := HA.out
       clear HA
       simp only [ref08_ToRuns.l0] at H
       by_cases c9 : x9_2 > 0
       ·
        rw [if_pos c9] at H
        have c9b0 : decide (0 < x9_2) = true := decide_eq_true c9
        clear c9
        replace H := Option.bind_eq_some_iff.mp H
        obtain ⟨⟨t377, t378, t379⟩, A100, H⟩ := H
        replace H : (if t379 = 0 then (if t377 = 0 then (ref08_ToRuns.j2 k2 x0_2 a2 x8_2 x9_2 t377 t378 true) else (ref08_ToRuns.j2 k2 x0_2 a2 x8_2 x9_2 t377 t378 (decide (t377 > (IntKind.u64.wrap (x9_2)))))) else (some (([] : List (S75)), t379))) = some (r1, r2) := H
        have A10 := Aside0.mk A100
        clear A100
        by_cases c11 : t379 = 0
        ·
         rw [if_pos c11] at H
         have c11b0 : (t379 == 0) = true := beq_iff_eq.mpr c11
         have c11b1 : (t379 != 0) = false := bne_eq_false_iff_eq.mpr c11
         clear c11
         have HC12 := Aside0.mk H
         clear H
         obtain ⟨Ao13, co13, eo13⟩ := Kd.V_slice HO_0.out
         subst eo13
         go_upto_region 11 with (first | (go_at_call 53; (with_reducible refine (ref02_Get.calls k2 _ _ x0_2 t377 t378 t379 _ ?side1 ?side2 A10.out).mono ?_); (case side1 => repeat (first | exact (Kd.V_reads' HO_0.out).2.2 | (with_reducible refine Kd.C_alloc ?_ _) | (with_reducible refine Kd.C_drewN ?_ _) | (with_reducible refine Kd.C_drew ?_))); (case side2 => exact (Kd.V_reads' HO_0.out).2.1); rintro e w' ⟨rfl, ⟨nd, rfl⟩⟩; (try first | exact ⟨rfl, _, World.drewN_drewN _ _ _⟩ | exact ⟨rfl, _, Eq.trans (World.drewN_drewN _ _ _) (congrArg (World.drewN _) (Nat.add_assoc _ _ _))⟩)))
         repeat (go_quiet (first | (go_at_call 53; (with_reducible refine (ref02_Get.calls k2 _ _ x0_2 t377 t378 t379 _ ?side1 ?side2 A10.out).mono ?_); (case side1 => repeat (first | exact (Kd.V_reads' HO_0.out).2.2 | (with_reducible refine Kd.C_alloc ?_ _) | (with_reducible refine Kd.C_drewN ?_ _) | (with_reducible refine Kd.C_drew ?_))); (case side2 => exact (Kd.V_reads' HO_0.out).2.1); rintro e w' ⟨rfl, ⟨nd, rfl⟩⟩; (try first | exact ⟨rfl, _, World.drewN_drewN _ _ _⟩ | exact ⟨rfl, _, Eq.trans (World.drewN_drewN _ _ _) (congrArg (World.drewN _) (Nat.add_assoc _ _ _))⟩))); go_upto_region 11 with (first | (go_at_call 53; (with_reducible refine (ref02_Get.calls k2 _ _ x0_2 t377 t378 t379 _ ?side1 ?side2 A10.out).mono ?_); (case side1 => repeat (first | exact (Kd.V_reads' HO_0.out).2.2 | (with_reducible refine Kd.C_alloc ?_ _) | (with_reducible refine Kd.C_drewN ?_ _) | (with_reducible refine Kd.C_drew ?_))); (case side2 => exact (Kd.V_reads' HO_0.out).2.1); rintro e w' ⟨rfl, ⟨nd, rfl⟩⟩; (try first | exact ⟨rfl, _, World.drewN_drewN _ _ _⟩ | exact ⟨rfl, _, Eq.trans (World.drewN_drewN _ _ _) (congrArg (World.drewN _) (Nat.add_assoc _ _ _))⟩))))
         (try simp only [Act.put, q0_, q1_, q2_])
         go_cut [44] (fun v44 wc => ∃ (kq : Nat) (x44_11 : Bool), v44 = .bool x44_11 ∧ Aside0 (ref08_ToRuns.j2 kq x0_2 a2 x8_2 x9_2 t377 t378 x44_11 = some (r1, r2)) ∧ Aside0 (kq ≤ k2) ∧ Aside0 (Kd.V (Kd.int .u8) 5 wc w.heap.size (fun k_ => (P0_ k_ ∨ w.heap.size ≤ k_) ∧ some k_ ≠ (u8 : Value).ownBlock) (.slice Ao13 x0_2.length co13) x0_2) ∧ Aside0 (Kd.R k75 75 wc w.heap.size (fun k_ => (w.heap.size ≤ k_)) u8 x8_2) ∧ Aside0 (Below w.heap.size w wc))
         case first =>
          have H := HC12.out
          clear HC12
          by_cases c14 : t377 = 0
          ·
           rw [if_pos c14] at H
           have c14b0 : (t377 == 0) = true := beq_iff_eq.mpr c14
           have c14b1 : (t377 != 0) = false := bne_eq_false_iff_eq.mpr c14
           clear c14
           (first | rw [c14b0] | (simp only [i64_w, i32_w]; rw [c14b0]) | skip)
           have H' := Aside0.mk H
           clear H
           go_wp2
           repeat (go_quiet (fail); try go_wp2)
           go_meet
           case rel => exact ⟨_, (true), (by first | rfl | (simp; done) | (simp [*]; done)), H', ⟨by have := HJ5.out; have := HK2.out; first | omega | exact Nat.le_refl _⟩, ⟨by (with_reducible repeat (first | apply Kd.V_alloc | apply Kd.V_drewN | apply Kd.V_drew)); exact HO_0.out⟩, ⟨by (with_reducible repeat (first | apply Kd.R_alloc | apply Kd.R_drewN | apply Kd.R_drew)); exact HO_8.out⟩, ⟨by repeat (with_reducible first | exact HB.out | apply below_alloc | apply pw_below_drewN | apply below_drew1)⟩⟩
          ·
           rw [if_neg c14] at H
           have c14b0 : (t377 == 0) = false := beq_eq_false_iff_ne.mpr c14
           have c14b1 : (t377 != 0) = true := bne_iff_ne.mpr c14
           (first | rw [c14b0] | (simp only [i64_w, i32_w]; rw [c14b0]) | skip)
           have H' := Aside0.mk H
           clear H
           go_wp2
           repeat (go_quiet (fail); try go_wp2)
           go_meet
           case rel => exact ⟨_, (decide (t377 > (IntKind.u64.wrap (x9_2)))), (by first | rfl | (simp; done) | (simp [*]; done)), H', ⟨by have := HJ5.out; have := HK2.out; first | omega | exact Nat.le_refl _⟩, ⟨by (with_reducible repeat (first | apply Kd.V_alloc | apply Kd.V_drewN | apply Kd.V_drew)); exact HO_0.out⟩, ⟨by (with_reducible repeat (first | apply Kd.R_alloc | apply Kd.R_drewN | apply Kd.R_drew)); exact HO_8.out⟩, ⟨by repeat (with_reducible first | exact HB.out | apply below_alloc | apply pw_below_drewN | apply below_drew1)⟩⟩
         case rest =>
          clear HC12
          try clear c1
          try clear p2
          try clear c3
          try clear c5
          try clear c7
          try clear c7b0
          try clear c8
          try clear c9
          try clear c9b0
          try clear c11
          try clear c11b0
          try clear c11b1
          try clear c14
          try clear c14b0
          try clear c14b1
          try clear p2
          obtain ⟨kq, x44_11, rfl, HA, HJ11, HO_0, HO_8, HB⟩ := hcut
          cases kq with
          | zero => exact absurd HA.out (by simp [ref08_ToRuns.j2])
          | succ kj11 =>
           have H := HA.out
           clear HA
           simp only [ref08_ToRuns.j2] at H
           by_cases c15 : x44_11 = true
           ·
            subst c15
            have H1 : (some (([] : List (S75)), 4)) = some (r1, r2) := by rw [if_pos rfl] at H; exact H
            clear H
            have H := H1
            clear H1
            simp only [Option.some.injEq, Prod.mk.injEq] at H
            obtain ⟨rfl, rfl⟩ := H
            go_wp2
            repeat (go_quiet (fail); try go_wp2)
            go_ret2
            exact ⟨_, by first | rfl | (simp [errW_none, errW_some] <;> rfl) | (simp [*, errW_none, errW_some] <;> rfl), by first | exact Kd.R_nil _ _ _ _ _ | exact Kd.N_nil _ _ _ _ _ | exact Kd.V_nil _ _ _ _ _ | exact Kd.Q_nil _ _ _ _ _ | exact Kd.S_nil _ _ _ _ _, by repeat (with_reducible first | exact HB.out | apply below_alloc | apply pw_below_drewN | apply below_drew1)⟩
           ·
            replace c15 := Bool.eq_false_iff.mpr c15
            subst c15
            have H1 : (if 0 ≤ t378 then (if t378 ≤ (x0_2.length : Int) then ((ref05_Of.f kj11 (x0_2.drop (t378 : Int).toNat) a2).bind fun bt385 => (if bt385.2.2.2.2 = 0 then (if (x8_2.length : Int) > 0 then (if 0 ≤ (wrap64 ((x8_2.length : Int) - 1)) then (if (wrap64 ((x8_2.length : Int) - 1)) < (x8_2.length : Int) then (if (((rd_T75 x8_2 (wrap64 ((x8_2.length : Int) - 1))).f1.f0) == bt385.1 && (((rd_T75 x8_2 (wrap64 ((x8_2.length : Int) - 1))).f1.f1) == bt385.2.1 && ((((rd_T75 x8_2 (wrap64 ((x8_2.length : Int) - 1))).f1.f2).toList) == bt385.2.2.1.toList))) = true then (some (([] : List (S75)), 4)) else (if x8_2.length < 3518437208883 then (ref08_ToRuns.l0 kj11 bt385.2.2.2.1 a2 (x8_2 ++ [(⟨wrap64 (t377), (⟨bt385.1, bt385.2.1, bt385.2.2.1⟩ : S32)⟩ : S75)]) (wrap64 (x9_2 - (wrap64 (t377))))) else (none))) else (none)) else (none)) else (if x8_2.length < 3518437208883 then (ref08_ToRuns.l0 kj11 bt385.2.2.2.1 a2 (x8_2 ++ [(⟨wrap64 (t377), (⟨bt385.1, bt385.2.1, bt385.2.2.1⟩ : S32)⟩ : S75)]) (wrap64 (x9_2 - (wrap64 (t377))))) else (none))) else (some (([] : List (S75)), bt385.2.2.2.2)))) else (none)) else (none)) = some (r1, r2) := by rw [if_neg (show ¬ (false = true) by decide)] at H; exact H
            clear H
            have H := H1
            clear H1
            by_cases c16 : 0 ≤ t378
            ·
             rw [if_pos c16] at H
             have c16b0 := eq_true c16
             have c16b1 : decide (0 ≤ t378) = true := decide_eq_true c16
             clear c16
             by_cases c17 : t378 ≤ (x0_2.length : Int)
             ·
              rw [if_pos c17] at H
              have c17b0 := eq_true c17
              have c17b1 : decide (t378 ≤ (x0_2.length : Int)) = true := decide_eq_true c17
              clear c17
              obtain ⟨y380, hy380⟩ : ∃ y_ : List Int, y_ = (x0_2.drop (t378 : Int).toNat) := ⟨_, rfl⟩
              replace H : ((ref05_Of.f kj11 y380 a2).bind fun bt385 => (if bt385.2.2.2.2 = 0 then (if (x8_2.length : Int) > 0 then (if 0 ≤ (wrap64 ((x8_2.length : Int) - 1)) then (if (wrap64 ((x8_2.length : Int) - 1)) < (x8_2.length : Int) then (if (((rd_T75 x8_2 (wrap64 ((x8_2.length : Int) - 1))).f1.f0) == bt385.1 && (((rd_T75 x8_2 (wrap64 ((x8_2.length : Int) - 1))).f1.f1) == bt385.2.1 && ((((rd_T75 x8_2 (wrap64 ((x8_2.length : Int) - 1))).f1.f2).toList) == bt385.2.2.1.toList))) = true then (some (([] : List (S75)), 4)) else (if x8_2.length < 3518437208883 then (ref08_ToRuns.l0 kj11 bt385.2.2.2.1 a2 (x8_2 ++ [(⟨wrap64 (t377), (⟨bt385.1, bt385.2.1, bt385.2.2.1⟩ : S32)⟩ : S75)]) (wrap64 (x9_2 - (wrap64 (t377))))) else (none))) else (none)) else (none)) else (if x8_2.length < 3518437208883 then (ref08_ToRuns.l0 kj11 bt385.2.2.2.1 a2 (x8_2 ++ [(⟨wrap64 (t377), (⟨bt385.1, bt385.2.1, bt385.2.2.1⟩ : S32)⟩ : S75)]) (wrap64 (x9_2 - (wrap64 (t377))))) else (none))) else (some (([] : List (S75)), bt385.2.2.2.2)))) = some (r1, r2) := by first | (rw [hy380]; with_reducible exact H) | (have H2_ := (Option.bind_some _ _).symm.trans H; rw [hy380]; with_reducible exact H2_) | (have H2_ := (Option.bind_some _ _).symm.trans H; with_reducible exact H2_) | with_reducible exact H | (rw [hy380]; exact H) | exact H
              have Ny380 := Aside0.mk hy380
              clear hy380
              replace H := Option.bind_eq_some_iff.mp H
              obtain ⟨⟨t385, t386, t387, t388, t391⟩, A180, H⟩ := H
              replace H : (if t391 = 0 then (if (x8_2.length : Int) > 0 then (if 0 ≤ (wrap64 ((x8_2.length : Int) - 1)) then (if (wrap64 ((x8_2.length : Int) - 1)) < (x8_2.length : Int) then (if (((rd_T75 x8_2 (wrap64 ((x8_2.length : Int) - 1))).f1.f0) == t385 && (((rd_T75 x8_2 (wrap64 ((x8_2.length : Int) - 1))).f1.f1) == t386 && ((((rd_T75 x8_2 (wrap64 ((x8_2.length : Int) - 1))).f1.f2).toList) == t387.toList))) = true then (some (([] : List (S75)), 4)) else (if x8_2.length < 3518437208883 then (ref08_ToRuns.l0 kj11 t388 a2 (x8_2 ++ [(⟨wrap64 (t377), (⟨t385, t386, t387⟩ : S32)⟩ : S75)]) (wrap64 (x9_2 - (wrap64 (t377))))) else (none))) else (none)) else (none)) else (if x8_2.length < 3518437208883 then (ref08_ToRuns.l0 kj11 t388 a2 (x8_2 ++ [(⟨wrap64 (t377), (⟨t385, t386, t387⟩ : S32)⟩ : S75)]) (wrap64 (x9_2 - (wrap64 (t377))))) else (none))) else (some (([] : List (S75)), t391))) = some (r1, r2) := H
              have A18 := Aside0.mk A180
              clear A180
              by_cases c19 : t391 = 0
              ·
               rw [if_pos c19] at H
               have c19b0 : (t391 == 0) = true := beq_iff_eq.mpr c19
               have c19b1 : (t391 != 0) = false := bne_eq_false_iff_eq.mpr c19
               clear c19
               by_cases c20 : (x8_2.length : Int) > 0
               ·
                rw [if_pos c20] at H
                have c20b0 : decide (0 < (x8_2.length : Int)) = true := decide_eq_true c20
                have c20b1 : decide (0 < x8_2.length) = true := decide_eq_true (by omega)
                clear c20
                obtain ⟨ji21, hji21⟩ : ∃ j_ : Int, (wrap64 ((x8_2.length : Int) - 1)) = j_ := ⟨_, rfl⟩
                replace H : (if 0 ≤ (ji21) then (if (ji21) < (x8_2.length : Int) then (if (((rd_T75 x8_2 (ji21)).f1.f0) == t385 && (((rd_T75 x8_2 (ji21)).f1.f1) == t386 && ((((rd_T75 x8_2 (ji21)).f1.f2).toList) == t387.toList))) = true then (some (([] : List (S75)), 4)) else (if x8_2.length < 3518437208883 then (ref08_ToRuns.l0 kj11 t388 a2 (x8_2 ++ [(⟨wrap64 (t377), (⟨t385, t386, t387⟩ : S32)⟩ : S75)]) (wrap64 (x9_2 - (wrap64 (t377))))) else (none))) else (none)) else (none)) = some (r1, r2) := by first | (rw [hji21] at H; exact H) | (simp only [hji21] at H ⊢; exact H)
                (try rw [hji21] at A18)
                have hji21w : (IntKind.i64.wrap ((x8_2.length : Int) - 1)) = ji21 := (i64_w _).trans hji21
                by_cases c22 : 0 ≤ (ji21)
                ·
                 rw [if_pos c22] at H
                 have c22b0 : decide (0 ≤ (ji21)) = true := decide_eq_true c22
                 clear c22
                 by_cases c23 : (ji21) < (x8_2.length : Int)
                 ·
                  rw [if_pos c23] at H
                  have c23b0 : decide ((ji21) < (x8_2.length : Int)) = true := decide_eq_true c23
                  clear c23
                  by_cases c24 : (((rd_T75 x8_2 (ji21)).f1.f0) == t385 && (((rd_T75 x8_2 (ji21)).f1.f1) == t386 && ((((rd_T75 x8_2 (ji21)).f1.f2).toList) == t387.toList))) = true
                  ·
                   rw [if_pos c24] at H
                   have c24b0 : (((rd_T75 x8_2 (ji21)).f1.f0) == t385 && (((rd_T75 x8_2 (ji21)).f1.f1) == t386 && ((((rd_T75 x8_2 (ji21)).f1.f2).toList) == t387.toList))) = true := c24
                   (try (have c24b1 : decide (((rd_T75 x8_2 (ji21)).f1.f0) = t385 && (((rd_T75 x8_2 (ji21)).f1.f1) == t386 && ((((rd_T75 x8_2 (ji21)).f1.f2).toList) == t387.toList))) = true := by simpa using c24))
                   (try (have c24b2 : (((rd_T75 x8_2 (ji21)).f1.f0) == t385 && (((rd_T75 x8_2 (ji21)).f1.f1) == t386 && ((((rd_T75 x8_2 (ji21)).f1.f2).toList) == t387.toList))) = true := by simpa using c24))
                   clear c24
                   simp only [Option.some.injEq, Prod.mk.injEq] at H
                   obtain ⟨rfl, rfl⟩ := H
                   have q25 : (t378 : Int) ≤ ((x0_2.length : Int) : Int) := of_decide_eq_true (by first | (with_reducible assumption) | assumption)
                   obtain ⟨i025, hi025, _, hsz25, _⟩ := info_parts info5
                   have hroom25 : x0_2.length ≤ co13 := (Kd.V_reads' HO_0.out).2.1
                   have hC25 : Kd.F (Kd.int .u8) _ _ Ao13 x0_2.length x0_2 := (Kd.V_at (base := w.heap.size) HO_0.out).2.2
                   have q025 : (0 : Int) ≤ (t378 : Int) := of_decide_eq_true (by first | (with_reducible assumption) | assumption)
                   have hcut25 := cut_from (P := Try.prog) 25 5 .i64 Try.underlying25 hi025 1 hsz25 Ao13 x0_2.length co13 t378 q025 q25
                   have hr25 := Kd.F_cut (m := (t378 : Int).toNat) (c := co13) hC25 (by omega) hroom25
                   obtain ⟨A25, hA25⟩ : ∃ A1, A1 = (if co13 = (t378 : Int).toNat then Ao13 else (Ao13 : Option Addr).map (·.add ((t378 : Int).toNat * 1))) := ⟨_, rfl⟩
                   obtain ⟨c25, hc25⟩ : ∃ c1, c1 = co13 - (t378 : Int).toNat := ⟨_, rfl⟩
                   have hy25 : y380.length = x0_2.length - (t378 : Int).toNat := (by rw [Ny380.out, List.length_drop] <;> omega)
                   rw [show (x0_2).drop (t378 : Int).toNat = y380 from Ny380.out.symm] at hr25
                   replace hr25 : Kd.F (Kd.int .u8) _ _ A25 y380.length y380 := (by rw [hA25]; exact hr25)
                   rw [← hy25, ← hA25, ← hc25] at hcut25
                   have HO384 := Aside0.mk (show Kd.V (Kd.int .u8) 5 _ w.heap.size _ (.slice A25 y380.length c25) y380 from Kd.V_mk (by rw [hy25, hc25]; exact Nat.sub_le_sub_right hroom25 _) hr25)
                   have HC384 := Aside0.mk (show y380.length ≤ c25 from by rw [hy25, hc25]; exact Nat.sub_le_sub_right hroom25 _)
                   clear hr25 hC25 hroom25 hi025 hsz25 hc25
                   have KY25 := Aside0.mk hy25
                   have KA25 := Aside0.mk hA25
                   clear hy25 hA25
                   replace q25 := eq_true q25
                   go_wp2_with (first | (go_at_call 54; (with_reducible refine (ref05_Of.calls kj11 (fun k_ => ((P0_ k_ ∨ w.heap.size ≤ k_) ∧ some k_ ≠ (u8 : Value).ownBlock)) _ _ y380 a2 t385 t386 t387 t388 t391 _ ?side1 A18.out).mono ?_); (case side1 => exact HO384.out); rintro e w26 ⟨v389, rfl, ho0, hb⟩; have n0_ := Aside0.mk (Kd.V_below (by (with_reducible repeat (first | apply Kd.V_alloc | apply Kd.V_drewN | apply Kd.V_drew)); exact HO_0.out) hb); have n1_ := Aside0.mk (Kd.R_below (by (with_reducible repeat (first | apply Kd.R_alloc | apply Kd.R_drewN | apply Kd.R_drew)); exact HO_8.out) hb); have n2_ := Aside0.mk (Kd.V_below (by (with_reducible repeat (first | apply Kd.V_alloc | apply Kd.V_drewN | apply Kd.V_drew)); exact HO384.out) hb); have n3_ := Aside0.mk (Kd.V_lower (Kd.V_mono (ok' := fun k_ => (P0_ k_ ∨ w.heap.size ≤ k_) ∧ some k_ ≠ (u8 : Value).ownBlock) ho0 (fun k_ hk_ => ⟨Or.elim hk_ (fun hs_ => hs_.1) (fun hn_ => (.inr (Nat.le_trans (below_size (by repeat (with_reducible first | exact HB.out | apply below_alloc | apply pw_below_drewN | apply below_drew1))) hn_))), Or.elim hk_ (fun hs_ => hs_.2) (fun hn_ => (Kd.fresh' (Kd.R_lt (by (with_reducible repeat (first | apply Kd.R_alloc | apply Kd.R_drewN | apply Kd.R_drew)); exact HO_8.out)) k_ hn_))⟩)) (below_size (by repeat (with_reducible first | exact HB.out | apply below_alloc | apply pw_below_drewN | apply below_drew1)))); have n4_ := Aside0.mk (below_step (by repeat (with_reducible first | exact HB.out | apply below_alloc | apply pw_below_drewN | apply below_drew1)) hb); clear HO_0; clear HO_8; clear HO384; clear HB; have HO_0 := n0_; have HO_8 := n1_; have HO384 := n2_; have HO390 := n3_; have HB := n4_; clear n0_ n1_ n2_ n3_ n4_; (try clear hb); (try clear hb2); (try clear hk); (try clear hi); (try clear ho0)) | ((with_reducible refine gate_dst (N := 13) rfl ?_); (try (refine gate_guard (by rfl) ?_; dsimp only)); refine box_event ?hg (N := 13) ?hd (cs := #[.int .i64 0, .int .i64 0, .string (⟨#[]⟩ : ByteArray)]) (t := 32) ?hr ?_; (case hd => rfl); (case hg => rfl); (case hr => first | (go_simp; done) | (go_simp; rfl)); intro gb392 hg w27 hbox hb; have n0_ := Aside0.mk (Kd.V_below (Kd.V_elderB (by (with_reducible repeat (first | apply Kd.V_alloc | apply Kd.V_drewN | apply Kd.V_drew)); exact HO_0.out) gb392 (Nat.le_of_eq hg.symm)) hb); have n1_ := Aside0.mk (Kd.R_below (by (with_reducible repeat (first | apply Kd.R_alloc | apply Kd.R_drewN | apply Kd.R_drew)); exact HO_8.out) hb); have n2_ := Aside0.mk (Kd.V_below (Kd.V_elderB (by (with_reducible repeat (first | apply Kd.V_alloc | apply Kd.V_drewN | apply Kd.V_drew)); exact HO384.out) gb392 (Nat.le_of_eq hg.symm)) hb); have n3_ := Aside0.mk (Kd.V_below (Kd.V_elderB (by (with_reducible repeat (first | apply Kd.V_alloc | apply Kd.V_drewN | apply Kd.V_drew)); exact HO390.out) gb392 (Nat.le_of_eq hg.symm)) hb); have n4_ := Aside0.mk (below_step (by repeat (with_reducible first | exact HB.out | apply below_alloc | apply pw_below_drewN | apply below_drew1)) hb); have n5_ := Aside0.mk (hbox); have n6_ := Aside0.mk ((by rw [hg]; exact (below_size (by repeat (with_reducible first | exact HB.out | apply below_alloc | apply pw_below_drewN | apply below_drew1))) : w.heap.size ≤ gb392)); have n7_ := Aside0.mk ((by rw [hg]; exact (below_size (by repeat (with_reducible first | exact HB.out | apply below_alloc | apply pw_below_drewN | apply below_drew1))) : w.heap.size ≤ gb392)); clear HO_0; clear HO_8; clear HO384; clear HO390; clear HB; have HO_0 := n0_; have HO_8 := n1_; have HO384 := n2_; have HO390 := n3_; have HB := n4_; have BK392 := n5_; have GW392 := n6_; have GE392 := n7_; clear n0_ n1_ n2_ n3_ n4_ n5_ n6_ n7_; clear hb hbox hg; have hcz28_0 : w27.cell? ⟨gb392, 0, none⟩ = some (.int .i64 0) := (blk_cell BK392.out 0).trans rfl; have hcz28_1 : w27.cell? ⟨gb392, 1, none⟩ = some (.int .i64 0) := (blk_cell BK392.out 1).trans rfl; have hcz28_2 : w27.cell? ⟨gb392, 2, none⟩ = some (.string (⟨#[]⟩ : ByteArray)) := (blk_cell BK392.out 2).trans rfl; have hfz28_0 := blk_frozen BK392.out 0; have hfz28_1 := blk_frozen BK392.out 1; have hfz28_2 := blk_frozen BK392.out 2; obtain ⟨Ao29, co29, eo29⟩ := Kd.R_slice HO_8.out; subst eo29; have p393 : 0 ≤ ((ji21) : Int) := of_decide_eq_true (by first | (with_reducible assumption) | assumption); have q393 : (ji21) < (x8_2.length : Int) := of_decide_eq_true (by first | (with_reducible assumption) | assumption); obtain ⟨ad393, e393, hx393_0, hx393_1, hx393_2, hx393_3⟩ := at_T75 (Kd.R_reads' HO_8.out).2.2 (ji21) p393 q393; cases e393; have hn393_0 : ad393.block ≠ gb392 := Kd.own_blk (Kd.R_ne HO_8.out BK392.out (by decide)); have hn393_1 : ad393.block ≠ gb392 := Kd.own_blk (Kd.R_ne HO_8.out BK392.out (by decide)); have hn393_2 : ad393.block ≠ gb392 := Kd.own_blk (Kd.R_ne HO_8.out BK392.out (by decide)); replace hx393_0 := (cell_far (p := ⟨gb392, 0, none⟩) (by first | (rw [add_block]; exact hn393_0) | (show (Addr.add _ _).block ≠ _; rw [add_block]; exact hn393_0) | exact hn393_0) (.int .i64 t385)).trans hx393_0; replace hx393_1 := (cell_far (p := ⟨gb392, 0, none⟩) (by first | (rw [add_block]; exact hn393_0) | (show (Addr.add _ _).block ≠ _; rw [add_block]; exact hn393_0) | exact hn393_0) (.int .i64 t385)).trans hx393_1; replace hx393_2 := (cell_far (p := ⟨gb392, 0, none⟩) (by first | (rw [add_block]; exact hn393_0) | (show (Addr.add _ _).block ≠ _; rw [add_block]; exact hn393_0) | exact hn393_0) (.int .i64 t385)).trans hx393_2; replace hx393_3 := (cell_far (p := ⟨gb392, 0, none⟩) (by first | (rw [add_block]; exact hn393_0) | (show (Addr.add _ _).block ≠ _; rw [add_block]; exact hn393_0) | exact hn393_0) (.int .i64 t385)).trans hx393_3; replace hx393_0 := (cell_far (p := ⟨gb392, 1, none⟩) (by first | (rw [add_block]; exact hn393_1) | (show (Addr.add _ _).block ≠ _; rw [add_block]; exact hn393_1) | exact hn393_1) (.int .i64 t386)).trans hx393_0; replace hx393_1 := (cell_far (p := ⟨gb392, 1, none⟩) (by first | (rw [add_block]; exact hn393_1) | (show (Addr.add _ _).block ≠ _; rw [add_block]; exact hn393_1) | exact hn393_1) (.int .i64 t386)).trans hx393_1; replace hx393_2 := (cell_far (p := ⟨gb392, 1, none⟩) (by first | (rw [add_block]; exact hn393_1) | (show (Addr.add _ _).block ≠ _; rw [add_block]; exact hn393_1) | exact hn393_1) (.int .i64 t386)).trans hx393_2; replace hx393_3 := (cell_far (p := ⟨gb392, 1, none⟩) (by first | (rw [add_block]; exact hn393_1) | (show (Addr.add _ _).block ≠ _; rw [add_block]; exact hn393_1) | exact hn393_1) (.int .i64 t386)).trans hx393_3; replace hx393_0 := (cell_far (p := ⟨gb392, 2, none⟩) (by first | (rw [add_block]; exact hn393_2) | (show (Addr.add _ _).block ≠ _; rw [add_block]; exact hn393_2) | exact hn393_2) (.string t387)).trans hx393_0; replace hx393_1 := (cell_far (p := ⟨gb392, 2, none⟩) (by first | (rw [add_block]; exact hn393_2) | (show (Addr.add _ _).block ≠ _; rw [add_block]; exact hn393_2) | exact hn393_2) (.string t387)).trans hx393_1; replace hx393_2 := (cell_far (p := ⟨gb392, 2, none⟩) (by first | (rw [add_block]; exact hn393_2) | (show (Addr.add _ _).block ≠ _; rw [add_block]; exact hn393_2) | exact hn393_2) (.string t387)).trans hx393_2; replace hx393_3 := (cell_far (p := ⟨gb392, 2, none⟩) (by first | (rw [add_block]; exact hn393_2) | (show (Addr.add _ _).block ≠ _; rw [add_block]; exact hn393_2) | exact hn393_2) (.string t387)).trans hx393_3; (try have hy393_0 := fun (n_ : Nat) => (show (((((w27.drewN n_).setCell ⟨gb392, 0, none⟩ (.int .i64 t385)).setCell ⟨gb392, 1, none⟩ (.int .i64 t386)).setCell ⟨gb392, 2, none⟩ (.string t387))).cell? _ = some _ from hx393_0)); (try have hy393_1 := fun (n_ : Nat) => (show (((((w27.drewN n_).setCell ⟨gb392, 0, none⟩ (.int .i64 t385)).setCell ⟨gb392, 1, none⟩ (.int .i64 t386)).setCell ⟨gb392, 2, none⟩ (.string t387))).cell? _ = some _ from hx393_1)); (try have hy393_2 := fun (n_ : Nat) => (show (((((w27.drewN n_).setCell ⟨gb392, 0, none⟩ (.int .i64 t385)).setCell ⟨gb392, 1, none⟩ (.int .i64 t386)).setCell ⟨gb392, 2, none⟩ (.string t387))).cell? _ = some _ from hx393_2)); (try have hy393_3 := fun (n_ : Nat) => (show (((((w27.drewN n_).setCell ⟨gb392, 0, none⟩ (.int .i64 t385)).setCell ⟨gb392, 1, none⟩ (.int .i64 t386)).setCell ⟨gb392, 2, none⟩ (.string t387))).cell? _ = some _ from hx393_3)); clear hn393_0; clear hn393_1; clear hn393_2; replace p393 := eq_true p393; replace q393 := eq_true q393))
                   repeat (go_quiet (first | (go_at_call 54; (with_reducible refine (ref05_Of.calls kj11 (fun k_ => ((P0_ k_ ∨ w.heap.size ≤ k_) ∧ some k_ ≠ (u8 : Value).ownBlock)) _ _ y380 a2 t385 t386 t387 t388 t391 _ ?side1 A18.out).mono ?_); (case side1 => exact HO384.out); rintro e w26 ⟨v389, rfl, ho0, hb⟩; have n0_ := Aside0.mk (Kd.V_below (by (with_reducible repeat (first | apply Kd.V_alloc | apply Kd.V_drewN | apply Kd.V_drew)); exact HO_0.out) hb); have n1_ := Aside0.mk (Kd.R_below (by (with_reducible repeat (first | apply Kd.R_alloc | apply Kd.R_drewN | apply Kd.R_drew)); exact HO_8.out) hb); have n2_ := Aside0.mk (Kd.V_below (by (with_reducible repeat (first | apply Kd.V_alloc | apply Kd.V_drewN | apply Kd.V_drew)); exact HO384.out) hb); have n3_ := Aside0.mk (Kd.V_lower (Kd.V_mono (ok' := fun k_ => (P0_ k_ ∨ w.heap.size ≤ k_) ∧ some k_ ≠ (u8 : Value).ownBlock) ho0 (fun k_ hk_ => ⟨Or.elim hk_ (fun hs_ => hs_.1) (fun hn_ => (.inr (Nat.le_trans (below_size (by repeat (with_reducible first | exact HB.out | apply below_alloc | apply pw_below_drewN | apply below_drew1))) hn_))), Or.elim hk_ (fun hs_ => hs_.2) (fun hn_ => (Kd.fresh' (Kd.R_lt (by (with_reducible repeat (first | apply Kd.R_alloc | apply Kd.R_drewN | apply Kd.R_drew)); exact HO_8.out)) k_ hn_))⟩)) (below_size (by repeat (with_reducible first | exact HB.out | apply below_alloc | apply pw_below_drewN | apply below_drew1)))); have n4_ := Aside0.mk (below_step (by repeat (with_reducible first | exact HB.out | apply below_alloc | apply pw_below_drewN | apply below_drew1)) hb); clear HO_0; clear HO_8; clear HO384; clear HB; have HO_0 := n0_; have HO_8 := n1_; have HO384 := n2_; have HO390 := n3_; have HB := n4_; clear n0_ n1_ n2_ n3_ n4_; (try clear hb); (try clear hb2); (try clear hk); (try clear hi); (try clear ho0)) | ((with_reducible refine gate_dst (N := 13) rfl ?_); (try (refine gate_guard (by rfl) ?_; dsimp only)); refine box_event ?hg (N := 13) ?hd (cs := #[.int .i64 0, .int .i64 0, .string (⟨#[]⟩ : ByteArray)]) (t := 32) ?hr ?_; (case hd => rfl); (case hg => rfl); (case hr => first | (go_simp; done) | (go_simp; rfl)); intro gb392 hg w27 hbox hb; have n0_ := Aside0.mk (Kd.V_below (Kd.V_elderB (by (with_reducible repeat (first | apply Kd.V_alloc | apply Kd.V_drewN | apply Kd.V_drew)); exact HO_0.out) gb392 (Nat.le_of_eq hg.symm)) hb); have n1_ := Aside0.mk (Kd.R_below (by (with_reducible repeat (first | apply Kd.R_alloc | apply Kd.R_drewN | apply Kd.R_drew)); exact HO_8.out) hb); have n2_ := Aside0.mk (Kd.V_below (Kd.V_elderB (by (with_reducible repeat (first | apply Kd.V_alloc | apply Kd.V_drewN | apply Kd.V_drew)); exact HO384.out) gb392 (Nat.le_of_eq hg.symm)) hb); have n3_ := Aside0.mk (Kd.V_below (Kd.V_elderB (by (with_reducible repeat (first | apply Kd.V_alloc | apply Kd.V_drewN | apply Kd.V_drew)); exact HO390.out) gb392 (Nat.le_of_eq hg.symm)) hb); have n4_ := Aside0.mk (below_step (by repeat (with_reducible first | exact HB.out | apply below_alloc | apply pw_below_drewN | apply below_drew1)) hb); have n5_ := Aside0.mk (hbox); have n6_ := Aside0.mk ((by rw [hg]; exact (below_size (by repeat (with_reducible first | exact HB.out | apply below_alloc | apply pw_below_drewN | apply below_drew1))) : w.heap.size ≤ gb392)); have n7_ := Aside0.mk ((by rw [hg]; exact (below_size (by repeat (with_reducible first | exact HB.out | apply below_alloc | apply pw_below_drewN | apply below_drew1))) : w.heap.size ≤ gb392)); clear HO_0; clear HO_8; clear HO384; clear HO390; clear HB; have HO_0 := n0_; have HO_8 := n1_; have HO384 := n2_; have HO390 := n3_; have HB := n4_; have BK392 := n5_; have GW392 := n6_; have GE392 := n7_; clear n0_ n1_ n2_ n3_ n4_ n5_ n6_ n7_; clear hb hbox hg; have hcz28_0 : w27.cell? ⟨gb392, 0, none⟩ = some (.int .i64 0) := (blk_cell BK392.out 0).trans rfl; have hcz28_1 : w27.cell? ⟨gb392, 1, none⟩ = some (.int .i64 0) := (blk_cell BK392.out 1).trans rfl; have hcz28_2 : w27.cell? ⟨gb392, 2, none⟩ = some (.string (⟨#[]⟩ : ByteArray)) := (blk_cell BK392.out 2).trans rfl; have hfz28_0 := blk_frozen BK392.out 0; have hfz28_1 := blk_frozen BK392.out 1; have hfz28_2 := blk_frozen BK392.out 2; obtain ⟨Ao29, co29, eo29⟩ := Kd.R_slice HO_8.out; subst eo29; have p393 : 0 ≤ ((ji21) : Int) := of_decide_eq_true (by first | (with_reducible assumption) | assumption); have q393 : (ji21) < (x8_2.length : Int) := of_decide_eq_true (by first | (with_reducible assumption) | assumption); obtain ⟨ad393, e393, hx393_0, hx393_1, hx393_2, hx393_3⟩ := at_T75 (Kd.R_reads' HO_8.out).2.2 (ji21) p393 q393; cases e393; have hn393_0 : ad393.block ≠ gb392 := Kd.own_blk (Kd.R_ne HO_8.out BK392.out (by decide)); have hn393_1 : ad393.block ≠ gb392 := Kd.own_blk (Kd.R_ne HO_8.out BK392.out (by decide)); have hn393_2 : ad393.block ≠ gb392 := Kd.own_blk (Kd.R_ne HO_8.out BK392.out (by decide)); replace hx393_0 := (cell_far (p := ⟨gb392, 0, none⟩) (by first | (rw [add_block]; exact hn393_0) | (show (Addr.add _ _).block ≠ _; rw [add_block]; exact hn393_0) | exact hn393_0) (.int .i64 t385)).trans hx393_0; replace hx393_1 := (cell_far (p := ⟨gb392, 0, none⟩) (by first | (rw [add_block]; exact hn393_0) | (show (Addr.add _ _).block ≠ _; rw [add_block]; exact hn393_0) | exact hn393_0) (.int .i64 t385)).trans hx393_1; replace hx393_2 := (cell_far (p := ⟨gb392, 0, none⟩) (by first | (rw [add_block]; exact hn393_0) | (show (Addr.add _ _).block ≠ _; rw [add_block]; exact hn393_0) | exact hn393_0) (.int .i64 t385)).trans hx393_2; replace hx393_3 := (cell_far (p := ⟨gb392, 0, none⟩) (by first | (rw [add_block]; exact hn393_0) | (show (Addr.add _ _).block ≠ _; rw [add_block]; exact hn393_0) | exact hn393_0) (.int .i64 t385)).trans hx393_3; replace hx393_0 := (cell_far (p := ⟨gb392, 1, none⟩) (by first | (rw [add_block]; exact hn393_1) | (show (Addr.add _ _).block ≠ _; rw [add_block]; exact hn393_1) | exact hn393_1) (.int .i64 t386)).trans hx393_0; replace hx393_1 := (cell_far (p := ⟨gb392, 1, none⟩) (by first | (rw [add_block]; exact hn393_1) | (show (Addr.add _ _).block ≠ _; rw [add_block]; exact hn393_1) | exact hn393_1) (.int .i64 t386)).trans hx393_1; replace hx393_2 := (cell_far (p := ⟨gb392, 1, none⟩) (by first | (rw [add_block]; exact hn393_1) | (show (Addr.add _ _).block ≠ _; rw [add_block]; exact hn393_1) | exact hn393_1) (.int .i64 t386)).trans hx393_2; replace hx393_3 := (cell_far (p := ⟨gb392, 1, none⟩) (by first | (rw [add_block]; exact hn393_1) | (show (Addr.add _ _).block ≠ _; rw [add_block]; exact hn393_1) | exact hn393_1) (.int .i64 t386)).trans hx393_3; replace hx393_0 := (cell_far (p := ⟨gb392, 2, none⟩) (by first | (rw [add_block]; exact hn393_2) | (show (Addr.add _ _).block ≠ _; rw [add_block]; exact hn393_2) | exact hn393_2) (.string t387)).trans hx393_0; replace hx393_1 := (cell_far (p := ⟨gb392, 2, none⟩) (by first | (rw [add_block]; exact hn393_2) | (show (Addr.add _ _).block ≠ _; rw [add_block]; exact hn393_2) | exact hn393_2) (.string t387)).trans hx393_1; replace hx393_2 := (cell_far (p := ⟨gb392, 2, none⟩) (by first | (rw [add_block]; exact hn393_2) | (show (Addr.add _ _).block ≠ _; rw [add_block]; exact hn393_2) | exact hn393_2) (.string t387)).trans hx393_2; replace hx393_3 := (cell_far (p := ⟨gb392, 2, none⟩) (by first | (rw [add_block]; exact hn393_2) | (show (Addr.add _ _).block ≠ _; rw [add_block]; exact hn393_2) | exact hn393_2) (.string t387)).trans hx393_3; (try have hy393_0 := fun (n_ : Nat) => (show (((((w27.drewN n_).setCell ⟨gb392, 0, none⟩ (.int .i64 t385)).setCell ⟨gb392, 1, none⟩ (.int .i64 t386)).setCell ⟨gb392, 2, none⟩ (.string t387))).cell? _ = some _ from hx393_0)); (try have hy393_1 := fun (n_ : Nat) => (show (((((w27.drewN n_).setCell ⟨gb392, 0, none⟩ (.int .i64 t385)).setCell ⟨gb392, 1, none⟩ (.int .i64 t386)).setCell ⟨gb392, 2, none⟩ (.string t387))).cell? _ = some _ from hx393_1)); (try have hy393_2 := fun (n_ : Nat) => (show (((((w27.drewN n_).setCell ⟨gb392, 0, none⟩ (.int .i64 t385)).setCell ⟨gb392, 1, none⟩ (.int .i64 t386)).setCell ⟨gb392, 2, none⟩ (.string t387))).cell? _ = some _ from hx393_2)); (try have hy393_3 := fun (n_ : Nat) => (show (((((w27.drewN n_).setCell ⟨gb392, 0, none⟩ (.int .i64 t385)).setCell ⟨gb392, 1, none⟩ (.int .i64 t386)).setCell ⟨gb392, 2, none⟩ (.string t387))).cell? _ = some _ from hx393_3)); clear hn393_0; clear hn393_1; clear hn393_2; replace p393 := eq_true p393; replace q393 := eq_true q393)); try go_wp2_with (first | (go_at_call 54; (with_reducible refine (ref05_Of.calls kj11 (fun k_ => ((P0_ k_ ∨ w.heap.size ≤ k_) ∧ some k_ ≠ (u8 : Value).ownBlock)) _ _ y380 a2 t385 t386 t387 t388 t391 _ ?side1 A18.out).mono ?_); (case side1 => exact HO384.out); rintro e w26 ⟨v389, rfl, ho0, hb⟩; have n0_ := Aside0.mk (Kd.V_below (by (with_reducible repeat (first | apply Kd.V_alloc | apply Kd.V_drewN | apply Kd.V_drew)); exact HO_0.out) hb); have n1_ := Aside0.mk (Kd.R_below (by (with_reducible repeat (first | apply Kd.R_alloc | apply Kd.R_drewN | apply Kd.R_drew)); exact HO_8.out) hb); have n2_ := Aside0.mk (Kd.V_below (by (with_reducible repeat (first | apply Kd.V_alloc | apply Kd.V_drewN | apply Kd.V_drew)); exact HO384.out) hb); have n3_ := Aside0.mk (Kd.V_lower (Kd.V_mono (ok' := fun k_ => (P0_ k_ ∨ w.heap.size ≤ k_) ∧ some k_ ≠ (u8 : Value).ownBlock) ho0 (fun k_ hk_ => ⟨Or.elim hk_ (fun hs_ => hs_.1) (fun hn_ => (.inr (Nat.le_trans (below_size (by repeat (with_reducible first | exact HB.out | apply below_alloc | apply pw_below_drewN | apply below_drew1))) hn_))), Or.elim hk_ (fun hs_ => hs_.2) (fun hn_ => (Kd.fresh' (Kd.R_lt (by (with_reducible repeat (first | apply Kd.R_alloc | apply Kd.R_drewN | apply Kd.R_drew)); exact HO_8.out)) k_ hn_))⟩)) (below_size (by repeat (with_reducible first | exact HB.out | apply below_alloc | apply pw_below_drewN | apply below_drew1)))); have n4_ := Aside0.mk (below_step (by repeat (with_reducible first | exact HB.out | apply below_alloc | apply pw_below_drewN | apply below_drew1)) hb); clear HO_0; clear HO_8; clear HO384; clear HB; have HO_0 := n0_; have HO_8 := n1_; have HO384 := n2_; have HO390 := n3_; have HB := n4_; clear n0_ n1_ n2_ n3_ n4_; (try clear hb); (try clear hb2); (try clear hk); (try clear hi); (try clear ho0)) | ((with_reducible refine gate_dst (N := 13) rfl ?_); (try (refine gate_guard (by rfl) ?_; dsimp only)); refine box_event ?hg (N := 13) ?hd (cs := #[.int .i64 0, .int .i64 0, .string (⟨#[]⟩ : ByteArray)]) (t := 32) ?hr ?_; (case hd => rfl); (case hg => rfl); (case hr => first | (go_simp; done) | (go_simp; rfl)); intro gb392 hg w27 hbox hb; have n0_ := Aside0.mk (Kd.V_below (Kd.V_elderB (by (with_reducible repeat (first | apply Kd.V_alloc | apply Kd.V_drewN | apply Kd.V_drew)); exact HO_0.out) gb392 (Nat.le_of_eq hg.symm)) hb); have n1_ := Aside0.mk (Kd.R_below (by (with_reducible repeat (first | apply Kd.R_alloc | apply Kd.R_drewN | apply Kd.R_drew)); exact HO_8.out) hb); have n2_ := Aside0.mk (Kd.V_below (Kd.V_elderB (by (with_reducible repeat (first | apply Kd.V_alloc | apply Kd.V_drewN | apply Kd.V_drew)); exact HO384.out) gb392 (Nat.le_of_eq hg.symm)) hb); have n3_ := Aside0.mk (Kd.V_below (Kd.V_elderB (by (with_reducible repeat (first | apply Kd.V_alloc | apply Kd.V_drewN | apply Kd.V_drew)); exact HO390.out) gb392 (Nat.le_of_eq hg.symm)) hb); have n4_ := Aside0.mk (below_step (by repeat (with_reducible first | exact HB.out | apply below_alloc | apply pw_below_drewN | apply below_drew1)) hb); have n5_ := Aside0.mk (hbox); have n6_ := Aside0.mk ((by rw [hg]; exact (below_size (by repeat (with_reducible first | exact HB.out | apply below_alloc | apply pw_below_drewN | apply below_drew1))) : w.heap.size ≤ gb392)); have n7_ := Aside0.mk ((by rw [hg]; exact (below_size (by repeat (with_reducible first | exact HB.out | apply below_alloc | apply pw_below_drewN | apply below_drew1))) : w.heap.size ≤ gb392)); clear HO_0; clear HO_8; clear HO384; clear HO390; clear HB; have HO_0 := n0_; have HO_8 := n1_; have HO384 := n2_; have HO390 := n3_; have HB := n4_; have BK392 := n5_; have GW392 := n6_; have GE392 := n7_; clear n0_ n1_ n2_ n3_ n4_ n5_ n6_ n7_; clear hb hbox hg; have hcz28_0 : w27.cell? ⟨gb392, 0, none⟩ = some (.int .i64 0) := (blk_cell BK392.out 0).trans rfl; have hcz28_1 : w27.cell? ⟨gb392, 1, none⟩ = some (.int .i64 0) := (blk_cell BK392.out 1).trans rfl; have hcz28_2 : w27.cell? ⟨gb392, 2, none⟩ = some (.string (⟨#[]⟩ : ByteArray)) := (blk_cell BK392.out 2).trans rfl; have hfz28_0 := blk_frozen BK392.out 0; have hfz28_1 := blk_frozen BK392.out 1; have hfz28_2 := blk_frozen BK392.out 2; obtain ⟨Ao29, co29, eo29⟩ := Kd.R_slice HO_8.out; subst eo29; have p393 : 0 ≤ ((ji21) : Int) := of_decide_eq_true (by first | (with_reducible assumption) | assumption); have q393 : (ji21) < (x8_2.length : Int) := of_decide_eq_true (by first | (with_reducible assumption) | assumption); obtain ⟨ad393, e393, hx393_0, hx393_1, hx393_2, hx393_3⟩ := at_T75 (Kd.R_reads' HO_8.out).2.2 (ji21) p393 q393; cases e393; have hn393_0 : ad393.block ≠ gb392 := Kd.own_blk (Kd.R_ne HO_8.out BK392.out (by decide)); have hn393_1 : ad393.block ≠ gb392 := Kd.own_blk (Kd.R_ne HO_8.out BK392.out (by decide)); have hn393_2 : ad393.block ≠ gb392 := Kd.own_blk (Kd.R_ne HO_8.out BK392.out (by decide)); replace hx393_0 := (cell_far (p := ⟨gb392, 0, none⟩) (by first | (rw [add_block]; exact hn393_0) | (show (Addr.add _ _).block ≠ _; rw [add_block]; exact hn393_0) | exact hn393_0) (.int .i64 t385)).trans hx393_0; replace hx393_1 := (cell_far (p := ⟨gb392, 0, none⟩) (by first | (rw [add_block]; exact hn393_0) | (show (Addr.add _ _).block ≠ _; rw [add_block]; exact hn393_0) | exact hn393_0) (.int .i64 t385)).trans hx393_1; replace hx393_2 := (cell_far (p := ⟨gb392, 0, none⟩) (by first | (rw [add_block]; exact hn393_0) | (show (Addr.add _ _).block ≠ _; rw [add_block]; exact hn393_0) | exact hn393_0) (.int .i64 t385)).trans hx393_2; replace hx393_3 := (cell_far (p := ⟨gb392, 0, none⟩) (by first | (rw [add_block]; exact hn393_0) | (show (Addr.add _ _).block ≠ _; rw [add_block]; exact hn393_0) | exact hn393_0) (.int .i64 t385)).trans hx393_3; replace hx393_0 := (cell_far (p := ⟨gb392, 1, none⟩) (by first | (rw [add_block]; exact hn393_1) | (show (Addr.add _ _).block ≠ _; rw [add_block]; exact hn393_1) | exact hn393_1) (.int .i64 t386)).trans hx393_0; replace hx393_1 := (cell_far (p := ⟨gb392, 1, none⟩) (by first | (rw [add_block]; exact hn393_1) | (show (Addr.add _ _).block ≠ _; rw [add_block]; exact hn393_1) | exact hn393_1) (.int .i64 t386)).trans hx393_1; replace hx393_2 := (cell_far (p := ⟨gb392, 1, none⟩) (by first | (rw [add_block]; exact hn393_1) | (show (Addr.add _ _).block ≠ _; rw [add_block]; exact hn393_1) | exact hn393_1) (.int .i64 t386)).trans hx393_2; replace hx393_3 := (cell_far (p := ⟨gb392, 1, none⟩) (by first | (rw [add_block]; exact hn393_1) | (show (Addr.add _ _).block ≠ _; rw [add_block]; exact hn393_1) | exact hn393_1) (.int .i64 t386)).trans hx393_3; replace hx393_0 := (cell_far (p := ⟨gb392, 2, none⟩) (by first | (rw [add_block]; exact hn393_2) | (show (Addr.add _ _).block ≠ _; rw [add_block]; exact hn393_2) | exact hn393_2) (.string t387)).trans hx393_0; replace hx393_1 := (cell_far (p := ⟨gb392, 2, none⟩) (by first | (rw [add_block]; exact hn393_2) | (show (Addr.add _ _).block ≠ _; rw [add_block]; exact hn393_2) | exact hn393_2) (.string t387)).trans hx393_1; replace hx393_2 := (cell_far (p := ⟨gb392, 2, none⟩) (by first | (rw [add_block]; exact hn393_2) | (show (Addr.add _ _).block ≠ _; rw [add_block]; exact hn393_2) | exact hn393_2) (.string t387)).trans hx393_2; replace hx393_3 := (cell_far (p := ⟨gb392, 2, none⟩) (by first | (rw [add_block]; exact hn393_2) | (show (Addr.add _ _).block ≠ _; rw [add_block]; exact hn393_2) | exact hn393_2) (.string t387)).trans hx393_3; (try have hy393_0 := fun (n_ : Nat) => (show (((((w27.drewN n_).setCell ⟨gb392, 0, none⟩ (.int .i64 t385)).setCell ⟨gb392, 1, none⟩ (.int .i64 t386)).setCell ⟨gb392, 2, none⟩ (.string t387))).cell? _ = some _ from hx393_0)); (try have hy393_1 := fun (n_ : Nat) => (show (((((w27.drewN n_).setCell ⟨gb392, 0, none⟩ (.int .i64 t385)).setCell ⟨gb392, 1, none⟩ (.int .i64 t386)).setCell ⟨gb392, 2, none⟩ (.string t387))).cell? _ = some _ from hx393_1)); (try have hy393_2 := fun (n_ : Nat) => (show (((((w27.drewN n_).setCell ⟨gb392, 0, none⟩ (.int .i64 t385)).setCell ⟨gb392, 1, none⟩ (.int .i64 t386)).setCell ⟨gb392, 2, none⟩ (.string t387))).cell? _ = some _ from hx393_2)); (try have hy393_3 := fun (n_ : Nat) => (show (((((w27.drewN n_).setCell ⟨gb392, 0, none⟩ (.int .i64 t385)).setCell ⟨gb392, 1, none⟩ (.int .i64 t386)).setCell ⟨gb392, 2, none⟩ (.string t387))).cell? _ = some _ from hx393_3)); clear hn393_0; clear hn393_1; clear hn393_2; replace p393 := eq_true p393; replace q393 := eq_true q393)))
                   go_ret2
                   exact ⟨_, by first | rfl | (simp [errW_none, errW_some] <;> rfl) | (simp only [← hji21]; first | rfl | (simp [errW_none, errW_some] <;> rfl)) | (simp [*, errW_none, errW_some] <;> rfl), by first | exact Kd.R_nil _ _ _ _ _ | exact Kd.N_nil _ _ _ _ _ | exact Kd.V_nil _ _ _ _ _ | exact Kd.Q_nil _ _ _ _ _ | exact Kd.S_nil _ _ _ _ _, by repeat (first | (with_reducible first | exact HB.out | apply below_alloc | apply pw_below_drewN | apply below_drew1 | refine below_set ?_ GE392.out) | exact HB.out)⟩
                  ·
                   rw [if_neg c24] at H
                   have c24b0 : (((rd_T75 x8_2 (ji21)).f1.f0) == t385 && (((rd_T75 x8_2 (ji21)).f1.f1) == t386 && ((((rd_T75 x8_2 (ji21)).f1.f2).toList) == t387.toList))) = false := by simpa using c24
                   (try (have c24b1 : decide (((rd_T75 x8_2 (ji21)).f1.f0) = t385 && (((rd_T75 x8_2 (ji21)).f1.f1) == t386 && ((((rd_T75 x8_2 (ji21)).f1.f2).toList) == t387.toList))) = false := by simpa using c24))
                   (try (have c24b2 : (((rd_T75 x8_2 (ji21)).f1.f0) == t385 && (((rd_T75 x8_2 (ji21)).f1.f1) == t386 && ((((rd_T75 x8_2 (ji21)).f1.f2).toList) == t387.toList))) = false := by simpa using c24))
                   (try (have c24b3 : ¬ (((rd_T75 x8_2 (ji21)).f1.f0) = t385 && (((rd_T75 x8_2 (ji21)).f1.f1) == t386 && ((((rd_T75 x8_2 (ji21)).f1.f2).toList) == t387.toList))) := by simpa using c24))
                   clear c24
                   by_cases c30 : x8_2.length < 3518437208883
                   ·
                    rw [if_pos c30] at H
                    have LMc30 := Aside0.mk c30
                    clear c30
                    obtain ⟨y394, hy394⟩ : ∃ y_ : List (S75), y_ = (x8_2 ++ [(⟨wrap64 (t377), (⟨t385, t386, t387⟩ : S32)⟩ : S75)]) := ⟨_, rfl⟩
                    replace H : (ref08_ToRuns.l0 kj11 t388 a2 y394 (wrap64 (x9_2 - (wrap64 (t377))))) = some (r1, r2) := by first | (rw [hy394]; with_reducible exact H) | (have H2_ := (Option.bind_some _ _).symm.trans H; rw [hy394]; with_reducible exact H2_) | (have H2_ := (Option.bind_some _ _).symm.trans H; with_reducible exact H2_) | with_reducible exact H | (rw [hy394]; exact H) | exact H
                    have Ny394 := Aside0.mk hy394
                    clear hy394
                    have H' := Aside0.mk H
                    clear H
                    have q31 : (t378 : Int) ≤ ((x0_2.length : Int) : Int) := of_decide_eq_true (by first | (with_reducible assumption) | assumption)
                    obtain ⟨i031, hi031, _, hsz31, _⟩ := info_parts info5
                    have hroom31 : x0_2.length ≤ co13 := (Kd.V_reads' HO_0.out).2.1
                    have hC31 : Kd.F (Kd.int .u8) _ _ Ao13 x0_2.length x0_2 := (Kd.V_at (base := w.heap.size) HO_0.out).2.2
                    have q031 : (0 : Int) ≤ (t378 : Int) := of_decide_eq_true (by first | (with_reducible assumption) | assumption)
                    have hcut31 := cut_from (P := Try.prog) 25 5 .i64 Try.underlying25 hi031 1 hsz31 Ao13 x0_2.length co13 t378 q031 q31
                    have hr31 := Kd.F_cut (m := (t378 : Int).toNat) (c := co13) hC31 (by omega) hroom31
                    obtain ⟨A31, hA31⟩ : ∃ A1, A1 = (if co13 = (t378 : Int).toNat then Ao13 else (Ao13 : Option Addr).map (·.add ((t378 : Int).toNat * 1))) := ⟨_, rfl⟩
                    obtain ⟨c31, hc31⟩ : ∃ c1, c1 = co13 - (t378 : Int).toNat := ⟨_, rfl⟩
                    have hy31 : y380.length = x0_2.length - (t378 : Int).toNat := (by rw [Ny380.out, List.length_drop] <;> omega)
                    rw [show (x0_2).drop (t378 : Int).toNat = y380 from Ny380.out.symm] at hr31
                    replace hr31 : Kd.F (Kd.int .u8) _ _ A31 y380.length y380 := (by rw [hA31]; exact hr31)
                    rw [← hy31, ← hA31, ← hc31] at hcut31
                    have HO384 := Aside0.mk (show Kd.V (Kd.int .u8) 5 _ w.heap.size _ (.slice A31 y380.length c31) y380 from Kd.V_mk (by rw [hy31, hc31]; exact Nat.sub_le_sub_right hroom31 _) hr31)
                    have HC384 := Aside0.mk (show y380.length ≤ c31 from by rw [hy31, hc31]; exact Nat.sub_le_sub_right hroom31 _)
                    clear hr31 hC31 hroom31 hi031 hsz31 hc31
                    have KY31 := Aside0.mk hy31
                    have KA31 := Aside0.mk hA31
                    clear hy31 hA31
                    replace q31 := eq_true q31
                    go_wp2_with (first | (go_at_call 54; (with_reducible refine (ref05_Of.calls kj11 (fun k_ => ((P0_ k_ ∨ w.heap.size ≤ k_) ∧ some k_ ≠ (u8 : Value).ownBlock)) _ _ y380 a2 t385 t386 t387 t388 t391 _ ?side1 A18.out).mono ?_); (case side1 => exact HO384.out); rintro e w32 ⟨v389, rfl, ho0, hb⟩; have n0_ := Aside0.mk (Kd.V_below (by (with_reducible repeat (first | apply Kd.V_alloc | apply Kd.V_drewN | apply Kd.V_drew)); exact HO_0.out) hb); have n1_ := Aside0.mk (Kd.R_below (by (with_reducible repeat (first | apply Kd.R_alloc | apply Kd.R_drewN | apply Kd.R_drew)); exact HO_8.out) hb); have n2_ := Aside0.mk (Kd.V_below (by (with_reducible repeat (first | apply Kd.V_alloc | apply Kd.V_drewN | apply Kd.V_drew)); exact HO384.out) hb); have n3_ := Aside0.mk (Kd.V_lower (Kd.V_mono (ok' := fun k_ => (P0_ k_ ∨ w.heap.size ≤ k_) ∧ some k_ ≠ (u8 : Value).ownBlock) ho0 (fun k_ hk_ => ⟨Or.elim hk_ (fun hs_ => hs_.1) (fun hn_ => (.inr (Nat.le_trans (below_size (by repeat (with_reducible first | exact HB.out | apply below_alloc | apply pw_below_drewN | apply below_drew1))) hn_))), Or.elim hk_ (fun hs_ => hs_.2) (fun hn_ => (Kd.fresh' (Kd.R_lt (by (with_reducible repeat (first | apply Kd.R_alloc | apply Kd.R_drewN | apply Kd.R_drew)); exact HO_8.out)) k_ hn_))⟩)) (below_size (by repeat (with_reducible first | exact HB.out | apply below_alloc | apply pw_below_drewN | apply below_drew1)))); have n4_ := Aside0.mk (below_step (by repeat (with_reducible first | exact HB.out | apply below_alloc | apply pw_below_drewN | apply below_drew1)) hb); clear HO_0; clear HO_8; clear HO384; clear HB; have HO_0 := n0_; have HO_8 := n1_; have HO384 := n2_; have HO390 := n3_; have HB := n4_; clear n0_ n1_ n2_ n3_ n4_; (try clear hb); (try clear hb2); (try clear hk); (try clear hi); (try clear ho0)) | ((with_reducible refine gate_dst (N := 13) rfl ?_); (try (refine gate_guard (by rfl) ?_; dsimp only)); refine box_event ?hg (N := 13) ?hd (cs := #[.int .i64 0, .int .i64 0, .string (⟨#[]⟩ : ByteArray)]) (t := 32) ?hr ?_; (case hd => rfl); (case hg => rfl); (case hr => first | (go_simp; done) | (go_simp; rfl)); intro gb392 hg w33 hbox hb; have n0_ := Aside0.mk (Kd.V_below (Kd.V_elderB (by (with_reducible repeat (first | apply Kd.V_alloc | apply Kd.V_drewN | apply Kd.V_drew)); exact HO_0.out) gb392 (Nat.le_of_eq hg.symm)) hb); have n1_ := Aside0.mk (Kd.R_below (by (with_reducible repeat (first | apply Kd.R_alloc | apply Kd.R_drewN | apply Kd.R_drew)); exact HO_8.out) hb); have n2_ := Aside0.mk (Kd.V_below (Kd.V_elderB (by (with_reducible repeat (first | apply Kd.V_alloc | apply Kd.V_drewN | apply Kd.V_drew)); exact HO384.out) gb392 (Nat.le_of_eq hg.symm)) hb); have n3_ := Aside0.mk (Kd.V_below (Kd.V_elderB (by (with_reducible repeat (first | apply Kd.V_alloc | apply Kd.V_drewN | apply Kd.V_drew)); exact HO390.out) gb392 (Nat.le_of_eq hg.symm)) hb); have n4_ := Aside0.mk (below_step (by repeat (with_reducible first | exact HB.out | apply below_alloc | apply pw_below_drewN | apply below_drew1)) hb); have n5_ := Aside0.mk (hbox); have n6_ := Aside0.mk ((by rw [hg]; exact (below_size (by repeat (with_reducible first | exact HB.out | apply below_alloc | apply pw_below_drewN | apply below_drew1))) : w.heap.size ≤ gb392)); have n7_ := Aside0.mk ((by rw [hg]; exact (below_size (by repeat (with_reducible first | exact HB.out | apply below_alloc | apply pw_below_drewN | apply below_drew1))) : w.heap.size ≤ gb392)); clear HO_0; clear HO_8; clear HO384; clear HO390; clear HB; have HO_0 := n0_; have HO_8 := n1_; have HO384 := n2_; have HO390 := n3_; have HB := n4_; have BK392 := n5_; have GW392 := n6_; have GE392 := n7_; clear n0_ n1_ n2_ n3_ n4_ n5_ n6_ n7_; clear hb hbox hg; have hcz34_0 : w33.cell? ⟨gb392, 0, none⟩ = some (.int .i64 0) := (blk_cell BK392.out 0).trans rfl; have hcz34_1 : w33.cell? ⟨gb392, 1, none⟩ = some (.int .i64 0) := (blk_cell BK392.out 1).trans rfl; have hcz34_2 : w33.cell? ⟨gb392, 2, none⟩ = some (.string (⟨#[]⟩ : ByteArray)) := (blk_cell BK392.out 2).trans rfl; have hfz34_0 := blk_frozen BK392.out 0; have hfz34_1 := blk_frozen BK392.out 1; have hfz34_2 := blk_frozen BK392.out 2; obtain ⟨Ao35, co35, eo35⟩ := Kd.R_slice HO_8.out; subst eo35; have p393 : 0 ≤ ((ji21) : Int) := of_decide_eq_true (by first | (with_reducible assumption) | assumption); have q393 : (ji21) < (x8_2.length : Int) := of_decide_eq_true (by first | (with_reducible assumption) | assumption); obtain ⟨ad393, e393, hx393_0, hx393_1, hx393_2, hx393_3⟩ := at_T75 (Kd.R_reads' HO_8.out).2.2 (ji21) p393 q393; cases e393; have hn393_0 : ad393.block ≠ gb392 := Kd.own_blk (Kd.R_ne HO_8.out BK392.out (by decide)); have hn393_1 : ad393.block ≠ gb392 := Kd.own_blk (Kd.R_ne HO_8.out BK392.out (by decide)); have hn393_2 : ad393.block ≠ gb392 := Kd.own_blk (Kd.R_ne HO_8.out BK392.out (by decide)); replace hx393_0 := (cell_far (p := ⟨gb392, 0, none⟩) (by first | (rw [add_block]; exact hn393_0) | (show (Addr.add _ _).block ≠ _; rw [add_block]; exact hn393_0) | exact hn393_0) (.int .i64 t385)).trans hx393_0; replace hx393_1 := (cell_far (p := ⟨gb392, 0, none⟩) (by first | (rw [add_block]; exact hn393_0) | (show (Addr.add _ _).block ≠ _; rw [add_block]; exact hn393_0) | exact hn393_0) (.int .i64 t385)).trans hx393_1; replace hx393_2 := (cell_far (p := ⟨gb392, 0, none⟩) (by first | (rw [add_block]; exact hn393_0) | (show (Addr.add _ _).block ≠ _; rw [add_block]; exact hn393_0) | exact hn393_0) (.int .i64 t385)).trans hx393_2; replace hx393_3 := (cell_far (p := ⟨gb392, 0, none⟩) (by first | (rw [add_block]; exact hn393_0) | (show (Addr.add _ _).block ≠ _; rw [add_block]; exact hn393_0) | exact hn393_0) (.int .i64 t385)).trans hx393_3; replace hx393_0 := (cell_far (p := ⟨gb392, 1, none⟩) (by first | (rw [add_block]; exact hn393_1) | (show (Addr.add _ _).block ≠ _; rw [add_block]; exact hn393_1) | exact hn393_1) (.int .i64 t386)).trans hx393_0; replace hx393_1 := (cell_far (p := ⟨gb392, 1, none⟩) (by first | (rw [add_block]; exact hn393_1) | (show (Addr.add _ _).block ≠ _; rw [add_block]; exact hn393_1) | exact hn393_1) (.int .i64 t386)).trans hx393_1; replace hx393_2 := (cell_far (p := ⟨gb392, 1, none⟩) (by first | (rw [add_block]; exact hn393_1) | (show (Addr.add _ _).block ≠ _; rw [add_block]; exact hn393_1) | exact hn393_1) (.int .i64 t386)).trans hx393_2; replace hx393_3 := (cell_far (p := ⟨gb392, 1, none⟩) (by first | (rw [add_block]; exact hn393_1) | (show (Addr.add _ _).block ≠ _; rw [add_block]; exact hn393_1) | exact hn393_1) (.int .i64 t386)).trans hx393_3; replace hx393_0 := (cell_far (p := ⟨gb392, 2, none⟩) (by first | (rw [add_block]; exact hn393_2) | (show (Addr.add _ _).block ≠ _; rw [add_block]; exact hn393_2) | exact hn393_2) (.string t387)).trans hx393_0; replace hx393_1 := (cell_far (p := ⟨gb392, 2, none⟩) (by first | (rw [add_block]; exact hn393_2) | (show (Addr.add _ _).block ≠ _; rw [add_block]; exact hn393_2) | exact hn393_2) (.string t387)).trans hx393_1; replace hx393_2 := (cell_far (p := ⟨gb392, 2, none⟩) (by first | (rw [add_block]; exact hn393_2) | (show (Addr.add _ _).block ≠ _; rw [add_block]; exact hn393_2) | exact hn393_2) (.string t387)).trans hx393_2; replace hx393_3 := (cell_far (p := ⟨gb392, 2, none⟩) (by first | (rw [add_block]; exact hn393_2) | (show (Addr.add _ _).block ≠ _; rw [add_block]; exact hn393_2) | exact hn393_2) (.string t387)).trans hx393_3; (try have hy393_0 := fun (n_ : Nat) => (show (((((w33.drewN n_).setCell ⟨gb392, 0, none⟩ (.int .i64 t385)).setCell ⟨gb392, 1, none⟩ (.int .i64 t386)).setCell ⟨gb392, 2, none⟩ (.string t387))).cell? _ = some _ from hx393_0)); (try have hy393_1 := fun (n_ : Nat) => (show (((((w33.drewN n_).setCell ⟨gb392, 0, none⟩ (.int .i64 t385)).setCell ⟨gb392, 1, none⟩ (.int .i64 t386)).setCell ⟨gb392, 2, none⟩ (.string t387))).cell? _ = some _ from hx393_1)); (try have hy393_2 := fun (n_ : Nat) => (show (((((w33.drewN n_).setCell ⟨gb392, 0, none⟩ (.int .i64 t385)).setCell ⟨gb392, 1, none⟩ (.int .i64 t386)).setCell ⟨gb392, 2, none⟩ (.string t387))).cell? _ = some _ from hx393_2)); (try have hy393_3 := fun (n_ : Nat) => (show (((((w33.drewN n_).setCell ⟨gb392, 0, none⟩ (.int .i64 t385)).setCell ⟨gb392, 1, none⟩ (.int .i64 t386)).setCell ⟨gb392, 2, none⟩ (.string t387))).cell? _ = some _ from hx393_3)); clear hn393_0; clear hn393_1; clear hn393_2; replace p393 := eq_true p393; replace q393 := eq_true q393) | ((with_reducible refine gate_builtin (b := .append) (xs := #[.tmp 71, .tmp 76]) rfl ?_); (try (refine gate_guard (by rfl) ?_; dsimp only)); at_builtin; refine Kd.R_append k75 (w0 := w) w.heap.size rfl (.tmp 71) (.tmp 76) 54 75 (.agg #[(.int .i64 0), (.int .i64 0), (.int .i64 0), (.string ⟨#[]⟩)]) 40 rfl Try.underlying54 info75 rfl (by decide) (by omega) (.slice (some ad393) x8_2.length co35) x8_2 (⟨wrap64 (t377), (⟨t385, t386, t387⟩ : S32)⟩ : S75) [.int .i64 (wrap64 (t377)), .int .i64 t385, .int .i64 t386, .string t387] (fun k_ => (w.heap.size ≤ k_)) (fun _ => False) rfl (by first | (go_simp; done) | (go_simp; rfl)) ?aP (fun _ hk => hk.elim) ?aF ?aO ?aB ?aS ?aL ?_; (case aP => exact k75_mkM _ _ _ (⟨wrap64 (t377), (⟨t385, t386, t387⟩ : S32)⟩ : S75)); (case aB => exact (by repeat (first | (with_reducible first | exact HB.out | apply below_alloc | apply pw_below_drewN | apply below_drew1 | refine below_set ?_ GE392.out) | exact HB.out))); (case aF => exact (fun k_ hk => (Nat.le_trans (below_size (by repeat (first | (with_reducible first | exact HB.out | apply below_alloc | apply pw_below_drewN | apply below_drew1 | refine below_set ?_ GE392.out) | exact HB.out))) hk))); (case aO => exact (by (with_reducible repeat (first | apply Kd.R_alloc | apply Kd.R_drewN | apply Kd.R_drew)); exact Kd.R_mono (Kd.R_far (p := ⟨gb392, 2, none⟩) (Kd.R_far (p := ⟨gb392, 1, none⟩) (Kd.R_far (p := ⟨gb392, 0, none⟩) (Kd.R_types HO_8.out BK392.out (by decide)) (fun _ hk => hk.2) (.int .i64 t385)) (fun _ hk => hk.2) (.int .i64 t386)) (fun _ hk => hk.2) (.string t387)) (fun _ hk => hk.1))); (case aS => exact (below_size (by repeat (first | (with_reducible first | exact HB.out | apply below_alloc | apply pw_below_drewN | apply below_drew1 | refine below_set ?_ GE392.out) | exact HB.out)))); (case aL => have := LMc30.out; omega); intro v395 w36 ho hb hg hat; rw [← Ny394.out] at ho; have n0_ := Aside0.mk (Kd.V_afterv (ok := (fun k_ => (P0_ k_ ∨ w.heap.size ≤ k_) ∧ k_ ≠ gb392)) (by (with_reducible repeat (first | apply Kd.V_alloc | apply Kd.V_drewN | apply Kd.V_drew)); exact Kd.V_mono (Kd.V_far (p := ⟨gb392, 2, none⟩) (Kd.V_far (p := ⟨gb392, 1, none⟩) (Kd.V_far (p := ⟨gb392, 0, none⟩) (Kd.V_mono HO_0.out (fun k_ hk => (⟨hk, hk.2⟩ : _ ∧ k_ ≠ gb392))) (fun _ hk => hk.2) (.int .i64 t385)) (fun _ hk => hk.2) (.int .i64 t386)) (fun _ hk => hk.2) (.string t387)) (fun _ hk => ⟨⟨hk.1.1.1, hk.1.2⟩, hk.1.1.2⟩)) hg hat); have n1_ := Aside0.mk (Kd.V_afterv (ok := (fun k_ => (P0_ k_ ∨ w.heap.size ≤ k_) ∧ k_ ≠ gb392)) (by (with_reducible repeat (first | apply Kd.V_alloc | apply Kd.V_drewN | apply Kd.V_drew)); exact Kd.V_mono (Kd.V_far (p := ⟨gb392, 2, none⟩) (Kd.V_far (p := ⟨gb392, 1, none⟩) (Kd.V_far (p := ⟨gb392, 0, none⟩) (Kd.V_mono HO384.out (fun k_ hk => (⟨hk, hk.2⟩ : _ ∧ k_ ≠ gb392))) (fun _ hk => hk.2) (.int .i64 t385)) (fun _ hk => hk.2) (.int .i64 t386)) (fun _ hk => hk.2) (.string t387)) (fun _ hk => ⟨⟨hk.1.1.1, hk.1.2⟩, hk.1.1.2⟩)) hg hat); have n2_ := Aside0.mk (Kd.V_afterv (ok := (fun k_ => (P0_ k_ ∨ w.heap.size ≤ k_) ∧ k_ ≠ gb392)) (by (with_reducible repeat (first | apply Kd.V_alloc | apply Kd.V_drewN | apply Kd.V_drew)); exact Kd.V_mono (Kd.V_far (p := ⟨gb392, 2, none⟩) (Kd.V_far (p := ⟨gb392, 1, none⟩) (Kd.V_far (p := ⟨gb392, 0, none⟩) (Kd.V_mono HO390.out (fun k_ hk => (⟨hk, hk.2⟩ : _ ∧ k_ ≠ gb392))) (fun _ hk => hk.2) (.int .i64 t385)) (fun _ hk => hk.2) (.int .i64 t386)) (fun _ hk => hk.2) (.string t387)) (fun _ hk => ⟨⟨hk.1.1.1, hk.1.2⟩, hk.1.1.2⟩)) hg hat); have n3_ := Aside0.mk (blk_grown (g := gb392) (o := .cells #[.int .i64 t385, .int .i64 t386, .string t387] 32 (0, 0)) (by (with_reducible repeat first | refine blk_drewN ?_ _ | refine blk_drew ?_ | refine blk_alloc ?_ _); refine blk_put (cs := #[.int .i64 t385, .int .i64 t386, .string (⟨#[]⟩ : ByteArray)]) ?_ 2 _ rfl; (with_reducible repeat first | refine blk_drewN ?_ _ | refine blk_drew ?_ | refine blk_alloc ?_ _); refine blk_put (cs := #[.int .i64 t385, .int .i64 0, .string (⟨#[]⟩ : ByteArray)]) ?_ 1 _ rfl; (with_reducible repeat first | refine blk_drewN ?_ _ | refine blk_drew ?_ | refine blk_alloc ?_ _); refine blk_put (cs := #[.int .i64 0, .int .i64 0, .string (⟨#[]⟩ : ByteArray)]) ?_ 0 _ rfl; (with_reducible repeat first | refine blk_drewN ?_ _ | refine blk_drew ?_ | refine blk_alloc ?_ _); exact BK392.out) hg (Kd.R_ne HO_8.out BK392.out (by decide))); have n4_ := Aside0.mk (hb); have n5_ := Aside0.mk (ho); clear HO_0; clear HO384; clear HO390; clear BK392; clear HB; clear HO_8; have HO_0 := n0_; have HO384 := n1_; have HO390 := n2_; have BK392 := n3_; have HB := n4_; have HO396 := n5_; clear n0_ n1_ n2_ n3_ n4_ n5_; clear ho hb hg hat))
                    repeat (go_quiet (first | (go_at_call 54; (with_reducible refine (ref05_Of.calls kj11 (fun k_ => ((P0_ k_ ∨ w.heap.size ≤ k_) ∧ some k_ ≠ (u8 : Value).ownBlock)) _ _ y380 a2 t385 t386 t387 t388 t391 _ ?side1 A18.out).mono ?_); (case side1 => exact HO384.out); rintro e w32 ⟨v389, rfl, ho0, hb⟩; have n0_ := Aside0.mk (Kd.V_below (by (with_reducible repeat (first | apply Kd.V_alloc | apply Kd.V_drewN | apply Kd.V_drew)); exact HO_0.out) hb); have n1_ := Aside0.mk (Kd.R_below (by (with_reducible repeat (first | apply Kd.R_alloc | apply Kd.R_drewN | apply Kd.R_drew)); exact HO_8.out) hb); have n2_ := Aside0.mk (Kd.V_below (by (with_reducible repeat (first | apply Kd.V_alloc | apply Kd.V_drewN | apply Kd.V_drew)); exact HO384.out) hb); have n3_ := Aside0.mk (Kd.V_lower (Kd.V_mono (ok' := fun k_ => (P0_ k_ ∨ w.heap.size ≤ k_) ∧ some k_ ≠ (u8 : Value).ownBlock) ho0 (fun k_ hk_ => ⟨Or.elim hk_ (fun hs_ => hs_.1) (fun hn_ => (.inr (Nat.le_trans (below_size (by repeat (with_reducible first | exact HB.out | apply below_alloc | apply pw_below_drewN | apply below_drew1))) hn_))), Or.elim hk_ (fun hs_ => hs_.2) (fun hn_ => (Kd.fresh' (Kd.R_lt (by (with_reducible repeat (first | apply Kd.R_alloc | apply Kd.R_drewN | apply Kd.R_drew)); exact HO_8.out)) k_ hn_))⟩)) (below_size (by repeat (with_reducible first | exact HB.out | apply below_alloc | apply pw_below_drewN | apply below_drew1)))); have n4_ := Aside0.mk (below_step (by repeat (with_reducible first | exact HB.out | apply below_alloc | apply pw_below_drewN | apply below_drew1)) hb); clear HO_0; clear HO_8; clear HO384; clear HB; have HO_0 := n0_; have HO_8 := n1_; have HO384 := n2_; have HO390 := n3_; have HB := n4_; clear n0_ n1_ n2_ n3_ n4_; (try clear hb); (try clear hb2); (try clear hk); (try clear hi); (try clear ho0)) | ((with_reducible refine gate_dst (N := 13) rfl ?_); (try (refine gate_guard (by rfl) ?_; dsimp only)); refine box_event ?hg (N := 13) ?hd (cs := #[.int .i64 0, .int .i64 0, .string (⟨#[]⟩ : ByteArray)]) (t := 32) ?hr ?_; (case hd => rfl); (case hg => rfl); (case hr => first | (go_simp; done) | (go_simp; rfl)); intro gb392 hg w33 hbox hb; have n0_ := Aside0.mk (Kd.V_below (Kd.V_elderB (by (with_reducible repeat (first | apply Kd.V_alloc | apply Kd.V_drewN | apply Kd.V_drew)); exact HO_0.out) gb392 (Nat.le_of_eq hg.symm)) hb); have n1_ := Aside0.mk (Kd.R_below (by (with_reducible repeat (first | apply Kd.R_alloc | apply Kd.R_drewN | apply Kd.R_drew)); exact HO_8.out) hb); have n2_ := Aside0.mk (Kd.V_below (Kd.V_elderB (by (with_reducible repeat (first | apply Kd.V_alloc | apply Kd.V_drewN | apply Kd.V_drew)); exact HO384.out) gb392 (Nat.le_of_eq hg.symm)) hb); have n3_ := Aside0.mk (Kd.V_below (Kd.V_elderB (by (with_reducible repeat (first | apply Kd.V_alloc | apply Kd.V_drewN | apply Kd.V_drew)); exact HO390.out) gb392 (Nat.le_of_eq hg.symm)) hb); have n4_ := Aside0.mk (below_step (by repeat (with_reducible first | exact HB.out | apply below_alloc | apply pw_below_drewN | apply below_drew1)) hb); have n5_ := Aside0.mk (hbox); have n6_ := Aside0.mk ((by rw [hg]; exact (below_size (by repeat (with_reducible first | exact HB.out | apply below_alloc | apply pw_below_drewN | apply below_drew1))) : w.heap.size ≤ gb392)); have n7_ := Aside0.mk ((by rw [hg]; exact (below_size (by repeat (with_reducible first | exact HB.out | apply below_alloc | apply pw_below_drewN | apply below_drew1))) : w.heap.size ≤ gb392)); clear HO_0; clear HO_8; clear HO384; clear HO390; clear HB; have HO_0 := n0_; have HO_8 := n1_; have HO384 := n2_; have HO390 := n3_; have HB := n4_; have BK392 := n5_; have GW392 := n6_; have GE392 := n7_; clear n0_ n1_ n2_ n3_ n4_ n5_ n6_ n7_; clear hb hbox hg; have hcz34_0 : w33.cell? ⟨gb392, 0, none⟩ = some (.int .i64 0) := (blk_cell BK392.out 0).trans rfl; have hcz34_1 : w33.cell? ⟨gb392, 1, none⟩ = some (.int .i64 0) := (blk_cell BK392.out 1).trans rfl; have hcz34_2 : w33.cell? ⟨gb392, 2, none⟩ = some (.string (⟨#[]⟩ : ByteArray)) := (blk_cell BK392.out 2).trans rfl; have hfz34_0 := blk_frozen BK392.out 0; have hfz34_1 := blk_frozen BK392.out 1; have hfz34_2 := blk_frozen BK392.out 2; obtain ⟨Ao35, co35, eo35⟩ := Kd.R_slice HO_8.out; subst eo35; have p393 : 0 ≤ ((ji21) : Int) := of_decide_eq_true (by first | (with_reducible assumption) | assumption); have q393 : (ji21) < (x8_2.length : Int) := of_decide_eq_true (by first | (with_reducible assumption) | assumption); obtain ⟨ad393, e393, hx393_0, hx393_1, hx393_2, hx393_3⟩ := at_T75 (Kd.R_reads' HO_8.out).2.2 (ji21) p393 q393; cases e393; have hn393_0 : ad393.block ≠ gb392 := Kd.own_blk (Kd.R_ne HO_8.out BK392.out (by decide)); have hn393_1 : ad393.block ≠ gb392 := Kd.own_blk (Kd.R_ne HO_8.out BK392.out (by decide)); have hn393_2 : ad393.block ≠ gb392 := Kd.own_blk (Kd.R_ne HO_8.out BK392.out (by decide)); replace hx393_0 := (cell_far (p := ⟨gb392, 0, none⟩) (by first | (rw [add_block]; exact hn393_0) | (show (Addr.add _ _).block ≠ _; rw [add_block]; exact hn393_0) | exact hn393_0) (.int .i64 t385)).trans hx393_0; replace hx393_1 := (cell_far (p := ⟨gb392, 0, none⟩) (by first | (rw [add_block]; exact hn393_0) | (show (Addr.add _ _).block ≠ _; rw [add_block]; exact hn393_0) | exact hn393_0) (.int .i64 t385)).trans hx393_1; replace hx393_2 := (cell_far (p := ⟨gb392, 0, none⟩) (by first | (rw [add_block]; exact hn393_0) | (show (Addr.add _ _).block ≠ _; rw [add_block]; exact hn393_0) | exact hn393_0) (.int .i64 t385)).trans hx393_2; replace hx393_3 := (cell_far (p := ⟨gb392, 0, none⟩) (by first | (rw [add_block]; exact hn393_0) | (show (Addr.add _ _).block ≠ _; rw [add_block]; exact hn393_0) | exact hn393_0) (.int .i64 t385)).trans hx393_3; replace hx393_0 := (cell_far (p := ⟨gb392, 1, none⟩) (by first | (rw [add_block]; exact hn393_1) | (show (Addr.add _ _).block ≠ _; rw [add_block]; exact hn393_1) | exact hn393_1) (.int .i64 t386)).trans hx393_0; replace hx393_1 := (cell_far (p := ⟨gb392, 1, none⟩) (by first | (rw [add_block]; exact hn393_1) | (show (Addr.add _ _).block ≠ _; rw [add_block]; exact hn393_1) | exact hn393_1) (.int .i64 t386)).trans hx393_1; replace hx393_2 := (cell_far (p := ⟨gb392, 1, none⟩) (by first | (rw [add_block]; exact hn393_1) | (show (Addr.add _ _).block ≠ _; rw [add_block]; exact hn393_1) | exact hn393_1) (.int .i64 t386)).trans hx393_2; replace hx393_3 := (cell_far (p := ⟨gb392, 1, none⟩) (by first | (rw [add_block]; exact hn393_1) | (show (Addr.add _ _).block ≠ _; rw [add_block]; exact hn393_1) | exact hn393_1) (.int .i64 t386)).trans hx393_3; replace hx393_0 := (cell_far (p := ⟨gb392, 2, none⟩) (by first | (rw [add_block]; exact hn393_2) | (show (Addr.add _ _).block ≠ _; rw [add_block]; exact hn393_2) | exact hn393_2) (.string t387)).trans hx393_0; replace hx393_1 := (cell_far (p := ⟨gb392, 2, none⟩) (by first | (rw [add_block]; exact hn393_2) | (show (Addr.add _ _).block ≠ _; rw [add_block]; exact hn393_2) | exact hn393_2) (.string t387)).trans hx393_1; replace hx393_2 := (cell_far (p := ⟨gb392, 2, none⟩) (by first | (rw [add_block]; exact hn393_2) | (show (Addr.add _ _).block ≠ _; rw [add_block]; exact hn393_2) | exact hn393_2) (.string t387)).trans hx393_2; replace hx393_3 := (cell_far (p := ⟨gb392, 2, none⟩) (by first | (rw [add_block]; exact hn393_2) | (show (Addr.add _ _).block ≠ _; rw [add_block]; exact hn393_2) | exact hn393_2) (.string t387)).trans hx393_3; (try have hy393_0 := fun (n_ : Nat) => (show (((((w33.drewN n_).setCell ⟨gb392, 0, none⟩ (.int .i64 t385)).setCell ⟨gb392, 1, none⟩ (.int .i64 t386)).setCell ⟨gb392, 2, none⟩ (.string t387))).cell? _ = some _ from hx393_0)); (try have hy393_1 := fun (n_ : Nat) => (show (((((w33.drewN n_).setCell ⟨gb392, 0, none⟩ (.int .i64 t385)).setCell ⟨gb392, 1, none⟩ (.int .i64 t386)).setCell ⟨gb392, 2, none⟩ (.string t387))).cell? _ = some _ from hx393_1)); (try have hy393_2 := fun (n_ : Nat) => (show (((((w33.drewN n_).setCell ⟨gb392, 0, none⟩ (.int .i64 t385)).setCell ⟨gb392, 1, none⟩ (.int .i64 t386)).setCell ⟨gb392, 2, none⟩ (.string t387))).cell? _ = some _ from hx393_2)); (try have hy393_3 := fun (n_ : Nat) => (show (((((w33.drewN n_).setCell ⟨gb392, 0, none⟩ (.int .i64 t385)).setCell ⟨gb392, 1, none⟩ (.int .i64 t386)).setCell ⟨gb392, 2, none⟩ (.string t387))).cell? _ = some _ from hx393_3)); clear hn393_0; clear hn393_1; clear hn393_2; replace p393 := eq_true p393; replace q393 := eq_true q393) | ((with_reducible refine gate_builtin (b := .append) (xs := #[.tmp 71, .tmp 76]) rfl ?_); (try (refine gate_guard (by rfl) ?_; dsimp only)); at_builtin; refine Kd.R_append k75 (w0 := w) w.heap.size rfl (.tmp 71) (.tmp 76) 54 75 (.agg #[(.int .i64 0), (.int .i64 0), (.int .i64 0), (.string ⟨#[]⟩)]) 40 rfl Try.underlying54 info75 rfl (by decide) (by omega) (.slice (some ad393) x8_2.length co35) x8_2 (⟨wrap64 (t377), (⟨t385, t386, t387⟩ : S32)⟩ : S75) [.int .i64 (wrap64 (t377)), .int .i64 t385, .int .i64 t386, .string t387] (fun k_ => (w.heap.size ≤ k_)) (fun _ => False) rfl (by first | (go_simp; done) | (go_simp; rfl)) ?aP (fun _ hk => hk.elim) ?aF ?aO ?aB ?aS ?aL ?_; (case aP => exact k75_mkM _ _ _ (⟨wrap64 (t377), (⟨t385, t386, t387⟩ : S32)⟩ : S75)); (case aB => exact (by repeat (first | (with_reducible first | exact HB.out | apply below_alloc | apply pw_below_drewN | apply below_drew1 | refine below_set ?_ GE392.out) | exact HB.out))); (case aF => exact (fun k_ hk => (Nat.le_trans (below_size (by repeat (first | (with_reducible first | exact HB.out | apply below_alloc | apply pw_below_drewN | apply below_drew1 | refine below_set ?_ GE392.out) | exact HB.out))) hk))); (case aO => exact (by (with_reducible repeat (first | apply Kd.R_alloc | apply Kd.R_drewN | apply Kd.R_drew)); exact Kd.R_mono (Kd.R_far (p := ⟨gb392, 2, none⟩) (Kd.R_far (p := ⟨gb392, 1, none⟩) (Kd.R_far (p := ⟨gb392, 0, none⟩) (Kd.R_types HO_8.out BK392.out (by decide)) (fun _ hk => hk.2) (.int .i64 t385)) (fun _ hk => hk.2) (.int .i64 t386)) (fun _ hk => hk.2) (.string t387)) (fun _ hk => hk.1))); (case aS => exact (below_size (by repeat (first | (with_reducible first | exact HB.out | apply below_alloc | apply pw_below_drewN | apply below_drew1 | refine below_set ?_ GE392.out) | exact HB.out)))); (case aL => have := LMc30.out; omega); intro v395 w36 ho hb hg hat; rw [← Ny394.out] at ho; have n0_ := Aside0.mk (Kd.V_afterv (ok := (fun k_ => (P0_ k_ ∨ w.heap.size ≤ k_) ∧ k_ ≠ gb392)) (by (with_reducible repeat (first | apply Kd.V_alloc | apply Kd.V_drewN | apply Kd.V_drew)); exact Kd.V_mono (Kd.V_far (p := ⟨gb392, 2, none⟩) (Kd.V_far (p := ⟨gb392, 1, none⟩) (Kd.V_far (p := ⟨gb392, 0, none⟩) (Kd.V_mono HO_0.out (fun k_ hk => (⟨hk, hk.2⟩ : _ ∧ k_ ≠ gb392))) (fun _ hk => hk.2) (.int .i64 t385)) (fun _ hk => hk.2) (.int .i64 t386)) (fun _ hk => hk.2) (.string t387)) (fun _ hk => ⟨⟨hk.1.1.1, hk.1.2⟩, hk.1.1.2⟩)) hg hat); have n1_ := Aside0.mk (Kd.V_afterv (ok := (fun k_ => (P0_ k_ ∨ w.heap.size ≤ k_) ∧ k_ ≠ gb392)) (by (with_reducible repeat (first | apply Kd.V_alloc | apply Kd.V_drewN | apply Kd.V_drew)); exact Kd.V_mono (Kd.V_far (p := ⟨gb392, 2, none⟩) (Kd.V_far (p := ⟨gb392, 1, none⟩) (Kd.V_far (p := ⟨gb392, 0, none⟩) (Kd.V_mono HO384.out (fun k_ hk => (⟨hk, hk.2⟩ : _ ∧ k_ ≠ gb392))) (fun _ hk => hk.2) (.int .i64 t385)) (fun _ hk => hk.2) (.int .i64 t386)) (fun _ hk => hk.2) (.string t387)) (fun _ hk => ⟨⟨hk.1.1.1, hk.1.2⟩, hk.1.1.2⟩)) hg hat); have n2_ := Aside0.mk (Kd.V_afterv (ok := (fun k_ => (P0_ k_ ∨ w.heap.size ≤ k_) ∧ k_ ≠ gb392)) (by (with_reducible repeat (first | apply Kd.V_alloc | apply Kd.V_drewN | apply Kd.V_drew)); exact Kd.V_mono (Kd.V_far (p := ⟨gb392, 2, none⟩) (Kd.V_far (p := ⟨gb392, 1, none⟩) (Kd.V_far (p := ⟨gb392, 0, none⟩) (Kd.V_mono HO390.out (fun k_ hk => (⟨hk, hk.2⟩ : _ ∧ k_ ≠ gb392))) (fun _ hk => hk.2) (.int .i64 t385)) (fun _ hk => hk.2) (.int .i64 t386)) (fun _ hk => hk.2) (.string t387)) (fun _ hk => ⟨⟨hk.1.1.1, hk.1.2⟩, hk.1.1.2⟩)) hg hat); have n3_ := Aside0.mk (blk_grown (g := gb392) (o := .cells #[.int .i64 t385, .int .i64 t386, .string t387] 32 (0, 0)) (by (with_reducible repeat first | refine blk_drewN ?_ _ | refine blk_drew ?_ | refine blk_alloc ?_ _); refine blk_put (cs := #[.int .i64 t385, .int .i64 t386, .string (⟨#[]⟩ : ByteArray)]) ?_ 2 _ rfl; (with_reducible repeat first | refine blk_drewN ?_ _ | refine blk_drew ?_ | refine blk_alloc ?_ _); refine blk_put (cs := #[.int .i64 t385, .int .i64 0, .string (⟨#[]⟩ : ByteArray)]) ?_ 1 _ rfl; (with_reducible repeat first | refine blk_drewN ?_ _ | refine blk_drew ?_ | refine blk_alloc ?_ _); refine blk_put (cs := #[.int .i64 0, .int .i64 0, .string (⟨#[]⟩ : ByteArray)]) ?_ 0 _ rfl; (with_reducible repeat first | refine blk_drewN ?_ _ | refine blk_drew ?_ | refine blk_alloc ?_ _); exact BK392.out) hg (Kd.R_ne HO_8.out BK392.out (by decide))); have n4_ := Aside0.mk (hb); have n5_ := Aside0.mk (ho); clear HO_0; clear HO384; clear HO390; clear BK392; clear HB; clear HO_8; have HO_0 := n0_; have HO384 := n1_; have HO390 := n2_; have BK392 := n3_; have HB := n4_; have HO396 := n5_; clear n0_ n1_ n2_ n3_ n4_ n5_; clear ho hb hg hat)); try go_wp2_with (first | (go_at_call 54; (with_reducible refine (ref05_Of.calls kj11 (fun k_ => ((P0_ k_ ∨ w.heap.size ≤ k_) ∧ some k_ ≠ (u8 : Value).ownBlock)) _ _ y380 a2 t385 t386 t387 t388 t391 _ ?side1 A18.out).mono ?_); (case side1 => exact HO384.out); rintro e w32 ⟨v389, rfl, ho0, hb⟩; have n0_ := Aside0.mk (Kd.V_below (by (with_reducible repeat (first | apply Kd.V_alloc | apply Kd.V_drewN | apply Kd.V_drew)); exact HO_0.out) hb); have n1_ := Aside0.mk (Kd.R_below (by (with_reducible repeat (first | apply Kd.R_alloc | apply Kd.R_drewN | apply Kd.R_drew)); exact HO_8.out) hb); have n2_ := Aside0.mk (Kd.V_below (by (with_reducible repeat (first | apply Kd.V_alloc | apply Kd.V_drewN | apply Kd.V_drew)); exact HO384.out) hb); have n3_ := Aside0.mk (Kd.V_lower (Kd.V_mono (ok' := fun k_ => (P0_ k_ ∨ w.heap.size ≤ k_) ∧ some k_ ≠ (u8 : Value).ownBlock) ho0 (fun k_ hk_ => ⟨Or.elim hk_ (fun hs_ => hs_.1) (fun hn_ => (.inr (Nat.le_trans (below_size (by repeat (with_reducible first | exact HB.out | apply below_alloc | apply pw_below_drewN | apply below_drew1))) hn_))), Or.elim hk_ (fun hs_ => hs_.2) (fun hn_ => (Kd.fresh' (Kd.R_lt (by (with_reducible repeat (first | apply Kd.R_alloc | apply Kd.R_drewN | apply Kd.R_drew)); exact HO_8.out)) k_ hn_))⟩)) (below_size (by repeat (with_reducible first | exact HB.out | apply below_alloc | apply pw_below_drewN | apply below_drew1)))); have n4_ := Aside0.mk (below_step (by repeat (with_reducible first | exact HB.out | apply below_alloc | apply pw_below_drewN | apply below_drew1)) hb); clear HO_0; clear HO_8; clear HO384; clear HB; have HO_0 := n0_; have HO_8 := n1_; have HO384 := n2_; have HO390 := n3_; have HB := n4_; clear n0_ n1_ n2_ n3_ n4_; (try clear hb); (try clear hb2); (try clear hk); (try clear hi); (try clear ho0)) | ((with_reducible refine gate_dst (N := 13) rfl ?_); (try (refine gate_guard (by rfl) ?_; dsimp only)); refine box_event ?hg (N := 13) ?hd (cs := #[.int .i64 0, .int .i64 0, .string (⟨#[]⟩ : ByteArray)]) (t := 32) ?hr ?_; (case hd => rfl); (case hg => rfl); (case hr => first | (go_simp; done) | (go_simp; rfl)); intro gb392 hg w33 hbox hb; have n0_ := Aside0.mk (Kd.V_below (Kd.V_elderB (by (with_reducible repeat (first | apply Kd.V_alloc | apply Kd.V_drewN | apply Kd.V_drew)); exact HO_0.out) gb392 (Nat.le_of_eq hg.symm)) hb); have n1_ := Aside0.mk (Kd.R_below (by (with_reducible repeat (first | apply Kd.R_alloc | apply Kd.R_drewN | apply Kd.R_drew)); exact HO_8.out) hb); have n2_ := Aside0.mk (Kd.V_below (Kd.V_elderB (by (with_reducible repeat (first | apply Kd.V_alloc | apply Kd.V_drewN | apply Kd.V_drew)); exact HO384.out) gb392 (Nat.le_of_eq hg.symm)) hb); have n3_ := Aside0.mk (Kd.V_below (Kd.V_elderB (by (with_reducible repeat (first | apply Kd.V_alloc | apply Kd.V_drewN | apply Kd.V_drew)); exact HO390.out) gb392 (Nat.le_of_eq hg.symm)) hb); have n4_ := Aside0.mk (below_step (by repeat (with_reducible first | exact HB.out | apply below_alloc | apply pw_below_drewN | apply below_drew1)) hb); have n5_ := Aside0.mk (hbox); have n6_ := Aside0.mk ((by rw [hg]; exact (below_size (by repeat (with_reducible first | exact HB.out | apply below_alloc | apply pw_below_drewN | apply below_drew1))) : w.heap.size ≤ gb392)); have n7_ := Aside0.mk ((by rw [hg]; exact (below_size (by repeat (with_reducible first | exact HB.out | apply below_alloc | apply pw_below_drewN | apply below_drew1))) : w.heap.size ≤ gb392)); clear HO_0; clear HO_8; clear HO384; clear HO390; clear HB; have HO_0 := n0_; have HO_8 := n1_; have HO384 := n2_; have HO390 := n3_; have HB := n4_; have BK392 := n5_; have GW392 := n6_; have GE392 := n7_; clear n0_ n1_ n2_ n3_ n4_ n5_ n6_ n7_; clear hb hbox hg; have hcz34_0 : w33.cell? ⟨gb392, 0, none⟩ = some (.int .i64 0) := (blk_cell BK392.out 0).trans rfl; have hcz34_1 : w33.cell? ⟨gb392, 1, none⟩ = some (.int .i64 0) := (blk_cell BK392.out 1).trans rfl; have hcz34_2 : w33.cell? ⟨gb392, 2, none⟩ = some (.string (⟨#[]⟩ : ByteArray)) := (blk_cell BK392.out 2).trans rfl; have hfz34_0 := blk_frozen BK392.out 0; have hfz34_1 := blk_frozen BK392.out 1; have hfz34_2 := blk_frozen BK392.out 2; obtain ⟨Ao35, co35, eo35⟩ := Kd.R_slice HO_8.out; subst eo35; have p393 : 0 ≤ ((ji21) : Int) := of_decide_eq_true (by first | (with_reducible assumption) | assumption); have q393 : (ji21) < (x8_2.length : Int) := of_decide_eq_true (by first | (with_reducible assumption) | assumption); obtain ⟨ad393, e393, hx393_0, hx393_1, hx393_2, hx393_3⟩ := at_T75 (Kd.R_reads' HO_8.out).2.2 (ji21) p393 q393; cases e393; have hn393_0 : ad393.block ≠ gb392 := Kd.own_blk (Kd.R_ne HO_8.out BK392.out (by decide)); have hn393_1 : ad393.block ≠ gb392 := Kd.own_blk (Kd.R_ne HO_8.out BK392.out (by decide)); have hn393_2 : ad393.block ≠ gb392 := Kd.own_blk (Kd.R_ne HO_8.out BK392.out (by decide)); replace hx393_0 := (cell_far (p := ⟨gb392, 0, none⟩) (by first | (rw [add_block]; exact hn393_0) | (show (Addr.add _ _).block ≠ _; rw [add_block]; exact hn393_0) | exact hn393_0) (.int .i64 t385)).trans hx393_0; replace hx393_1 := (cell_far (p := ⟨gb392, 0, none⟩) (by first | (rw [add_block]; exact hn393_0) | (show (Addr.add _ _).block ≠ _; rw [add_block]; exact hn393_0) | exact hn393_0) (.int .i64 t385)).trans hx393_1; replace hx393_2 := (cell_far (p := ⟨gb392, 0, none⟩) (by first | (rw [add_block]; exact hn393_0) | (show (Addr.add _ _).block ≠ _; rw [add_block]; exact hn393_0) | exact hn393_0) (.int .i64 t385)).trans hx393_2; replace hx393_3 := (cell_far (p := ⟨gb392, 0, none⟩) (by first | (rw [add_block]; exact hn393_0) | (show (Addr.add _ _).block ≠ _; rw [add_block]; exact hn393_0) | exact hn393_0) (.int .i64 t385)).trans hx393_3; replace hx393_0 := (cell_far (p := ⟨gb392, 1, none⟩) (by first | (rw [add_block]; exact hn393_1) | (show (Addr.add _ _).block ≠ _; rw [add_block]; exact hn393_1) | exact hn393_1) (.int .i64 t386)).trans hx393_0; replace hx393_1 := (cell_far (p := ⟨gb392, 1, none⟩) (by first | (rw [add_block]; exact hn393_1) | (show (Addr.add _ _).block ≠ _; rw [add_block]; exact hn393_1) | exact hn393_1) (.int .i64 t386)).trans hx393_1; replace hx393_2 := (cell_far (p := ⟨gb392, 1, none⟩) (by first | (rw [add_block]; exact hn393_1) | (show (Addr.add _ _).block ≠ _; rw [add_block]; exact hn393_1) | exact hn393_1) (.int .i64 t386)).trans hx393_2; replace hx393_3 := (cell_far (p := ⟨gb392, 1, none⟩) (by first | (rw [add_block]; exact hn393_1) | (show (Addr.add _ _).block ≠ _; rw [add_block]; exact hn393_1) | exact hn393_1) (.int .i64 t386)).trans hx393_3; replace hx393_0 := (cell_far (p := ⟨gb392, 2, none⟩) (by first | (rw [add_block]; exact hn393_2) | (show (Addr.add _ _).block ≠ _; rw [add_block]; exact hn393_2) | exact hn393_2) (.string t387)).trans hx393_0; replace hx393_1 := (cell_far (p := ⟨gb392, 2, none⟩) (by first | (rw [add_block]; exact hn393_2) | (show (Addr.add _ _).block ≠ _; rw [add_block]; exact hn393_2) | exact hn393_2) (.string t387)).trans hx393_1; replace hx393_2 := (cell_far (p := ⟨gb392, 2, none⟩) (by first | (rw [add_block]; exact hn393_2) | (show (Addr.add _ _).block ≠ _; rw [add_block]; exact hn393_2) | exact hn393_2) (.string t387)).trans hx393_2; replace hx393_3 := (cell_far (p := ⟨gb392, 2, none⟩) (by first | (rw [add_block]; exact hn393_2) | (show (Addr.add _ _).block ≠ _; rw [add_block]; exact hn393_2) | exact hn393_2) (.string t387)).trans hx393_3; (try have hy393_0 := fun (n_ : Nat) => (show (((((w33.drewN n_).setCell ⟨gb392, 0, none⟩ (.int .i64 t385)).setCell ⟨gb392, 1, none⟩ (.int .i64 t386)).setCell ⟨gb392, 2, none⟩ (.string t387))).cell? _ = some _ from hx393_0)); (try have hy393_1 := fun (n_ : Nat) => (show (((((w33.drewN n_).setCell ⟨gb392, 0, none⟩ (.int .i64 t385)).setCell ⟨gb392, 1, none⟩ (.int .i64 t386)).setCell ⟨gb392, 2, none⟩ (.string t387))).cell? _ = some _ from hx393_1)); (try have hy393_2 := fun (n_ : Nat) => (show (((((w33.drewN n_).setCell ⟨gb392, 0, none⟩ (.int .i64 t385)).setCell ⟨gb392, 1, none⟩ (.int .i64 t386)).setCell ⟨gb392, 2, none⟩ (.string t387))).cell? _ = some _ from hx393_2)); (try have hy393_3 := fun (n_ : Nat) => (show (((((w33.drewN n_).setCell ⟨gb392, 0, none⟩ (.int .i64 t385)).setCell ⟨gb392, 1, none⟩ (.int .i64 t386)).setCell ⟨gb392, 2, none⟩ (.string t387))).cell? _ = some _ from hx393_3)); clear hn393_0; clear hn393_1; clear hn393_2; replace p393 := eq_true p393; replace q393 := eq_true q393) | ((with_reducible refine gate_builtin (b := .append) (xs := #[.tmp 71, .tmp 76]) rfl ?_); (try (refine gate_guard (by rfl) ?_; dsimp only)); at_builtin; refine Kd.R_append k75 (w0 := w) w.heap.size rfl (.tmp 71) (.tmp 76) 54 75 (.agg #[(.int .i64 0), (.int .i64 0), (.int .i64 0), (.string ⟨#[]⟩)]) 40 rfl Try.underlying54 info75 rfl (by decide) (by omega) (.slice (some ad393) x8_2.length co35) x8_2 (⟨wrap64 (t377), (⟨t385, t386, t387⟩ : S32)⟩ : S75) [.int .i64 (wrap64 (t377)), .int .i64 t385, .int .i64 t386, .string t387] (fun k_ => (w.heap.size ≤ k_)) (fun _ => False) rfl (by first | (go_simp; done) | (go_simp; rfl)) ?aP (fun _ hk => hk.elim) ?aF ?aO ?aB ?aS ?aL ?_; (case aP => exact k75_mkM _ _ _ (⟨wrap64 (t377), (⟨t385, t386, t387⟩ : S32)⟩ : S75)); (case aB => exact (by repeat (first | (with_reducible first | exact HB.out | apply below_alloc | apply pw_below_drewN | apply below_drew1 | refine below_set ?_ GE392.out) | exact HB.out))); (case aF => exact (fun k_ hk => (Nat.le_trans (below_size (by repeat (first | (with_reducible first | exact HB.out | apply below_alloc | apply pw_below_drewN | apply below_drew1 | refine below_set ?_ GE392.out) | exact HB.out))) hk))); (case aO => exact (by (with_reducible repeat (first | apply Kd.R_alloc | apply Kd.R_drewN | apply Kd.R_drew)); exact Kd.R_mono (Kd.R_far (p := ⟨gb392, 2, none⟩) (Kd.R_far (p := ⟨gb392, 1, none⟩) (Kd.R_far (p := ⟨gb392, 0, none⟩) (Kd.R_types HO_8.out BK392.out (by decide)) (fun _ hk => hk.2) (.int .i64 t385)) (fun _ hk => hk.2) (.int .i64 t386)) (fun _ hk => hk.2) (.string t387)) (fun _ hk => hk.1))); (case aS => exact (below_size (by repeat (first | (with_reducible first | exact HB.out | apply below_alloc | apply pw_below_drewN | apply below_drew1 | refine below_set ?_ GE392.out) | exact HB.out)))); (case aL => have := LMc30.out; omega); intro v395 w36 ho hb hg hat; rw [← Ny394.out] at ho; have n0_ := Aside0.mk (Kd.V_afterv (ok := (fun k_ => (P0_ k_ ∨ w.heap.size ≤ k_) ∧ k_ ≠ gb392)) (by (with_reducible repeat (first | apply Kd.V_alloc | apply Kd.V_drewN | apply Kd.V_drew)); exact Kd.V_mono (Kd.V_far (p := ⟨gb392, 2, none⟩) (Kd.V_far (p := ⟨gb392, 1, none⟩) (Kd.V_far (p := ⟨gb392, 0, none⟩) (Kd.V_mono HO_0.out (fun k_ hk => (⟨hk, hk.2⟩ : _ ∧ k_ ≠ gb392))) (fun _ hk => hk.2) (.int .i64 t385)) (fun _ hk => hk.2) (.int .i64 t386)) (fun _ hk => hk.2) (.string t387)) (fun _ hk => ⟨⟨hk.1.1.1, hk.1.2⟩, hk.1.1.2⟩)) hg hat); have n1_ := Aside0.mk (Kd.V_afterv (ok := (fun k_ => (P0_ k_ ∨ w.heap.size ≤ k_) ∧ k_ ≠ gb392)) (by (with_reducible repeat (first | apply Kd.V_alloc | apply Kd.V_drewN | apply Kd.V_drew)); exact Kd.V_mono (Kd.V_far (p := ⟨gb392, 2, none⟩) (Kd.V_far (p := ⟨gb392, 1, none⟩) (Kd.V_far (p := ⟨gb392, 0, none⟩) (Kd.V_mono HO384.out (fun k_ hk => (⟨hk, hk.2⟩ : _ ∧ k_ ≠ gb392))) (fun _ hk => hk.2) (.int .i64 t385)) (fun _ hk => hk.2) (.int .i64 t386)) (fun _ hk => hk.2) (.string t387)) (fun _ hk => ⟨⟨hk.1.1.1, hk.1.2⟩, hk.1.1.2⟩)) hg hat); have n2_ := Aside0.mk (Kd.V_afterv (ok := (fun k_ => (P0_ k_ ∨ w.heap.size ≤ k_) ∧ k_ ≠ gb392)) (by (with_reducible repeat (first | apply Kd.V_alloc | apply Kd.V_drewN | apply Kd.V_drew)); exact Kd.V_mono (Kd.V_far (p := ⟨gb392, 2, none⟩) (Kd.V_far (p := ⟨gb392, 1, none⟩) (Kd.V_far (p := ⟨gb392, 0, none⟩) (Kd.V_mono HO390.out (fun k_ hk => (⟨hk, hk.2⟩ : _ ∧ k_ ≠ gb392))) (fun _ hk => hk.2) (.int .i64 t385)) (fun _ hk => hk.2) (.int .i64 t386)) (fun _ hk => hk.2) (.string t387)) (fun _ hk => ⟨⟨hk.1.1.1, hk.1.2⟩, hk.1.1.2⟩)) hg hat); have n3_ := Aside0.mk (blk_grown (g := gb392) (o := .cells #[.int .i64 t385, .int .i64 t386, .string t387] 32 (0, 0)) (by (with_reducible repeat first | refine blk_drewN ?_ _ | refine blk_drew ?_ | refine blk_alloc ?_ _); refine blk_put (cs := #[.int .i64 t385, .int .i64 t386, .string (⟨#[]⟩ : ByteArray)]) ?_ 2 _ rfl; (with_reducible repeat first | refine blk_drewN ?_ _ | refine blk_drew ?_ | refine blk_alloc ?_ _); refine blk_put (cs := #[.int .i64 t385, .int .i64 0, .string (⟨#[]⟩ : ByteArray)]) ?_ 1 _ rfl; (with_reducible repeat first | refine blk_drewN ?_ _ | refine blk_drew ?_ | refine blk_alloc ?_ _); refine blk_put (cs := #[.int .i64 0, .int .i64 0, .string (⟨#[]⟩ : ByteArray)]) ?_ 0 _ rfl; (with_reducible repeat first | refine blk_drewN ?_ _ | refine blk_drew ?_ | refine blk_alloc ?_ _); exact BK392.out) hg (Kd.R_ne HO_8.out BK392.out (by decide))); have n4_ := Aside0.mk (hb); have n5_ := Aside0.mk (ho); clear HO_0; clear HO384; clear HO390; clear BK392; clear HB; clear HO_8; have HO_0 := n0_; have HO384 := n1_; have HO390 := n2_; have BK392 := n3_; have HB := n4_; have HO396 := n5_; clear n0_ n1_ n2_ n3_ n4_ n5_; clear ho hb hg hat)))
                    go_roundg kj11
                    case measure => have := HJ5.out; have := HK2.out; have := HJ11.out; omega
                    case rel => exact ⟨(t388), (y394), (wrap64 (x9_2 - (wrap64 (t377)))), (by first | rfl | (simp; done) | (simp [*]; done)), H', ⟨by have := HJ5.out; have := HK2.out; have := HJ11.out; omega⟩, ⟨by (with_reducible repeat (first | apply Kd.V_alloc | apply Kd.V_drewN | apply Kd.V_drew)); exact Kd.V_mono HO390.out (fun _ hk => ⟨hk.1.1, hk.2⟩)⟩, ⟨by (with_reducible repeat (first | apply Kd.R_alloc | apply Kd.R_drewN | apply Kd.R_drew)); exact HO396.out⟩, ⟨by repeat (first | (with_reducible first | exact HB.out | apply below_alloc | apply pw_below_drewN | apply below_drew1 | refine below_set ?_ GE392.out) | exact HB.out)⟩⟩
                   ·
                    rw [if_neg c30] at H
                    exact absurd H (by simp)
                 ·
                  rw [if_neg c23] at H
                  exact absurd H (by simp)
                ·
                 rw [if_neg c22] at H
                 exact absurd H (by simp)
               ·
                rw [if_neg c20] at H
                have c20b0 : decide (0 < (x8_2.length : Int)) = false := decide_eq_false c20
                have c20b1 : decide (0 < x8_2.length) = false := decide_eq_false (by omega)
                clear c20
                by_cases c37 : x8_2.length < 3518437208883
                ·
                 rw [if_pos c37] at H
                 have LMc37 := Aside0.mk c37
                 clear c37
                 obtain ⟨y397, hy397⟩ : ∃ y_ : List (S75), y_ = (x8_2 ++ [(⟨wrap64 (t377), (⟨t385, t386, t387⟩ : S32)⟩ : S75)]) := ⟨_, rfl⟩
                 replace H : (ref08_ToRuns.l0 kj11 t388 a2 y397 (wrap64 (x9_2 - (wrap64 (t377))))) = some (r1, r2) := by first | (rw [hy397]; with_reducible exact H) | (have H2_ := (Option.bind_some _ _).symm.trans H; rw [hy397]; with_reducible exact H2_) | (have H2_ := (Option.bind_some _ _).symm.trans H; with_reducible exact H2_) | with_reducible exact H | (rw [hy397]; exact H) | exact H
                 have Ny397 := Aside0.mk hy397
                 clear hy397
                 have H' := Aside0.mk H
                 clear H
                 have q38 : (t378 : Int) ≤ ((x0_2.length : Int) : Int) := of_decide_eq_true (by first | (with_reducible assumption) | assumption)
                 obtain ⟨i038, hi038, _, hsz38, _⟩ := info_parts info5
                 have hroom38 : x0_2.length ≤ co13 := (Kd.V_reads' HO_0.out).2.1
                 have hC38 : Kd.F (Kd.int .u8) _ _ Ao13 x0_2.length x0_2 := (Kd.V_at (base := w.heap.size) HO_0.out).2.2
                 have q038 : (0 : Int) ≤ (t378 : Int) := of_decide_eq_true (by first | (with_reducible assumption) | assumption)
                 have hcut38 := cut_from (P := Try.prog) 25 5 .i64 Try.underlying25 hi038 1 hsz38 Ao13 x0_2.length co13 t378 q038 q38
                 have hr38 := Kd.F_cut (m := (t378 : Int).toNat) (c := co13) hC38 (by omega) hroom38
                 obtain ⟨A38, hA38⟩ : ∃ A1, A1 = (if co13 = (t378 : Int).toNat then Ao13 else (Ao13 : Option Addr).map (·.add ((t378 : Int).toNat * 1))) := ⟨_, rfl⟩
                 obtain ⟨c38, hc38⟩ : ∃ c1, c1 = co13 - (t378 : Int).toNat := ⟨_, rfl⟩
                 have hy38 : y380.length = x0_2.length - (t378 : Int).toNat := (by rw [Ny380.out, List.length_drop] <;> omega)
                 rw [show (x0_2).drop (t378 : Int).toNat = y380 from Ny380.out.symm] at hr38
                 replace hr38 : Kd.F (Kd.int .u8) _ _ A38 y380.length y380 := (by rw [hA38]; exact hr38)
                 rw [← hy38, ← hA38, ← hc38] at hcut38
                 have HO384 := Aside0.mk (show Kd.V (Kd.int .u8) 5 _ w.heap.size _ (.slice A38 y380.length c38) y380 from Kd.V_mk (by rw [hy38, hc38]; exact Nat.sub_le_sub_right hroom38 _) hr38)
                 have HC384 := Aside0.mk (show y380.length ≤ c38 from by rw [hy38, hc38]; exact Nat.sub_le_sub_right hroom38 _)
                 clear hr38 hC38 hroom38 hi038 hsz38 hc38
                 have KY38 := Aside0.mk hy38
                 have KA38 := Aside0.mk hA38
                 clear hy38 hA38
                 replace q38 := eq_true q38
                 go_wp2_with (first | (go_at_call 54; (with_reducible refine (ref05_Of.calls kj11 (fun k_ => ((P0_ k_ ∨ w.heap.size ≤ k_) ∧ some k_ ≠ (u8 : Value).ownBlock)) _ _ y380 a2 t385 t386 t387 t388 t391 _ ?side1 A18.out).mono ?_); (case side1 => exact HO384.out); rintro e w39 ⟨v389, rfl, ho0, hb⟩; have n0_ := Aside0.mk (Kd.V_below (by (with_reducible repeat (first | apply Kd.V_alloc | apply Kd.V_drewN | apply Kd.V_drew)); exact HO_0.out) hb); have n1_ := Aside0.mk (Kd.R_below (by (with_reducible repeat (first | apply Kd.R_alloc | apply Kd.R_drewN | apply Kd.R_drew)); exact HO_8.out) hb); have n2_ := Aside0.mk (Kd.V_below (by (with_reducible repeat (first | apply Kd.V_alloc | apply Kd.V_drewN | apply Kd.V_drew)); exact HO384.out) hb); have n3_ := Aside0.mk (Kd.V_lower (Kd.V_mono (ok' := fun k_ => (P0_ k_ ∨ w.heap.size ≤ k_) ∧ some k_ ≠ (u8 : Value).ownBlock) ho0 (fun k_ hk_ => ⟨Or.elim hk_ (fun hs_ => hs_.1) (fun hn_ => (.inr (Nat.le_trans (below_size (by repeat (with_reducible first | exact HB.out | apply below_alloc | apply pw_below_drewN | apply below_drew1))) hn_))), Or.elim hk_ (fun hs_ => hs_.2) (fun hn_ => (Kd.fresh' (Kd.R_lt (by (with_reducible repeat (first | apply Kd.R_alloc | apply Kd.R_drewN | apply Kd.R_drew)); exact HO_8.out)) k_ hn_))⟩)) (below_size (by repeat (with_reducible first | exact HB.out | apply below_alloc | apply pw_below_drewN | apply below_drew1)))); have n4_ := Aside0.mk (below_step (by repeat (with_reducible first | exact HB.out | apply below_alloc | apply pw_below_drewN | apply below_drew1)) hb); clear HO_0; clear HO_8; clear HO384; clear HB; have HO_0 := n0_; have HO_8 := n1_; have HO384 := n2_; have HO390 := n3_; have HB := n4_; clear n0_ n1_ n2_ n3_ n4_; (try clear hb); (try clear hb2); (try clear hk); (try clear hi); (try clear ho0)) | ((with_reducible refine gate_dst (N := 13) rfl ?_); (try (refine gate_guard (by rfl) ?_; dsimp only)); refine box_event ?hg (N := 13) ?hd (cs := #[.int .i64 0, .int .i64 0, .string (⟨#[]⟩ : ByteArray)]) (t := 32) ?hr ?_; (case hd => rfl); (case hg => rfl); (case hr => first | (go_simp; done) | (go_simp; rfl)); intro gb392 hg w40 hbox hb; have n0_ := Aside0.mk (Kd.V_below (Kd.V_elderB (by (with_reducible repeat (first | apply Kd.V_alloc | apply Kd.V_drewN | apply Kd.V_drew)); exact HO_0.out) gb392 (Nat.le_of_eq hg.symm)) hb); have n1_ := Aside0.mk (Kd.R_below (by (with_reducible repeat (first | apply Kd.R_alloc | apply Kd.R_drewN | apply Kd.R_drew)); exact HO_8.out) hb); have n2_ := Aside0.mk (Kd.V_below (Kd.V_elderB (by (with_reducible repeat (first | apply Kd.V_alloc | apply Kd.V_drewN | apply Kd.V_drew)); exact HO384.out) gb392 (Nat.le_of_eq hg.symm)) hb); have n3_ := Aside0.mk (Kd.V_below (Kd.V_elderB (by (with_reducible repeat (first | apply Kd.V_alloc | apply Kd.V_drewN | apply Kd.V_drew)); exact HO390.out) gb392 (Nat.le_of_eq hg.symm)) hb); have n4_ := Aside0.mk (below_step (by repeat (with_reducible first | exact HB.out | apply below_alloc | apply pw_below_drewN | apply below_drew1)) hb); have n5_ := Aside0.mk (hbox); have n6_ := Aside0.mk ((by rw [hg]; exact (below_size (by repeat (with_reducible first | exact HB.out | apply below_alloc | apply pw_below_drewN | apply below_drew1))) : w.heap.size ≤ gb392)); have n7_ := Aside0.mk ((by rw [hg]; exact (below_size (by repeat (with_reducible first | exact HB.out | apply below_alloc | apply pw_below_drewN | apply below_drew1))) : w.heap.size ≤ gb392)); clear HO_0; clear HO_8; clear HO384; clear HO390; clear HB; have HO_0 := n0_; have HO_8 := n1_; have HO384 := n2_; have HO390 := n3_; have HB := n4_; have BK392 := n5_; have GW392 := n6_; have GE392 := n7_; clear n0_ n1_ n2_ n3_ n4_ n5_ n6_ n7_; clear hb hbox hg; have hcz41_0 : w40.cell? ⟨gb392, 0, none⟩ = some (.int .i64 0) := (blk_cell BK392.out 0).trans rfl; have hcz41_1 : w40.cell? ⟨gb392, 1, none⟩ = some (.int .i64 0) := (blk_cell BK392.out 1).trans rfl; have hcz41_2 : w40.cell? ⟨gb392, 2, none⟩ = some (.string (⟨#[]⟩ : ByteArray)) := (blk_cell BK392.out 2).trans rfl; have hfz41_0 := blk_frozen BK392.out 0; have hfz41_1 := blk_frozen BK392.out 1; have hfz41_2 := blk_frozen BK392.out 2; obtain ⟨Ao42, co42, eo42⟩ := Kd.R_slice HO_8.out; subst eo42) | ((with_reducible refine gate_builtin (b := .append) (xs := #[.tmp 71, .tmp 76]) rfl ?_); (try (refine gate_guard (by rfl) ?_; dsimp only)); at_builtin; refine Kd.R_append k75 (w0 := w) w.heap.size rfl (.tmp 71) (.tmp 76) 54 75 (.agg #[(.int .i64 0), (.int .i64 0), (.int .i64 0), (.string ⟨#[]⟩)]) 40 rfl Try.underlying54 info75 rfl (by decide) (by omega) (.slice Ao42 x8_2.length co42) x8_2 (⟨wrap64 (t377), (⟨t385, t386, t387⟩ : S32)⟩ : S75) [.int .i64 (wrap64 (t377)), .int .i64 t385, .int .i64 t386, .string t387] (fun k_ => (w.heap.size ≤ k_)) (fun _ => False) rfl (by first | (go_simp; done) | (go_simp; rfl)) ?aP (fun _ hk => hk.elim) ?aF ?aO ?aB ?aS ?aL ?_; (case aP => exact k75_mkM _ _ _ (⟨wrap64 (t377), (⟨t385, t386, t387⟩ : S32)⟩ : S75)); (case aB => exact (by repeat (first | (with_reducible first | exact HB.out | apply below_alloc | apply pw_below_drewN | apply below_drew1 | refine below_set ?_ GE392.out) | exact HB.out))); (case aF => exact (fun k_ hk => (Nat.le_trans (below_size (by repeat (first | (with_reducible first | exact HB.out | apply below_alloc | apply pw_below_drewN | apply below_drew1 | refine below_set ?_ GE392.out) | exact HB.out))) hk))); (case aO => exact (by (with_reducible repeat (first | apply Kd.R_alloc | apply Kd.R_drewN | apply Kd.R_drew)); exact Kd.R_mono (Kd.R_far (p := ⟨gb392, 2, none⟩) (Kd.R_far (p := ⟨gb392, 1, none⟩) (Kd.R_far (p := ⟨gb392, 0, none⟩) (Kd.R_types HO_8.out BK392.out (by decide)) (fun _ hk => hk.2) (.int .i64 t385)) (fun _ hk => hk.2) (.int .i64 t386)) (fun _ hk => hk.2) (.string t387)) (fun _ hk => hk.1))); (case aS => exact (below_size (by repeat (first | (with_reducible first | exact HB.out | apply below_alloc | apply pw_below_drewN | apply below_drew1 | refine below_set ?_ GE392.out) | exact HB.out)))); (case aL => have := LMc37.out; omega); intro v398 w43 ho hb hg hat; rw [← Ny397.out] at ho; have n0_ := Aside0.mk (Kd.V_afterv (ok := (fun k_ => (P0_ k_ ∨ w.heap.size ≤ k_) ∧ k_ ≠ gb392)) (by (with_reducible repeat (first | apply Kd.V_alloc | apply Kd.V_drewN | apply Kd.V_drew)); exact Kd.V_mono (Kd.V_far (p := ⟨gb392, 2, none⟩) (Kd.V_far (p := ⟨gb392, 1, none⟩) (Kd.V_far (p := ⟨gb392, 0, none⟩) (Kd.V_mono HO_0.out (fun k_ hk => (⟨hk, hk.2⟩ : _ ∧ k_ ≠ gb392))) (fun _ hk => hk.2) (.int .i64 t385)) (fun _ hk => hk.2) (.int .i64 t386)) (fun _ hk => hk.2) (.string t387)) (fun _ hk => ⟨⟨hk.1.1.1, hk.1.2⟩, hk.1.1.2⟩)) hg hat); have n1_ := Aside0.mk (Kd.V_afterv (ok := (fun k_ => (P0_ k_ ∨ w.heap.size ≤ k_) ∧ k_ ≠ gb392)) (by (with_reducible repeat (first | apply Kd.V_alloc | apply Kd.V_drewN | apply Kd.V_drew)); exact Kd.V_mono (Kd.V_far (p := ⟨gb392, 2, none⟩) (Kd.V_far (p := ⟨gb392, 1, none⟩) (Kd.V_far (p := ⟨gb392, 0, none⟩) (Kd.V_mono HO384.out (fun k_ hk => (⟨hk, hk.2⟩ : _ ∧ k_ ≠ gb392))) (fun _ hk => hk.2) (.int .i64 t385)) (fun _ hk => hk.2) (.int .i64 t386)) (fun _ hk => hk.2) (.string t387)) (fun _ hk => ⟨⟨hk.1.1.1, hk.1.2⟩, hk.1.1.2⟩)) hg hat); have n2_ := Aside0.mk (Kd.V_afterv (ok := (fun k_ => (P0_ k_ ∨ w.heap.size ≤ k_) ∧ k_ ≠ gb392)) (by (with_reducible repeat (first | apply Kd.V_alloc | apply Kd.V_drewN | apply Kd.V_drew)); exact Kd.V_mono (Kd.V_far (p := ⟨gb392, 2, none⟩) (Kd.V_far (p := ⟨gb392, 1, none⟩) (Kd.V_far (p := ⟨gb392, 0, none⟩) (Kd.V_mono HO390.out (fun k_ hk => (⟨hk, hk.2⟩ : _ ∧ k_ ≠ gb392))) (fun _ hk => hk.2) (.int .i64 t385)) (fun _ hk => hk.2) (.int .i64 t386)) (fun _ hk => hk.2) (.string t387)) (fun _ hk => ⟨⟨hk.1.1.1, hk.1.2⟩, hk.1.1.2⟩)) hg hat); have n3_ := Aside0.mk (blk_grown (g := gb392) (o := .cells #[.int .i64 t385, .int .i64 t386, .string t387] 32 (0, 0)) (by (with_reducible repeat first | refine blk_drewN ?_ _ | refine blk_drew ?_ | refine blk_alloc ?_ _); refine blk_put (cs := #[.int .i64 t385, .int .i64 t386, .string (⟨#[]⟩ : ByteArray)]) ?_ 2 _ rfl; (with_reducible repeat first | refine blk_drewN ?_ _ | refine blk_drew ?_ | refine blk_alloc ?_ _); refine blk_put (cs := #[.int .i64 t385, .int .i64 0, .string (⟨#[]⟩ : ByteArray)]) ?_ 1 _ rfl; (with_reducible repeat first | refine blk_drewN ?_ _ | refine blk_drew ?_ | refine blk_alloc ?_ _); refine blk_put (cs := #[.int .i64 0, .int .i64 0, .string (⟨#[]⟩ : ByteArray)]) ?_ 0 _ rfl; (with_reducible repeat first | refine blk_drewN ?_ _ | refine blk_drew ?_ | refine blk_alloc ?_ _); exact BK392.out) hg (Kd.R_ne HO_8.out BK392.out (by decide))); have n4_ := Aside0.mk (hb); have n5_ := Aside0.mk (ho); clear HO_0; clear HO384; clear HO390; clear BK392; clear HB; clear HO_8; have HO_0 := n0_; have HO384 := n1_; have HO390 := n2_; have BK392 := n3_; have HB := n4_; have HO399 := n5_; clear n0_ n1_ n2_ n3_ n4_ n5_; clear ho hb hg hat))
                 repeat (go_quiet (first | (go_at_call 54; (with_reducible refine (ref05_Of.calls kj11 (fun k_ => ((P0_ k_ ∨ w.heap.size ≤ k_) ∧ some k_ ≠ (u8 : Value).ownBlock)) _ _ y380 a2 t385 t386 t387 t388 t391 _ ?side1 A18.out).mono ?_); (case side1 => exact HO384.out); rintro e w39 ⟨v389, rfl, ho0, hb⟩; have n0_ := Aside0.mk (Kd.V_below (by (with_reducible repeat (first | apply Kd.V_alloc | apply Kd.V_drewN | apply Kd.V_drew)); exact HO_0.out) hb); have n1_ := Aside0.mk (Kd.R_below (by (with_reducible repeat (first | apply Kd.R_alloc | apply Kd.R_drewN | apply Kd.R_drew)); exact HO_8.out) hb); have n2_ := Aside0.mk (Kd.V_below (by (with_reducible repeat (first | apply Kd.V_alloc | apply Kd.V_drewN | apply Kd.V_drew)); exact HO384.out) hb); have n3_ := Aside0.mk (Kd.V_lower (Kd.V_mono (ok' := fun k_ => (P0_ k_ ∨ w.heap.size ≤ k_) ∧ some k_ ≠ (u8 : Value).ownBlock) ho0 (fun k_ hk_ => ⟨Or.elim hk_ (fun hs_ => hs_.1) (fun hn_ => (.inr (Nat.le_trans (below_size (by repeat (with_reducible first | exact HB.out | apply below_alloc | apply pw_below_drewN | apply below_drew1))) hn_))), Or.elim hk_ (fun hs_ => hs_.2) (fun hn_ => (Kd.fresh' (Kd.R_lt (by (with_reducible repeat (first | apply Kd.R_alloc | apply Kd.R_drewN | apply Kd.R_drew)); exact HO_8.out)) k_ hn_))⟩)) (below_size (by repeat (with_reducible first | exact HB.out | apply below_alloc | apply pw_below_drewN | apply below_drew1)))); have n4_ := Aside0.mk (below_step (by repeat (with_reducible first | exact HB.out | apply below_alloc | apply pw_below_drewN | apply below_drew1)) hb); clear HO_0; clear HO_8; clear HO384; clear HB; have HO_0 := n0_; have HO_8 := n1_; have HO384 := n2_; have HO390 := n3_; have HB := n4_; clear n0_ n1_ n2_ n3_ n4_; (try clear hb); (try clear hb2); (try clear hk); (try clear hi); (try clear ho0)) | ((with_reducible refine gate_dst (N := 13) rfl ?_); (try (refine gate_guard (by rfl) ?_; dsimp only)); refine box_event ?hg (N := 13) ?hd (cs := #[.int .i64 0, .int .i64 0, .string (⟨#[]⟩ : ByteArray)]) (t := 32) ?hr ?_; (case hd => rfl); (case hg => rfl); (case hr => first | (go_simp; done) | (go_simp; rfl)); intro gb392 hg w40 hbox hb; have n0_ := Aside0.mk (Kd.V_below (Kd.V_elderB (by (with_reducible repeat (first | apply Kd.V_alloc | apply Kd.V_drewN | apply Kd.V_drew)); exact HO_0.out) gb392 (Nat.le_of_eq hg.symm)) hb); have n1_ := Aside0.mk (Kd.R_below (by (with_reducible repeat (first | apply Kd.R_alloc | apply Kd.R_drewN | apply Kd.R_drew)); exact HO_8.out) hb); have n2_ := Aside0.mk (Kd.V_below (Kd.V_elderB (by (with_reducible repeat (first | apply Kd.V_alloc | apply Kd.V_drewN | apply Kd.V_drew)); exact HO384.out) gb392 (Nat.le_of_eq hg.symm)) hb); have n3_ := Aside0.mk (Kd.V_below (Kd.V_elderB (by (with_reducible repeat (first | apply Kd.V_alloc | apply Kd.V_drewN | apply Kd.V_drew)); exact HO390.out) gb392 (Nat.le_of_eq hg.symm)) hb); have n4_ := Aside0.mk (below_step (by repeat (with_reducible first | exact HB.out | apply below_alloc | apply pw_below_drewN | apply below_drew1)) hb); have n5_ := Aside0.mk (hbox); have n6_ := Aside0.mk ((by rw [hg]; exact (below_size (by repeat (with_reducible first | exact HB.out | apply below_alloc | apply pw_below_drewN | apply below_drew1))) : w.heap.size ≤ gb392)); have n7_ := Aside0.mk ((by rw [hg]; exact (below_size (by repeat (with_reducible first | exact HB.out | apply below_alloc | apply pw_below_drewN | apply below_drew1))) : w.heap.size ≤ gb392)); clear HO_0; clear HO_8; clear HO384; clear HO390; clear HB; have HO_0 := n0_; have HO_8 := n1_; have HO384 := n2_; have HO390 := n3_; have HB := n4_; have BK392 := n5_; have GW392 := n6_; have GE392 := n7_; clear n0_ n1_ n2_ n3_ n4_ n5_ n6_ n7_; clear hb hbox hg; have hcz41_0 : w40.cell? ⟨gb392, 0, none⟩ = some (.int .i64 0) := (blk_cell BK392.out 0).trans rfl; have hcz41_1 : w40.cell? ⟨gb392, 1, none⟩ = some (.int .i64 0) := (blk_cell BK392.out 1).trans rfl; have hcz41_2 : w40.cell? ⟨gb392, 2, none⟩ = some (.string (⟨#[]⟩ : ByteArray)) := (blk_cell BK392.out 2).trans rfl; have hfz41_0 := blk_frozen BK392.out 0; have hfz41_1 := blk_frozen BK392.out 1; have hfz41_2 := blk_frozen BK392.out 2; obtain ⟨Ao42, co42, eo42⟩ := Kd.R_slice HO_8.out; subst eo42) | ((with_reducible refine gate_builtin (b := .append) (xs := #[.tmp 71, .tmp 76]) rfl ?_); (try (refine gate_guard (by rfl) ?_; dsimp only)); at_builtin; refine Kd.R_append k75 (w0 := w) w.heap.size rfl (.tmp 71) (.tmp 76) 54 75 (.agg #[(.int .i64 0), (.int .i64 0), (.int .i64 0), (.string ⟨#[]⟩)]) 40 rfl Try.underlying54 info75 rfl (by decide) (by omega) (.slice Ao42 x8_2.length co42) x8_2 (⟨wrap64 (t377), (⟨t385, t386, t387⟩ : S32)⟩ : S75) [.int .i64 (wrap64 (t377)), .int .i64 t385, .int .i64 t386, .string t387] (fun k_ => (w.heap.size ≤ k_)) (fun _ => False) rfl (by first | (go_simp; done) | (go_simp; rfl)) ?aP (fun _ hk => hk.elim) ?aF ?aO ?aB ?aS ?aL ?_; (case aP => exact k75_mkM _ _ _ (⟨wrap64 (t377), (⟨t385, t386, t387⟩ : S32)⟩ : S75)); (case aB => exact (by repeat (first | (with_reducible first | exact HB.out | apply below_alloc | apply pw_below_drewN | apply below_drew1 | refine below_set ?_ GE392.out) | exact HB.out))); (case aF => exact (fun k_ hk => (Nat.le_trans (below_size (by repeat (first | (with_reducible first | exact HB.out | apply below_alloc | apply pw_below_drewN | apply below_drew1 | refine below_set ?_ GE392.out) | exact HB.out))) hk))); (case aO => exact (by (with_reducible repeat (first | apply Kd.R_alloc | apply Kd.R_drewN | apply Kd.R_drew)); exact Kd.R_mono (Kd.R_far (p := ⟨gb392, 2, none⟩) (Kd.R_far (p := ⟨gb392, 1, none⟩) (Kd.R_far (p := ⟨gb392, 0, none⟩) (Kd.R_types HO_8.out BK392.out (by decide)) (fun _ hk => hk.2) (.int .i64 t385)) (fun _ hk => hk.2) (.int .i64 t386)) (fun _ hk => hk.2) (.string t387)) (fun _ hk => hk.1))); (case aS => exact (below_size (by repeat (first | (with_reducible first | exact HB.out | apply below_alloc | apply pw_below_drewN | apply below_drew1 | refine below_set ?_ GE392.out) | exact HB.out)))); (case aL => have := LMc37.out; omega); intro v398 w43 ho hb hg hat; rw [← Ny397.out] at ho; have n0_ := Aside0.mk (Kd.V_afterv (ok := (fun k_ => (P0_ k_ ∨ w.heap.size ≤ k_) ∧ k_ ≠ gb392)) (by (with_reducible repeat (first | apply Kd.V_alloc | apply Kd.V_drewN | apply Kd.V_drew)); exact Kd.V_mono (Kd.V_far (p := ⟨gb392, 2, none⟩) (Kd.V_far (p := ⟨gb392, 1, none⟩) (Kd.V_far (p := ⟨gb392, 0, none⟩) (Kd.V_mono HO_0.out (fun k_ hk => (⟨hk, hk.2⟩ : _ ∧ k_ ≠ gb392))) (fun _ hk => hk.2) (.int .i64 t385)) (fun _ hk => hk.2) (.int .i64 t386)) (fun _ hk => hk.2) (.string t387)) (fun _ hk => ⟨⟨hk.1.1.1, hk.1.2⟩, hk.1.1.2⟩)) hg hat); have n1_ := Aside0.mk (Kd.V_afterv (ok := (fun k_ => (P0_ k_ ∨ w.heap.size ≤ k_) ∧ k_ ≠ gb392)) (by (with_reducible repeat (first | apply Kd.V_alloc | apply Kd.V_drewN | apply Kd.V_drew)); exact Kd.V_mono (Kd.V_far (p := ⟨gb392, 2, none⟩) (Kd.V_far (p := ⟨gb392, 1, none⟩) (Kd.V_far (p := ⟨gb392, 0, none⟩) (Kd.V_mono HO384.out (fun k_ hk => (⟨hk, hk.2⟩ : _ ∧ k_ ≠ gb392))) (fun _ hk => hk.2) (.int .i64 t385)) (fun _ hk => hk.2) (.int .i64 t386)) (fun _ hk => hk.2) (.string t387)) (fun _ hk => ⟨⟨hk.1.1.1, hk.1.2⟩, hk.1.1.2⟩)) hg hat); have n2_ := Aside0.mk (Kd.V_afterv (ok := (fun k_ => (P0_ k_ ∨ w.heap.size ≤ k_) ∧ k_ ≠ gb392)) (by (with_reducible repeat (first | apply Kd.V_alloc | apply Kd.V_drewN | apply Kd.V_drew)); exact Kd.V_mono (Kd.V_far (p := ⟨gb392, 2, none⟩) (Kd.V_far (p := ⟨gb392, 1, none⟩) (Kd.V_far (p := ⟨gb392, 0, none⟩) (Kd.V_mono HO390.out (fun k_ hk => (⟨hk, hk.2⟩ : _ ∧ k_ ≠ gb392))) (fun _ hk => hk.2) (.int .i64 t385)) (fun _ hk => hk.2) (.int .i64 t386)) (fun _ hk => hk.2) (.string t387)) (fun _ hk => ⟨⟨hk.1.1.1, hk.1.2⟩, hk.1.1.2⟩)) hg hat); have n3_ := Aside0.mk (blk_grown (g := gb392) (o := .cells #[.int .i64 t385, .int .i64 t386, .string t387] 32 (0, 0)) (by (with_reducible repeat first | refine blk_drewN ?_ _ | refine blk_drew ?_ | refine blk_alloc ?_ _); refine blk_put (cs := #[.int .i64 t385, .int .i64 t386, .string (⟨#[]⟩ : ByteArray)]) ?_ 2 _ rfl; (with_reducible repeat first | refine blk_drewN ?_ _ | refine blk_drew ?_ | refine blk_alloc ?_ _); refine blk_put (cs := #[.int .i64 t385, .int .i64 0, .string (⟨#[]⟩ : ByteArray)]) ?_ 1 _ rfl; (with_reducible repeat first | refine blk_drewN ?_ _ | refine blk_drew ?_ | refine blk_alloc ?_ _); refine blk_put (cs := #[.int .i64 0, .int .i64 0, .string (⟨#[]⟩ : ByteArray)]) ?_ 0 _ rfl; (with_reducible repeat first | refine blk_drewN ?_ _ | refine blk_drew ?_ | refine blk_alloc ?_ _); exact BK392.out) hg (Kd.R_ne HO_8.out BK392.out (by decide))); have n4_ := Aside0.mk (hb); have n5_ := Aside0.mk (ho); clear HO_0; clear HO384; clear HO390; clear BK392; clear HB; clear HO_8; have HO_0 := n0_; have HO384 := n1_; have HO390 := n2_; have BK392 := n3_; have HB := n4_; have HO399 := n5_; clear n0_ n1_ n2_ n3_ n4_ n5_; clear ho hb hg hat)); try go_wp2_with (first | (go_at_call 54; (with_reducible refine (ref05_Of.calls kj11 (fun k_ => ((P0_ k_ ∨ w.heap.size ≤ k_) ∧ some k_ ≠ (u8 : Value).ownBlock)) _ _ y380 a2 t385 t386 t387 t388 t391 _ ?side1 A18.out).mono ?_); (case side1 => exact HO384.out); rintro e w39 ⟨v389, rfl, ho0, hb⟩; have n0_ := Aside0.mk (Kd.V_below (by (with_reducible repeat (first | apply Kd.V_alloc | apply Kd.V_drewN | apply Kd.V_drew)); exact HO_0.out) hb); have n1_ := Aside0.mk (Kd.R_below (by (with_reducible repeat (first | apply Kd.R_alloc | apply Kd.R_drewN | apply Kd.R_drew)); exact HO_8.out) hb); have n2_ := Aside0.mk (Kd.V_below (by (with_reducible repeat (first | apply Kd.V_alloc | apply Kd.V_drewN | apply Kd.V_drew)); exact HO384.out) hb); have n3_ := Aside0.mk (Kd.V_lower (Kd.V_mono (ok' := fun k_ => (P0_ k_ ∨ w.heap.size ≤ k_) ∧ some k_ ≠ (u8 : Value).ownBlock) ho0 (fun k_ hk_ => ⟨Or.elim hk_ (fun hs_ => hs_.1) (fun hn_ => (.inr (Nat.le_trans (below_size (by repeat (with_reducible first | exact HB.out | apply below_alloc | apply pw_below_drewN | apply below_drew1))) hn_))), Or.elim hk_ (fun hs_ => hs_.2) (fun hn_ => (Kd.fresh' (Kd.R_lt (by (with_reducible repeat (first | apply Kd.R_alloc | apply Kd.R_drewN | apply Kd.R_drew)); exact HO_8.out)) k_ hn_))⟩)) (below_size (by repeat (with_reducible first | exact HB.out | apply below_alloc | apply pw_below_drewN | apply below_drew1)))); have n4_ := Aside0.mk (below_step (by repeat (with_reducible first | exact HB.out | apply below_alloc | apply pw_below_drewN | apply below_drew1)) hb); clear HO_0; clear HO_8; clear HO384; clear HB; have HO_0 := n0_; have HO_8 := n1_; have HO384 := n2_; have HO390 := n3_; have HB := n4_; clear n0_ n1_ n2_ n3_ n4_; (try clear hb); (try clear hb2); (try clear hk); (try clear hi); (try clear ho0)) | ((with_reducible refine gate_dst (N := 13) rfl ?_); (try (refine gate_guard (by rfl) ?_; dsimp only)); refine box_event ?hg (N := 13) ?hd (cs := #[.int .i64 0, .int .i64 0, .string (⟨#[]⟩ : ByteArray)]) (t := 32) ?hr ?_; (case hd => rfl); (case hg => rfl); (case hr => first | (go_simp; done) | (go_simp; rfl)); intro gb392 hg w40 hbox hb; have n0_ := Aside0.mk (Kd.V_below (Kd.V_elderB (by (with_reducible repeat (first | apply Kd.V_alloc | apply Kd.V_drewN | apply Kd.V_drew)); exact HO_0.out) gb392 (Nat.le_of_eq hg.symm)) hb); have n1_ := Aside0.mk (Kd.R_below (by (with_reducible repeat (first | apply Kd.R_alloc | apply Kd.R_drewN | apply Kd.R_drew)); exact HO_8.out) hb); have n2_ := Aside0.mk (Kd.V_below (Kd.V_elderB (by (with_reducible repeat (first | apply Kd.V_alloc | apply Kd.V_drewN | apply Kd.V_drew)); exact HO384.out) gb392 (Nat.le_of_eq hg.symm)) hb); have n3_ := Aside0.mk (Kd.V_below (Kd.V_elderB (by (with_reducible repeat (first | apply Kd.V_alloc | apply Kd.V_drewN | apply Kd.V_drew)); exact HO390.out) gb392 (Nat.le_of_eq hg.symm)) hb); have n4_ := Aside0.mk (below_step (by repeat (with_reducible first | exact HB.out | apply below_alloc | apply pw_below_drewN | apply below_drew1)) hb); have n5_ := Aside0.mk (hbox); have n6_ := Aside0.mk ((by rw [hg]; exact (below_size (by repeat (with_reducible first | exact HB.out | apply below_alloc | apply pw_below_drewN | apply below_drew1))) : w.heap.size ≤ gb392)); have n7_ := Aside0.mk ((by rw [hg]; exact (below_size (by repeat (with_reducible first | exact HB.out | apply below_alloc | apply pw_below_drewN | apply below_drew1))) : w.heap.size ≤ gb392)); clear HO_0; clear HO_8; clear HO384; clear HO390; clear HB; have HO_0 := n0_; have HO_8 := n1_; have HO384 := n2_; have HO390 := n3_; have HB := n4_; have BK392 := n5_; have GW392 := n6_; have GE392 := n7_; clear n0_ n1_ n2_ n3_ n4_ n5_ n6_ n7_; clear hb hbox hg; have hcz41_0 : w40.cell? ⟨gb392, 0, none⟩ = some (.int .i64 0) := (blk_cell BK392.out 0).trans rfl; have hcz41_1 : w40.cell? ⟨gb392, 1, none⟩ = some (.int .i64 0) := (blk_cell BK392.out 1).trans rfl; have hcz41_2 : w40.cell? ⟨gb392, 2, none⟩ = some (.string (⟨#[]⟩ : ByteArray)) := (blk_cell BK392.out 2).trans rfl; have hfz41_0 := blk_frozen BK392.out 0; have hfz41_1 := blk_frozen BK392.out 1; have hfz41_2 := blk_frozen BK392.out 2; obtain ⟨Ao42, co42, eo42⟩ := Kd.R_slice HO_8.out; subst eo42) | ((with_reducible refine gate_builtin (b := .append) (xs := #[.tmp 71, .tmp 76]) rfl ?_); (try (refine gate_guard (by rfl) ?_; dsimp only)); at_builtin; refine Kd.R_append k75 (w0 := w) w.heap.size rfl (.tmp 71) (.tmp 76) 54 75 (.agg #[(.int .i64 0), (.int .i64 0), (.int .i64 0), (.string ⟨#[]⟩)]) 40 rfl Try.underlying54 info75 rfl (by decide) (by omega) (.slice Ao42 x8_2.length co42) x8_2 (⟨wrap64 (t377), (⟨t385, t386, t387⟩ : S32)⟩ : S75) [.int .i64 (wrap64 (t377)), .int .i64 t385, .int .i64 t386, .string t387] (fun k_ => (w.heap.size ≤ k_)) (fun _ => False) rfl (by first | (go_simp; done) | (go_simp; rfl)) ?aP (fun _ hk => hk.elim) ?aF ?aO ?aB ?aS ?aL ?_; (case aP => exact k75_mkM _ _ _ (⟨wrap64 (t377), (⟨t385, t386, t387⟩ : S32)⟩ : S75)); (case aB => exact (by repeat (first | (with_reducible first | exact HB.out | apply below_alloc | apply pw_below_drewN | apply below_drew1 | refine below_set ?_ GE392.out) | exact HB.out))); (case aF => exact (fun k_ hk => (Nat.le_trans (below_size (by repeat (first | (with_reducible first | exact HB.out | apply below_alloc | apply pw_below_drewN | apply below_drew1 | refine below_set ?_ GE392.out) | exact HB.out))) hk))); (case aO => exact (by (with_reducible repeat (first | apply Kd.R_alloc | apply Kd.R_drewN | apply Kd.R_drew)); exact Kd.R_mono (Kd.R_far (p := ⟨gb392, 2, none⟩) (Kd.R_far (p := ⟨gb392, 1, none⟩) (Kd.R_far (p := ⟨gb392, 0, none⟩) (Kd.R_types HO_8.out BK392.out (by decide)) (fun _ hk => hk.2) (.int .i64 t385)) (fun _ hk => hk.2) (.int .i64 t386)) (fun _ hk => hk.2) (.string t387)) (fun _ hk => hk.1))); (case aS => exact (below_size (by repeat (first | (with_reducible first | exact HB.out | apply below_alloc | apply pw_below_drewN | apply below_drew1 | refine below_set ?_ GE392.out) | exact HB.out)))); (case aL => have := LMc37.out; omega); intro v398 w43 ho hb hg hat; rw [← Ny397.out] at ho; have n0_ := Aside0.mk (Kd.V_afterv (ok := (fun k_ => (P0_ k_ ∨ w.heap.size ≤ k_) ∧ k_ ≠ gb392)) (by (with_reducible repeat (first | apply Kd.V_alloc | apply Kd.V_drewN | apply Kd.V_drew)); exact Kd.V_mono (Kd.V_far (p := ⟨gb392, 2, none⟩) (Kd.V_far (p := ⟨gb392, 1, none⟩) (Kd.V_far (p := ⟨gb392, 0, none⟩) (Kd.V_mono HO_0.out (fun k_ hk => (⟨hk, hk.2⟩ : _ ∧ k_ ≠ gb392))) (fun _ hk => hk.2) (.int .i64 t385)) (fun _ hk => hk.2) (.int .i64 t386)) (fun _ hk => hk.2) (.string t387)) (fun _ hk => ⟨⟨hk.1.1.1, hk.1.2⟩, hk.1.1.2⟩)) hg hat); have n1_ := Aside0.mk (Kd.V_afterv (ok := (fun k_ => (P0_ k_ ∨ w.heap.size ≤ k_) ∧ k_ ≠ gb392)) (by (with_reducible repeat (first | apply Kd.V_alloc | apply Kd.V_drewN | apply Kd.V_drew)); exact Kd.V_mono (Kd.V_far (p := ⟨gb392, 2, none⟩) (Kd.V_far (p := ⟨gb392, 1, none⟩) (Kd.V_far (p := ⟨gb392, 0, none⟩) (Kd.V_mono HO384.out (fun k_ hk => (⟨hk, hk.2⟩ : _ ∧ k_ ≠ gb392))) (fun _ hk => hk.2) (.int .i64 t385)) (fun _ hk => hk.2) (.int .i64 t386)) (fun _ hk => hk.2) (.string t387)) (fun _ hk => ⟨⟨hk.1.1.1, hk.1.2⟩, hk.1.1.2⟩)) hg hat); have n2_ := Aside0.mk (Kd.V_afterv (ok := (fun k_ => (P0_ k_ ∨ w.heap.size ≤ k_) ∧ k_ ≠ gb392)) (by (with_reducible repeat (first | apply Kd.V_alloc | apply Kd.V_drewN | apply Kd.V_drew)); exact Kd.V_mono (Kd.V_far (p := ⟨gb392, 2, none⟩) (Kd.V_far (p := ⟨gb392, 1, none⟩) (Kd.V_far (p := ⟨gb392, 0, none⟩) (Kd.V_mono HO390.out (fun k_ hk => (⟨hk, hk.2⟩ : _ ∧ k_ ≠ gb392))) (fun _ hk => hk.2) (.int .i64 t385)) (fun _ hk => hk.2) (.int .i64 t386)) (fun _ hk => hk.2) (.string t387)) (fun _ hk => ⟨⟨hk.1.1.1, hk.1.2⟩, hk.1.1.2⟩)) hg hat); have n3_ := Aside0.mk (blk_grown (g := gb392) (o := .cells #[.int .i64 t385, .int .i64 t386, .string t387] 32 (0, 0)) (by (with_reducible repeat first | refine blk_drewN ?_ _ | refine blk_drew ?_ | refine blk_alloc ?_ _); refine blk_put (cs := #[.int .i64 t385, .int .i64 t386, .string (⟨#[]⟩ : ByteArray)]) ?_ 2 _ rfl; (with_reducible repeat first | refine blk_drewN ?_ _ | refine blk_drew ?_ | refine blk_alloc ?_ _); refine blk_put (cs := #[.int .i64 t385, .int .i64 0, .string (⟨#[]⟩ : ByteArray)]) ?_ 1 _ rfl; (with_reducible repeat first | refine blk_drewN ?_ _ | refine blk_drew ?_ | refine blk_alloc ?_ _); refine blk_put (cs := #[.int .i64 0, .int .i64 0, .string (⟨#[]⟩ : ByteArray)]) ?_ 0 _ rfl; (with_reducible repeat first | refine blk_drewN ?_ _ | refine blk_drew ?_ | refine blk_alloc ?_ _); exact BK392.out) hg (Kd.R_ne HO_8.out BK392.out (by decide))); have n4_ := Aside0.mk (hb); have n5_ := Aside0.mk (ho); clear HO_0; clear HO384; clear HO390; clear BK392; clear HB; clear HO_8; have HO_0 := n0_; have HO384 := n1_; have HO390 := n2_; have BK392 := n3_; have HB := n4_; have HO399 := n5_; clear n0_ n1_ n2_ n3_ n4_ n5_; clear ho hb hg hat)))
                 go_roundg kj11
                 case measure => have := HJ5.out; have := HK2.out; have := HJ11.out; omega
                 case rel => exact ⟨(t388), (y397), (wrap64 (x9_2 - (wrap64 (t377)))), (by first | rfl | (simp; done) | (simp [*]; done)), H', ⟨by have := HJ5.out; have := HK2.out; have := HJ11.out; omega⟩, ⟨by (with_reducible repeat (first | apply Kd.V_alloc | apply Kd.V_drewN | apply Kd.V_drew)); exact Kd.V_mono HO390.out (fun _ hk => ⟨hk.1.1, hk.2⟩)⟩, ⟨by (with_reducible repeat (first | apply Kd.R_alloc | apply Kd.R_drewN | apply Kd.R_drew)); exact HO399.out⟩, ⟨by repeat (first | (with_reducible first | exact HB.out | apply below_alloc | apply pw_below_drewN | apply below_drew1 | refine below_set ?_ GE392.out) | exact HB.out)⟩⟩
                ·
                 rw [if_neg c37] at H
                 exact absurd H (by simp)
              ·
               rw [if_neg c19] at H
               have c19b0 : (t391 == 0) = false := beq_eq_false_iff_ne.mpr c19
               have c19b1 : (t391 != 0) = true := bne_iff_ne.mpr c19
               simp only [Option.some.injEq, Prod.mk.injEq] at H
               obtain ⟨rfl, rfl⟩ := H
               have q44 : (t378 : Int) ≤ ((x0_2.length : Int) : Int) := of_decide_eq_true (by first | (with_reducible assumption) | assumption)
               obtain ⟨i044, hi044, _, hsz44, _⟩ := info_parts info5
               have hroom44 : x0_2.length ≤ co13 := (Kd.V_reads' HO_0.out).2.1
               have hC44 : Kd.F (Kd.int .u8) _ _ Ao13 x0_2.length x0_2 := (Kd.V_at (base := w.heap.size) HO_0.out).2.2
               have q044 : (0 : Int) ≤ (t378 : Int) := of_decide_eq_true (by first | (with_reducible assumption) | assumption)
               have hcut44 := cut_from (P := Try.prog) 25 5 .i64 Try.underlying25 hi044 1 hsz44 Ao13 x0_2.length co13 t378 q044 q44
               have hr44 := Kd.F_cut (m := (t378 : Int).toNat) (c := co13) hC44 (by omega) hroom44
               obtain ⟨A44, hA44⟩ : ∃ A1, A1 = (if co13 = (t378 : Int).toNat then Ao13 else (Ao13 : Option Addr).map (·.add ((t378 : Int).toNat * 1))) := ⟨_, rfl⟩
               obtain ⟨c44, hc44⟩ : ∃ c1, c1 = co13 - (t378 : Int).toNat := ⟨_, rfl⟩
               have hy44 : y380.length = x0_2.length - (t378 : Int).toNat := (by rw [Ny380.out, List.length_drop] <;> omega)
               rw [show (x0_2).drop (t378 : Int).toNat = y380 from Ny380.out.symm] at hr44
               replace hr44 : Kd.F (Kd.int .u8) _ _ A44 y380.length y380 := (by rw [hA44]; exact hr44)
               rw [← hy44, ← hA44, ← hc44] at hcut44
               have HO384 := Aside0.mk (show Kd.V (Kd.int .u8) 5 _ w.heap.size _ (.slice A44 y380.length c44) y380 from Kd.V_mk (by rw [hy44, hc44]; exact Nat.sub_le_sub_right hroom44 _) hr44)
               have HC384 := Aside0.mk (show y380.length ≤ c44 from by rw [hy44, hc44]; exact Nat.sub_le_sub_right hroom44 _)
               clear hr44 hC44 hroom44 hi044 hsz44 hc44
               have KY44 := Aside0.mk hy44
               have KA44 := Aside0.mk hA44
               clear hy44 hA44
               replace q44 := eq_true q44
               go_wp2_with (first | (go_at_call 54; (with_reducible refine (ref05_Of.calls kj11 (fun k_ => ((P0_ k_ ∨ w.heap.size ≤ k_) ∧ some k_ ≠ (u8 : Value).ownBlock)) _ _ y380 a2 t385 t386 t387 t388 t391 _ ?side1 A18.out).mono ?_); (case side1 => exact HO384.out); rintro e w45 ⟨v389, rfl, ho0, hb⟩; have n0_ := Aside0.mk (Kd.V_below (by (with_reducible repeat (first | apply Kd.V_alloc | apply Kd.V_drewN | apply Kd.V_drew)); exact HO_0.out) hb); have n1_ := Aside0.mk (Kd.R_below (by (with_reducible repeat (first | apply Kd.R_alloc | apply Kd.R_drewN | apply Kd.R_drew)); exact HO_8.out) hb); have n2_ := Aside0.mk (Kd.V_below (by (with_reducible repeat (first | apply Kd.V_alloc | apply Kd.V_drewN | apply Kd.V_drew)); exact HO384.out) hb); have n3_ := Aside0.mk (Kd.V_lower (Kd.V_mono (ok' := fun k_ => (P0_ k_ ∨ w.heap.size ≤ k_) ∧ some k_ ≠ (u8 : Value).ownBlock) ho0 (fun k_ hk_ => ⟨Or.elim hk_ (fun hs_ => hs_.1) (fun hn_ => (.inr (Nat.le_trans (below_size (by repeat (with_reducible first | exact HB.out | apply below_alloc | apply pw_below_drewN | apply below_drew1))) hn_))), Or.elim hk_ (fun hs_ => hs_.2) (fun hn_ => (Kd.fresh' (Kd.R_lt (by (with_reducible repeat (first | apply Kd.R_alloc | apply Kd.R_drewN | apply Kd.R_drew)); exact HO_8.out)) k_ hn_))⟩)) (below_size (by repeat (with_reducible first | exact HB.out | apply below_alloc | apply pw_below_drewN | apply below_drew1)))); have n4_ := Aside0.mk (below_step (by repeat (with_reducible first | exact HB.out | apply below_alloc | apply pw_below_drewN | apply below_drew1)) hb); clear HO_0; clear HO_8; clear HO384; clear HB; have HO_0 := n0_; have HO_8 := n1_; have HO384 := n2_; have HO390 := n3_; have HB := n4_; clear n0_ n1_ n2_ n3_ n4_; (try clear hb); (try clear hb2); (try clear hk); (try clear hi); (try clear ho0)) | ((with_reducible refine gate_dst (N := 13) rfl ?_); (try (refine gate_guard (by rfl) ?_; dsimp only)); refine box_event ?hg (N := 13) ?hd (cs := #[.int .i64 0, .int .i64 0, .string (⟨#[]⟩ : ByteArray)]) (t := 32) ?hr ?_; (case hd => rfl); (case hg => rfl); (case hr => first | (go_simp; done) | (go_simp; rfl)); intro gb392 hg w46 hbox hb; have n0_ := Aside0.mk (Kd.V_below (Kd.V_elderB (by (with_reducible repeat (first | apply Kd.V_alloc | apply Kd.V_drewN | apply Kd.V_drew)); exact HO_0.out) gb392 (Nat.le_of_eq hg.symm)) hb); have n1_ := Aside0.mk (Kd.R_below (by (with_reducible repeat (first | apply Kd.R_alloc | apply Kd.R_drewN | apply Kd.R_drew)); exact HO_8.out) hb); have n2_ := Aside0.mk (Kd.V_below (Kd.V_elderB (by (with_reducible repeat (first | apply Kd.V_alloc | apply Kd.V_drewN | apply Kd.V_drew)); exact HO384.out) gb392 (Nat.le_of_eq hg.symm)) hb); have n3_ := Aside0.mk (Kd.V_below (Kd.V_elderB (by (with_reducible repeat (first | apply Kd.V_alloc | apply Kd.V_drewN | apply Kd.V_drew)); exact HO390.out) gb392 (Nat.le_of_eq hg.symm)) hb); have n4_ := Aside0.mk (below_step (by repeat (with_reducible first | exact HB.out | apply below_alloc | apply pw_below_drewN | apply below_drew1)) hb); have n5_ := Aside0.mk (hbox); have n6_ := Aside0.mk ((by rw [hg]; exact (below_size (by repeat (with_reducible first | exact HB.out | apply below_alloc | apply pw_below_drewN | apply below_drew1))) : w.heap.size ≤ gb392)); have n7_ := Aside0.mk ((by rw [hg]; exact (below_size (by repeat (with_reducible first | exact HB.out | apply below_alloc | apply pw_below_drewN | apply below_drew1))) : w.heap.size ≤ gb392)); clear HO_0; clear HO_8; clear HO384; clear HO390; clear HB; have HO_0 := n0_; have HO_8 := n1_; have HO384 := n2_; have HO390 := n3_; have HB := n4_; have BK392 := n5_; have GW392 := n6_; have GE392 := n7_; clear n0_ n1_ n2_ n3_ n4_ n5_ n6_ n7_; clear hb hbox hg; have hcz47_0 : w46.cell? ⟨gb392, 0, none⟩ = some (.int .i64 0) := (blk_cell BK392.out 0).trans rfl; have hcz47_1 : w46.cell? ⟨gb392, 1, none⟩ = some (.int .i64 0) := (blk_cell BK392.out 1).trans rfl; have hcz47_2 : w46.cell? ⟨gb392, 2, none⟩ = some (.string (⟨#[]⟩ : ByteArray)) := (blk_cell BK392.out 2).trans rfl; have hfz47_0 := blk_frozen BK392.out 0; have hfz47_1 := blk_frozen BK392.out 1; have hfz47_2 := blk_frozen BK392.out 2))
               repeat (go_quiet (first | (go_at_call 54; (with_reducible refine (ref05_Of.calls kj11 (fun k_ => ((P0_ k_ ∨ w.heap.size ≤ k_) ∧ some k_ ≠ (u8 : Value).ownBlock)) _ _ y380 a2 t385 t386 t387 t388 t391 _ ?side1 A18.out).mono ?_); (case side1 => exact HO384.out); rintro e w45 ⟨v389, rfl, ho0, hb⟩; have n0_ := Aside0.mk (Kd.V_below (by (with_reducible repeat (first | apply Kd.V_alloc | apply Kd.V_drewN | apply Kd.V_drew)); exact HO_0.out) hb); have n1_ := Aside0.mk (Kd.R_below (by (with_reducible repeat (first | apply Kd.R_alloc | apply Kd.R_drewN | apply Kd.R_drew)); exact HO_8.out) hb); have n2_ := Aside0.mk (Kd.V_below (by (with_reducible repeat (first | apply Kd.V_alloc | apply Kd.V_drewN | apply Kd.V_drew)); exact HO384.out) hb); have n3_ := Aside0.mk (Kd.V_lower (Kd.V_mono (ok' := fun k_ => (P0_ k_ ∨ w.heap.size ≤ k_) ∧ some k_ ≠ (u8 : Value).ownBlock) ho0 (fun k_ hk_ => ⟨Or.elim hk_ (fun hs_ => hs_.1) (fun hn_ => (.inr (Nat.le_trans (below_size (by repeat (with_reducible first | exact HB.out | apply below_alloc | apply pw_below_drewN | apply below_drew1))) hn_))), Or.elim hk_ (fun hs_ => hs_.2) (fun hn_ => (Kd.fresh' (Kd.R_lt (by (with_reducible repeat (first | apply Kd.R_alloc | apply Kd.R_drewN | apply Kd.R_drew)); exact HO_8.out)) k_ hn_))⟩)) (below_size (by repeat (with_reducible first | exact HB.out | apply below_alloc | apply pw_below_drewN | apply below_drew1)))); have n4_ := Aside0.mk (below_step (by repeat (with_reducible first | exact HB.out | apply below_alloc | apply pw_below_drewN | apply below_drew1)) hb); clear HO_0; clear HO_8; clear HO384; clear HB; have HO_0 := n0_; have HO_8 := n1_; have HO384 := n2_; have HO390 := n3_; have HB := n4_; clear n0_ n1_ n2_ n3_ n4_; (try clear hb); (try clear hb2); (try clear hk); (try clear hi); (try clear ho0)) | ((with_reducible refine gate_dst (N := 13) rfl ?_); (try (refine gate_guard (by rfl) ?_; dsimp only)); refine box_event ?hg (N := 13) ?hd (cs := #[.int .i64 0, .int .i64 0, .string (⟨#[]⟩ : ByteArray)]) (t := 32) ?hr ?_; (case hd => rfl); (case hg => rfl); (case hr => first | (go_simp; done) | (go_simp; rfl)); intro gb392 hg w46 hbox hb; have n0_ := Aside0.mk (Kd.V_below (Kd.V_elderB (by (with_reducible repeat (first | apply Kd.V_alloc | apply Kd.V_drewN | apply Kd.V_drew)); exact HO_0.out) gb392 (Nat.le_of_eq hg.symm)) hb); have n1_ := Aside0.mk (Kd.R_below (by (with_reducible repeat (first | apply Kd.R_alloc | apply Kd.R_drewN | apply Kd.R_drew)); exact HO_8.out) hb); have n2_ := Aside0.mk (Kd.V_below (Kd.V_elderB (by (with_reducible repeat (first | apply Kd.V_alloc | apply Kd.V_drewN | apply Kd.V_drew)); exact HO384.out) gb392 (Nat.le_of_eq hg.symm)) hb); have n3_ := Aside0.mk (Kd.V_below (Kd.V_elderB (by (with_reducible repeat (first | apply Kd.V_alloc | apply Kd.V_drewN | apply Kd.V_drew)); exact HO390.out) gb392 (Nat.le_of_eq hg.symm)) hb); have n4_ := Aside0.mk (below_step (by repeat (with_reducible first | exact HB.out | apply below_alloc | apply pw_below_drewN | apply below_drew1)) hb); have n5_ := Aside0.mk (hbox); have n6_ := Aside0.mk ((by rw [hg]; exact (below_size (by repeat (with_reducible first | exact HB.out | apply below_alloc | apply pw_below_drewN | apply below_drew1))) : w.heap.size ≤ gb392)); have n7_ := Aside0.mk ((by rw [hg]; exact (below_size (by repeat (with_reducible first | exact HB.out | apply below_alloc | apply pw_below_drewN | apply below_drew1))) : w.heap.size ≤ gb392)); clear HO_0; clear HO_8; clear HO384; clear HO390; clear HB; have HO_0 := n0_; have HO_8 := n1_; have HO384 := n2_; have HO390 := n3_; have HB := n4_; have BK392 := n5_; have GW392 := n6_; have GE392 := n7_; clear n0_ n1_ n2_ n3_ n4_ n5_ n6_ n7_; clear hb hbox hg; have hcz47_0 : w46.cell? ⟨gb392, 0, none⟩ = some (.int .i64 0) := (blk_cell BK392.out 0).trans rfl; have hcz47_1 : w46.cell? ⟨gb392, 1, none⟩ = some (.int .i64 0) := (blk_cell BK392.out 1).trans rfl; have hcz47_2 : w46.cell? ⟨gb392, 2, none⟩ = some (.string (⟨#[]⟩ : ByteArray)) := (blk_cell BK392.out 2).trans rfl; have hfz47_0 := blk_frozen BK392.out 0; have hfz47_1 := blk_frozen BK392.out 1; have hfz47_2 := blk_frozen BK392.out 2)); try go_wp2_with (first | (go_at_call 54; (with_reducible refine (ref05_Of.calls kj11 (fun k_ => ((P0_ k_ ∨ w.heap.size ≤ k_) ∧ some k_ ≠ (u8 : Value).ownBlock)) _ _ y380 a2 t385 t386 t387 t388 t391 _ ?side1 A18.out).mono ?_); (case side1 => exact HO384.out); rintro e w45 ⟨v389, rfl, ho0, hb⟩; have n0_ := Aside0.mk (Kd.V_below (by (with_reducible repeat (first | apply Kd.V_alloc | apply Kd.V_drewN | apply Kd.V_drew)); exact HO_0.out) hb); have n1_ := Aside0.mk (Kd.R_below (by (with_reducible repeat (first | apply Kd.R_alloc | apply Kd.R_drewN | apply Kd.R_drew)); exact HO_8.out) hb); have n2_ := Aside0.mk (Kd.V_below (by (with_reducible repeat (first | apply Kd.V_alloc | apply Kd.V_drewN | apply Kd.V_drew)); exact HO384.out) hb); have n3_ := Aside0.mk (Kd.V_lower (Kd.V_mono (ok' := fun k_ => (P0_ k_ ∨ w.heap.size ≤ k_) ∧ some k_ ≠ (u8 : Value).ownBlock) ho0 (fun k_ hk_ => ⟨Or.elim hk_ (fun hs_ => hs_.1) (fun hn_ => (.inr (Nat.le_trans (below_size (by repeat (with_reducible first | exact HB.out | apply below_alloc | apply pw_below_drewN | apply below_drew1))) hn_))), Or.elim hk_ (fun hs_ => hs_.2) (fun hn_ => (Kd.fresh' (Kd.R_lt (by (with_reducible repeat (first | apply Kd.R_alloc | apply Kd.R_drewN | apply Kd.R_drew)); exact HO_8.out)) k_ hn_))⟩)) (below_size (by repeat (with_reducible first | exact HB.out | apply below_alloc | apply pw_below_drewN | apply below_drew1)))); have n4_ := Aside0.mk (below_step (by repeat (with_reducible first | exact HB.out | apply below_alloc | apply pw_below_drewN | apply below_drew1)) hb); clear HO_0; clear HO_8; clear HO384; clear HB; have HO_0 := n0_; have HO_8 := n1_; have HO384 := n2_; have HO390 := n3_; have HB := n4_; clear n0_ n1_ n2_ n3_ n4_; (try clear hb); (try clear hb2); (try clear hk); (try clear hi); (try clear ho0)) | ((with_reducible refine gate_dst (N := 13) rfl ?_); (try (refine gate_guard (by rfl) ?_; dsimp only)); refine box_event ?hg (N := 13) ?hd (cs := #[.int .i64 0, .int .i64 0, .string (⟨#[]⟩ : ByteArray)]) (t := 32) ?hr ?_; (case hd => rfl); (case hg => rfl); (case hr => first | (go_simp; done) | (go_simp; rfl)); intro gb392 hg w46 hbox hb; have n0_ := Aside0.mk (Kd.V_below (Kd.V_elderB (by (with_reducible repeat (first | apply Kd.V_alloc | apply Kd.V_drewN | apply Kd.V_drew)); exact HO_0.out) gb392 (Nat.le_of_eq hg.symm)) hb); have n1_ := Aside0.mk (Kd.R_below (by (with_reducible repeat (first | apply Kd.R_alloc | apply Kd.R_drewN | apply Kd.R_drew)); exact HO_8.out) hb); have n2_ := Aside0.mk (Kd.V_below (Kd.V_elderB (by (with_reducible repeat (first | apply Kd.V_alloc | apply Kd.V_drewN | apply Kd.V_drew)); exact HO384.out) gb392 (Nat.le_of_eq hg.symm)) hb); have n3_ := Aside0.mk (Kd.V_below (Kd.V_elderB (by (with_reducible repeat (first | apply Kd.V_alloc | apply Kd.V_drewN | apply Kd.V_drew)); exact HO390.out) gb392 (Nat.le_of_eq hg.symm)) hb); have n4_ := Aside0.mk (below_step (by repeat (with_reducible first | exact HB.out | apply below_alloc | apply pw_below_drewN | apply below_drew1)) hb); have n5_ := Aside0.mk (hbox); have n6_ := Aside0.mk ((by rw [hg]; exact (below_size (by repeat (with_reducible first | exact HB.out | apply below_alloc | apply pw_below_drewN | apply below_drew1))) : w.heap.size ≤ gb392)); have n7_ := Aside0.mk ((by rw [hg]; exact (below_size (by repeat (with_reducible first | exact HB.out | apply below_alloc | apply pw_below_drewN | apply below_drew1))) : w.heap.size ≤ gb392)); clear HO_0; clear HO_8; clear HO384; clear HO390; clear HB; have HO_0 := n0_; have HO_8 := n1_; have HO384 := n2_; have HO390 := n3_; have HB := n4_; have BK392 := n5_; have GW392 := n6_; have GE392 := n7_; clear n0_ n1_ n2_ n3_ n4_ n5_ n6_ n7_; clear hb hbox hg; have hcz47_0 : w46.cell? ⟨gb392, 0, none⟩ = some (.int .i64 0) := (blk_cell BK392.out 0).trans rfl; have hcz47_1 : w46.cell? ⟨gb392, 1, none⟩ = some (.int .i64 0) := (blk_cell BK392.out 1).trans rfl; have hcz47_2 : w46.cell? ⟨gb392, 2, none⟩ = some (.string (⟨#[]⟩ : ByteArray)) := (blk_cell BK392.out 2).trans rfl; have hfz47_0 := blk_frozen BK392.out 0; have hfz47_1 := blk_frozen BK392.out 1; have hfz47_2 := blk_frozen BK392.out 2)))
               go_ret2
               exact ⟨_, by first | rfl | (simp [errW_none, errW_some] <;> rfl) | (simp [*, errW_none, errW_some] <;> rfl), by first | exact Kd.R_nil _ _ _ _ _ | exact Kd.N_nil _ _ _ _ _ | exact Kd.V_nil _ _ _ _ _ | exact Kd.Q_nil _ _ _ _ _ | exact Kd.S_nil _ _ _ _ _, by repeat (first | (with_reducible first | exact HB.out | apply below_alloc | apply pw_below_drewN | apply below_drew1 | refine below_set ?_ GE392.out) | exact HB.out)⟩
             ·
              rw [if_neg c17] at H
              exact absurd H (by simp)
            ·
             rw [if_neg c16] at H
             exact absurd H (by simp)
        ·
         rw [if_neg c11] at H
         have c11b0 : (t379 == 0) = false := beq_eq_false_iff_ne.mpr c11
         have c11b1 : (t379 != 0) = true := bne_iff_ne.mpr c11
         simp only [Option.some.injEq, Prod.mk.injEq] at H
         obtain ⟨rfl, rfl⟩ := H
         obtain ⟨Ao48, co48, eo48⟩ := Kd.V_slice HO_0.out
         subst eo48
         go_wp2_with (first | (go_at_call 53; (with_reducible refine (ref02_Get.calls k2 _ _ x0_2 t377 t378 t379 _ ?side1 ?side2 A10.out).mono ?_); (case side1 => repeat (first | exact (Kd.V_reads' HO_0.out).2.2 | (with_reducible refine Kd.C_alloc ?_ _) | (with_reducible refine Kd.C_drewN ?_ _) | (with_reducible refine Kd.C_drew ?_))); (case side2 => exact (Kd.V_reads' HO_0.out).2.1); rintro e w' ⟨rfl, ⟨nd, rfl⟩⟩; (try first | exact ⟨rfl, _, World.drewN_drewN _ _ _⟩ | exact ⟨rfl, _, Eq.trans (World.drewN_drewN _ _ _) (congrArg (World.drewN _) (Nat.add_assoc _ _ _))⟩)))
         repeat (go_quiet (first | (go_at_call 53; (with_reducible refine (ref02_Get.calls k2 _ _ x0_2 t377 t378 t379 _ ?side1 ?side2 A10.out).mono ?_); (case side1 => repeat (first | exact (Kd.V_reads' HO_0.out).2.2 | (with_reducible refine Kd.C_alloc ?_ _) | (with_reducible refine Kd.C_drewN ?_ _) | (with_reducible refine Kd.C_drew ?_))); (case side2 => exact (Kd.V_reads' HO_0.out).2.1); rintro e w' ⟨rfl, ⟨nd, rfl⟩⟩; (try first | exact ⟨rfl, _, World.drewN_drewN _ _ _⟩ | exact ⟨rfl, _, Eq.trans (World.drewN_drewN _ _ _) (congrArg (World.drewN _) (Nat.add_assoc _ _ _))⟩))); try go_wp2_with (first | (go_at_call 53; (with_reducible refine (ref02_Get.calls k2 _ _ x0_2 t377 t378 t379 _ ?side1 ?side2 A10.out).mono ?_); (case side1 => repeat (first | exact (Kd.V_reads' HO_0.out).2.2 | (with_reducible refine Kd.C_alloc ?_ _) | (with_reducible refine Kd.C_drewN ?_ _) | (with_reducible refine Kd.C_drew ?_))); (case side2 => exact (Kd.V_reads' HO_0.out).2.1); rintro e w' ⟨rfl, ⟨nd, rfl⟩⟩; (try first | exact ⟨rfl, _, World.drewN_drewN _ _ _⟩ | exact ⟨rfl, _, Eq.trans (World.drewN_drewN _ _ _) (congrArg (World.drewN _) (Nat.add_assoc _ _ _))⟩))))
         go_ret2
         exact ⟨_, by first | rfl | (simp [errW_none, errW_some] <;> rfl) | (simp [*, errW_none, errW_some] <;> rfl), by first | exact Kd.R_nil _ _ _ _ _ | exact Kd.N_nil _ _ _ _ _ | exact Kd.V_nil _ _ _ _ _ | exact Kd.Q_nil _ _ _ _ _ | exact Kd.S_nil _ _ _ _ _, by repeat (with_reducible first | exact HB.out | apply below_alloc | apply pw_below_drewN | apply below_drew1)⟩
       ·
        rw [if_neg c9] at H
        have c9b0 : decide (0 < x9_2) = false := decide_eq_false c9
        clear c9
        by_cases c49 : (x0_2.length : Int) = 0
        ·
         rw [if_pos c49] at H
         have c49b0 : ((x0_2.length : Int) == 0) = true := beq_iff_eq.mpr c49
         have c49b1 : ((x0_2.length : Int) != 0) = false := bne_eq_false_iff_eq.mpr c49
         clear c49
         simp only [Option.some.injEq, Prod.mk.injEq] at H
         obtain ⟨rfl, rfl⟩ := H
         obtain ⟨Ao50, co50, eo50⟩ := Kd.V_slice HO_0.out
         subst eo50
         go_wp2
         repeat (go_quiet (fail); try go_wp2)
         go_ret2
         exact ⟨_, by first | rfl | (simp [errW_none, errW_some] <;> rfl) | (simp [*, errW_none, errW_some] <;> rfl), by (with_reducible repeat (first | apply Kd.R_alloc | apply Kd.R_drewN | apply Kd.R_drew)); exact HO_8.out, by repeat (with_reducible first | exact HB.out | apply below_alloc | apply pw_below_drewN | apply below_drew1)⟩
        ·
         rw [if_neg c49] at H
         have c49b0 : ((x0_2.length : Int) == 0) = false := beq_eq_false_iff_ne.mpr c49
         have c49b1 : ((x0_2.length : Int) != 0) = true := bne_iff_ne.mpr c49
         have c49b2 : ¬ (x0_2 = []) := fun h_ => c49 (by rw [h_]; rfl)
         simp only [Option.some.injEq, Prod.mk.injEq] at H
         obtain ⟨rfl, rfl⟩ := H
         obtain ⟨Ao51, co51, eo51⟩ := Kd.V_slice HO_0.out
         subst eo51
         go_wp2
         repeat (go_quiet (fail); try go_wp2)
         go_ret2
         exact ⟨_, by first | rfl | (simp [errW_none, errW_some] <;> rfl) | (simp [*, errW_none, errW_some] <;> rfl), by first | exact Kd.R_nil _ _ _ _ _ | exact Kd.N_nil _ _ _ _ _ | exact Kd.V_nil _ _ _ _ _ | exact Kd.Q_nil _ _ _ _ _ | exact Kd.S_nil _ _ _ _ _, by repeat (with_reducible first | exact HB.out | apply below_alloc | apply pw_below_drewN | apply below_drew1)⟩
 ·
  replace c5 := Bool.eq_false_iff.mpr c5
  subst c5
  have H1 : (some (([] : List (S75)), 1)) = some (r1, r2) := by rw [if_neg (show ¬ (false = true) by decide)] at H; exact H
  clear H
  have H := H1
  clear H1
  simp only [Option.some.injEq, Prod.mk.injEq] at H
  obtain ⟨rfl, rfl⟩ := H
  go_enter Try.func32, Try.ntmps32
  go_wp2_with (first | (go_at_call 44; (with_reducible refine (ref07_Kinds.calls a2 false _ A4.out).mono ?_); rintro e w' ⟨rfl, ⟨nd, rfl⟩⟩; (try first | exact ⟨rfl, _, World.drewN_drewN _ _ _⟩ | exact ⟨rfl, _, Eq.trans (World.drewN_drewN _ _ _) (congrArg (World.drewN _) (Nat.add_assoc _ _ _))⟩)))
  repeat (go_quiet (first | (go_at_call 44; (with_reducible refine (ref07_Kinds.calls a2 false _ A4.out).mono ?_); rintro e w' ⟨rfl, ⟨nd, rfl⟩⟩; (try first | exact ⟨rfl, _, World.drewN_drewN _ _ _⟩ | exact ⟨rfl, _, Eq.trans (World.drewN_drewN _ _ _) (congrArg (World.drewN _) (Nat.add_assoc _ _ _))⟩))); try go_wp2_with (first | (go_at_call 44; (with_reducible refine (ref07_Kinds.calls a2 false _ A4.out).mono ?_); rintro e w' ⟨rfl, ⟨nd, rfl⟩⟩; (try first | exact ⟨rfl, _, World.drewN_drewN _ _ _⟩ | exact ⟨rfl, _, Eq.trans (World.drewN_drewN _ _ _) (congrArg (World.drewN _) (Nat.add_assoc _ _ _))⟩))))
  go_ret2
  exact ⟨_, by first | rfl | (simp [errW_none, errW_some] <;> rfl) | (simp [*, errW_none, errW_some] <;> rfl), by first | exact Kd.R_nil _ _ _ _ _ | exact Kd.N_nil _ _ _ _ _ | exact Kd.V_nil _ _ _ _ _ | exact Kd.Q_nil _ _ _ _ _ | exact Kd.S_nil _ _ _ _ _, by repeat (with_reducible first | exact HB.out | apply below_alloc | apply pw_below_drewN | apply below_drew1)⟩
theorem ref08_Spread.q0_ {α : Type _} (l : List α) (i : Nat) (a : α) : l.toArray.setIfInBounds i a = (l.set i a).toArray := List.setIfInBounds_toArray ..
theorem ref08_Spread.q1_ {α : Type _} (a b : α) (l : List α) : (a :: l).set 0 b = b :: l := rfl
theorem ref08_Spread.q2_ {α : Type _} (a b : α) (l : List α) (n : Nat) : (a :: l).set (n + 1) b = a :: l.set n b := rfl
open ref08_Spread (q0_ q1_ q2_)
mutual
def ref08_Spread.l0 : Nat → List (S75) → List (S32) → Int → Option ((List (S32)))
 | 0, _, _, _ => none
 | k + 1, x0, x3, x4 => if x4 < (x0.length : Int) then (ref08_Spread.l1 k x0 x3 x4 0) else (some x3)
def ref08_Spread.l1 : Nat → List (S75) → List (S32) → Int → Int → Option ((List (S32)))
 | 0, _, _, _, _ => none
 | k + 1, x0, x3, x4, x5 => if 0 ≤ x4 then (if x4 < (x0.length : Int) then (if x5 < ((rd_T75 x0 x4).f0) then (if (x3.length : Int) < 4096 then (if x3.length < 4398046511104 then (ref08_Spread.l1 k x0 (x3 ++ [(⟨(rd_T75 x0 x4).f1.f0, (rd_T75 x0 x4).f1.f1, (rd_T75 x0 x4).f1.f2⟩ : S32)]) x4 (wrap64 (x5 + 1))) else (none)) else (ref08_Spread.l0 k x0 x3 (wrap64 (x4 + 1)))) else (ref08_Spread.l0 k x0 x3 (wrap64 (x4 + 1)))) else (none)) else (none)
end
def ref08_Spread.f (k : Nat) (l0 : List (S75)) : Option ((List (S32))) := ref08_Spread.l0 k l0 ([] : List (S32)) 0
theorem ref08_Spread.mono_l : ∀ k, (∀ y0 y1 y2, LeO (ref08_Spread.l0 k y0 y1 y2) (ref08_Spread.l0 (k + 1) y0 y1 y2)) ∧ (∀ y0 y1 y2 y3, LeO (ref08_Spread.l1 k y0 y1 y2 y3) (ref08_Spread.l1 (k + 1) y0 y1 y2 y3))
 | 0 => ⟨fun _ _ _ r h => by simp [ref08_Spread.l0] at h, fun _ _ _ _ r h => by simp [ref08_Spread.l1] at h⟩
 | k + 1 => by
  obtain ⟨ih0, ih1⟩ := ref08_Spread.mono_l k
  refine ⟨?_, ?_⟩
  ·
   intro y0 y1 y2
   unfold ref08_Spread.l0
   repeat' first
   | (with_reducible exact ih0 _ _ _)
   | (with_reducible exact ih1 _ _ _ _)
   | (with_reducible exact LeO.refl _)
   | (with_reducible exact LeO.none _)
   | (with_reducible refine LeO.ite ?_ ?_)
   | (with_reducible refine LeO.bind ?_ (fun _ => ?_))
   | exact ih0 _ _ _
   | exact ih1 _ _ _ _
   | exact LeO.none _
   | refine LeO.ite ?_ ?_
   | refine LeO.bind ?_ (fun _ => ?_)
  ·
   intro y0 y1 y2 y3
   unfold ref08_Spread.l1
   repeat' first
   | (with_reducible exact ih0 _ _ _)
   | (with_reducible exact ih1 _ _ _ _)
   | (with_reducible exact LeO.refl _)
   | (with_reducible exact LeO.none _)
   | (with_reducible refine LeO.ite ?_ ?_)
   | (with_reducible refine LeO.bind ?_ (fun _ => ?_))
   | exact ih0 _ _ _
   | exact ih1 _ _ _ _
   | exact LeO.none _
   | refine LeO.ite ?_ ?_
   | refine LeO.bind ?_ (fun _ => ?_)
theorem ref08_Spread.mono : ∀ a0 k, LeO (ref08_Spread.f k a0) (ref08_Spread.f (k + 1) a0) := by
 intro a0 k
 obtain ⟨ih0, ih1⟩ := ref08_Spread.mono_l k
 unfold ref08_Spread.f
 repeat' first
  | (with_reducible exact ih0 _ _ _)
  | (with_reducible exact ih1 _ _ _ _)
  | (with_reducible exact LeO.refl _)
  | (with_reducible exact LeO.none _)
  | (with_reducible refine LeO.ite ?_ ?_)
  | (with_reducible refine LeO.bind ?_ (fun _ => ?_))
  | exact ih0 _ _ _
  | exact ih1 _ _ _ _
  | exact LeO.none _
  | refine LeO.ite ?_ ?_
  | refine LeO.bind ?_ (fun _ => ?_)
set_option maxHeartbeats 8000000 in
set_option maxRecDepth 100000 in
theorem ref08_Spread.calls (k : Nat) (A0 : Option Addr) (c0 : Nat) (l0 : List (S75)) (r : List (S32)) (w : World) (hr0 : Kd.C k75 w A0 l0.length l0) (hc0 : l0.length ≤ c0) (h : ref08_Spread.f k l0 = some r) :
 Calls Try.prog 51 #[.slice A0 l0.length c0] w fun e w' => ∃ v0_ : Value, e = .returned (v0_) ∧ Kd.R k32 32 w' w.heap.size (fun _ => True) v0_ r ∧ Below w.heap.size w w' := by
 have hu32 := Try.underlying32
 have HR0 := Aside0.mk hr0
 have HC0 := Aside0.mk hc0
 clear hr0 hc0
 have HB := Aside0.mk (Below.refl w.heap.size w)
 have H : (ref08_Spread.l0 k l0 ([] : List (S32)) 0) = some r := h
 clear h
 have H' := Aside0.mk H
 clear H
 go_enter Try.func51, Try.ntmps51
 go_wp2
 go_loopg [3, 4] k (fun kq v3 v4 w' => ∃ (x3_1 : List (S32)) (x4_1 : Int), v4 = .int .i64 x4_1 ∧ Aside0 (ref08_Spread.l0 kq l0 x3_1 x4_1 = some r) ∧ Aside0 (kq ≤ k) ∧ Aside0 (Kd.R k32 32 w' w.heap.size (fun _ => True) v3 x3_1) ∧ Aside0 (Below w.heap.size w w'))
 case atStart => exact ⟨(([] : List (S32))), (0), (by first | rfl | (simp; done) | (simp [*]; done)), H', ⟨Nat.le_refl _⟩, ⟨by first | exact Kd.R_nil _ _ _ _ _ | exact Kd.N_nil _ _ _ _ _ | exact Kd.V_nil _ _ _ _ _ | exact Kd.Q_nil _ _ _ _ _ | exact Kd.S_nil _ _ _ _ _⟩, ⟨by repeat (with_reducible first | exact HB.out | apply below_alloc | apply pw_below_drewN | apply below_drew1)⟩⟩
 case round =>
  clear H'
  obtain ⟨x3_1, x4_1, rfl, HA, HK1, HO_3, HB⟩ := hrel
  cases gk with
  | zero => exact absurd HA.out (by simp [ref08_Spread.l0])
  | succ k1 =>
   have H := HA.out
   clear HA
   simp only [ref08_Spread.l0] at H
   by_cases c2 : x4_1 < (l0.length : Int)
   ·
    rw [if_pos c2] at H
    have c2b0 : decide (x4_1 < (l0.length : Int)) = true := decide_eq_true c2
    clear c2
    have H' := Aside0.mk H
    clear H
    go_wp2
    go_loopg [3, 5] k1 (fun kq v3 v5 w' => ∃ (x3_2 : List (S32)) (x5_2 : Int), v5 = .int .i64 x5_2 ∧ Aside0 (ref08_Spread.l1 kq l0 x3_2 x4_1 x5_2 = some r) ∧ Aside0 (kq ≤ k1) ∧ Aside0 (Kd.R k32 32 w' w.heap.size (fun _ => True) v3 x3_2) ∧ Aside0 (Below w.heap.size w w'))
    case atStart => exact ⟨(x3_1), (0), (by first | rfl | (simp; done) | (simp [*]; done)), H', ⟨Nat.le_refl _⟩, ⟨by (with_reducible repeat (first | apply Kd.R_alloc | apply Kd.R_drewN | apply Kd.R_drew)); exact HO_3.out⟩, ⟨by repeat (with_reducible first | exact HB.out | apply below_alloc | apply pw_below_drewN | apply below_drew1)⟩⟩
    case round =>
     clear H'
     try clear c2
     try clear c2b0
     try clear p2
     obtain ⟨x3_2, x5_2, rfl, HA, HK2, HO_3, HB⟩ := hrel
     cases gk with
     | zero => exact absurd HA.out (by simp [ref08_Spread.l1])
     | succ k2 =>
      have H := HA.out
      clear HA
      simp only [ref08_Spread.l1] at H
      by_cases c3 : 0 ≤ x4_1
      ·
       rw [if_pos c3] at H
       have c3b0 : decide (0 ≤ x4_1) = true := decide_eq_true c3
       clear c3
       by_cases c4 : x4_1 < (l0.length : Int)
       ·
        rw [if_pos c4] at H
        have c4b0 : decide (x4_1 < (l0.length : Int)) = true := decide_eq_true c4
        clear c4
        by_cases c5 : x5_2 < ((rd_T75 l0 x4_1).f0)
        ·
         rw [if_pos c5] at H
         have c5b0 : decide (x5_2 < ((rd_T75 l0 x4_1).f0)) = true := decide_eq_true c5
         clear c5
         by_cases c6 : (x3_2.length : Int) < 4096
         ·
          rw [if_pos c6] at H
          have c6b0 : decide ((x3_2.length : Int) < 4096) = true := decide_eq_true c6
          have c6b1 : decide (x3_2.length < 4096) = true := decide_eq_true (by omega)
          clear c6
          by_cases c7 : x3_2.length < 4398046511104
          ·
           rw [if_pos c7] at H
           have LMc7 := Aside0.mk c7
           clear c7
           obtain ⟨y402, hy402⟩ : ∃ y_ : List (S32), y_ = (x3_2 ++ [(⟨(rd_T75 l0 x4_1).f1.f0, (rd_T75 l0 x4_1).f1.f1, (rd_T75 l0 x4_1).f1.f2⟩ : S32)]) := ⟨_, rfl⟩
           replace H : (ref08_Spread.l1 k2 l0 y402 x4_1 (wrap64 (x5_2 + 1))) = some r := by first | (rw [hy402]; with_reducible exact H) | (have H2_ := (Option.bind_some _ _).symm.trans H; rw [hy402]; with_reducible exact H2_) | (have H2_ := (Option.bind_some _ _).symm.trans H; with_reducible exact H2_) | with_reducible exact H | (rw [hy402]; exact H) | exact H
           have Ny402 := Aside0.mk hy402
           clear hy402
           have H' := Aside0.mk H
           clear H
           have p400 : 0 ≤ (x4_1 : Int) := of_decide_eq_true (by first | (with_reducible assumption) | assumption)
           have q400 : x4_1 < (l0.length : Int) := of_decide_eq_true (by first | (with_reducible assumption) | assumption)
           obtain ⟨ad400, e400, hx400_0, hx400_1, hx400_2, hx400_3⟩ := at_T75 HR0.out x4_1 p400 q400
           cases e400
           replace hx400_0 := (HB.out.cell (World.block_lt_of_cell? w _ hx400_0)).trans hx400_0
           replace hx400_1 := (HB.out.cell (World.block_lt_of_cell? w _ hx400_1)).trans hx400_1
           replace hx400_2 := (HB.out.cell (World.block_lt_of_cell? w _ hx400_2)).trans hx400_2
           replace hx400_3 := (HB.out.cell (World.block_lt_of_cell? w _ hx400_3)).trans hx400_3
           replace p400 := eq_true p400
           replace q400 := eq_true q400
           obtain ⟨Ao8, co8, eo8⟩ := Kd.R_slice HO_3.out
           subst eo8
           have p401 : 0 ≤ (x4_1 : Int) := of_decide_eq_true (by first | (with_reducible assumption) | assumption)
           have q401 : x4_1 < (l0.length : Int) := of_decide_eq_true (by first | (with_reducible assumption) | assumption)
           obtain ⟨ad401, e401, hx401_0, hx401_1, hx401_2, hx401_3⟩ := at_T75 HR0.out x4_1 p401 q401
           obtain rfl : ad400 = ad401 := (by injection e401)
           replace hx401_0 := (HB.out.cell (World.block_lt_of_cell? w _ hx401_0)).trans hx401_0
           replace hx401_1 := (HB.out.cell (World.block_lt_of_cell? w _ hx401_1)).trans hx401_1
           replace hx401_2 := (HB.out.cell (World.block_lt_of_cell? w _ hx401_2)).trans hx401_2
           replace hx401_3 := (HB.out.cell (World.block_lt_of_cell? w _ hx401_3)).trans hx401_3
           replace p401 := eq_true p401
           replace q401 := eq_true q401
           go_wp2_with (first | ((with_reducible refine gate_builtin (b := .append) (xs := #[.tmp 26, .tmp 32]) rfl ?_); (try (refine gate_guard (by rfl) ?_; dsimp only)); at_builtin; refine Kd.R_append k32 (w0 := w) w.heap.size rfl (.tmp 26) (.tmp 32) 22 32 (.agg #[(.int .i64 0), (.int .i64 0), (.string ⟨#[]⟩)]) 32 rfl Try.underlying22 info32 rfl (by decide) (by omega) (.slice Ao8 x3_2.length co8) x3_2 (⟨(rd_T75 l0 x4_1).f1.f0, (rd_T75 l0 x4_1).f1.f1, (rd_T75 l0 x4_1).f1.f2⟩ : S32) [.int .i64 ((rd_T75 l0 x4_1).f1.f0), .int .i64 ((rd_T75 l0 x4_1).f1.f1), .string ((rd_T75 l0 x4_1).f1.f2)] (fun _ => True) (fun _ => False) rfl rfl ?aP (fun _ hk => hk.elim) ?aF ?aO ?aB ?aS ?aL ?_; (case aP => exact k32_mkM _ _ _ (⟨(rd_T75 l0 x4_1).f1.f0, (rd_T75 l0 x4_1).f1.f1, (rd_T75 l0 x4_1).f1.f2⟩ : S32)); (case aB => exact (by repeat (with_reducible first | exact HB.out | apply below_alloc | apply pw_below_drewN | apply below_drew1))); (case aF => exact (fun _ _ => trivial)); (case aO => exact (by (with_reducible repeat (first | apply Kd.R_alloc | apply Kd.R_drewN | apply Kd.R_drew)); exact HO_3.out)); (case aS => exact (below_size (by repeat (with_reducible first | exact HB.out | apply below_alloc | apply pw_below_drewN | apply below_drew1)))); (case aL => have := LMc7.out; omega); intro v403 w9 ho hb hg hat; rw [← Ny402.out] at ho; have n0_ := Aside0.mk (hb); have n1_ := Aside0.mk (ho); clear HB; clear HO_3; have HB := n0_; have HO404 := n1_; clear n0_ n1_; clear ho hb hg hat))
           go_roundg k2
           case measure => have := HK1.out; have := HK2.out; omega
           case rel => exact ⟨(y402), (wrap64 (x5_2 + 1)), (by first | rfl | (simp; done) | (simp [*]; done)), H', ⟨by have := HK1.out; have := HK2.out; omega⟩, ⟨by (with_reducible repeat (first | apply Kd.R_alloc | apply Kd.R_drewN | apply Kd.R_drew)); exact HO404.out⟩, ⟨by repeat (with_reducible first | exact HB.out | apply below_alloc | apply pw_below_drewN | apply below_drew1)⟩⟩
          ·
           rw [if_neg c7] at H
           exact absurd H (by simp)
         ·
          rw [if_neg c6] at H
          have c6b0 : decide ((x3_2.length : Int) < 4096) = false := decide_eq_false c6
          have c6b1 : decide (x3_2.length < 4096) = false := decide_eq_false (by omega)
          clear c6
          have H' := Aside0.mk H
          clear H
          have p400 : 0 ≤ (x4_1 : Int) := of_decide_eq_true (by first | (with_reducible assumption) | assumption)
          have q400 : x4_1 < (l0.length : Int) := of_decide_eq_true (by first | (with_reducible assumption) | assumption)
          obtain ⟨ad400, e400, hx400_0, hx400_1, hx400_2, hx400_3⟩ := at_T75 HR0.out x4_1 p400 q400
          cases e400
          replace hx400_0 := (HB.out.cell (World.block_lt_of_cell? w _ hx400_0)).trans hx400_0
          replace hx400_1 := (HB.out.cell (World.block_lt_of_cell? w _ hx400_1)).trans hx400_1
          replace hx400_2 := (HB.out.cell (World.block_lt_of_cell? w _ hx400_2)).trans hx400_2
          replace hx400_3 := (HB.out.cell (World.block_lt_of_cell? w _ hx400_3)).trans hx400_3
          replace p400 := eq_true p400
          replace q400 := eq_true q400
          obtain ⟨Ao10, co10, eo10⟩ := Kd.R_slice HO_3.out
          subst eo10
          go_wp2
          go_roundg k2
          case measure => have := HK1.out; have := HK2.out; omega
          case rel => exact ⟨(x3_2), (wrap64 (x4_1 + 1)), (by first | rfl | (simp; done) | (simp [*]; done)), H', ⟨by have := HK1.out; have := HK2.out; omega⟩, ⟨by (with_reducible repeat (first | apply Kd.R_alloc | apply Kd.R_drewN | apply Kd.R_drew)); exact HO_3.out⟩, ⟨by repeat (with_reducible first | exact HB.out | apply below_alloc | apply pw_below_drewN | apply below_drew1)⟩⟩
        ·
         rw [if_neg c5] at H
         have c5b0 : decide (x5_2 < ((rd_T75 l0 x4_1).f0)) = false := decide_eq_false c5
         clear c5
         have H' := Aside0.mk H
         clear H
         have p400 : 0 ≤ (x4_1 : Int) := of_decide_eq_true (by first | (with_reducible assumption) | assumption)
         have q400 : x4_1 < (l0.length : Int) := of_decide_eq_true (by first | (with_reducible assumption) | assumption)
         obtain ⟨ad400, e400, hx400_0, hx400_1, hx400_2, hx400_3⟩ := at_T75 HR0.out x4_1 p400 q400
         cases e400
         replace hx400_0 := (HB.out.cell (World.block_lt_of_cell? w _ hx400_0)).trans hx400_0
         replace hx400_1 := (HB.out.cell (World.block_lt_of_cell? w _ hx400_1)).trans hx400_1
         replace hx400_2 := (HB.out.cell (World.block_lt_of_cell? w _ hx400_2)).trans hx400_2
         replace hx400_3 := (HB.out.cell (World.block_lt_of_cell? w _ hx400_3)).trans hx400_3
         replace p400 := eq_true p400
         replace q400 := eq_true q400
         go_wp2
         go_roundg k2
         case measure => have := HK1.out; have := HK2.out; omega
         case rel => exact ⟨(x3_2), (wrap64 (x4_1 + 1)), (by first | rfl | (simp; done) | (simp [*]; done)), H', ⟨by have := HK1.out; have := HK2.out; omega⟩, ⟨by (with_reducible repeat (first | apply Kd.R_alloc | apply Kd.R_drewN | apply Kd.R_drew)); exact HO_3.out⟩, ⟨by repeat (with_reducible first | exact HB.out | apply below_alloc | apply pw_below_drewN | apply below_drew1)⟩⟩
       ·
        rw [if_neg c4] at H
        exact absurd H (by simp)
      ·
       rw [if_neg c3] at H
       exact absurd H (by simp)
   ·
    rw [if_neg c2] at H
    have c2b0 : decide (x4_1 < (l0.length : Int)) = false := decide_eq_false c2
    clear c2
    obtain rfl := Option.some.inj H
    go_wp2
    go_ret
    exact ⟨_, by first | rfl | (simp [errW_none, errW_some] <;> rfl) | (simp [*, errW_none, errW_some] <;> rfl), by (with_reducible repeat (first | apply Kd.R_alloc | apply Kd.R_drewN | apply Kd.R_drew)); exact HO_3.out, by repeat (with_reducible first | exact HB.out | apply below_alloc | apply pw_below_drewN | apply below_drew1)⟩
def ref08_Of.f (k : Nat) (l0 : List Int) (a1 : Int) (a2 : Int) : Option ((List (S32)) × Int) := (ref08_ToRuns.f k l0 a1 a2).bind fun bt405 => ((ref08_Spread.f k bt405.1).bind fun t409 => (some (t409, bt405.2)))
theorem ref08_Of.mono : ∀ a0 a1 a2 k, LeO (ref08_Of.f k a0 a1 a2) (ref08_Of.f (k + 1) a0 a1 a2) := by
  intro a0 a1 a2 k
  unfold ref08_Of.f
  repeat' first
      | (with_reducible exact ref08_Spread.mono _ _)
      | (with_reducible exact ref08_ToRuns.mono _ _ _ _)
      | (with_reducible exact LeO.refl _)
      | (with_reducible exact LeO.none _)
      | (with_reducible refine LeO.ite ?_ ?_)
      | (with_reducible refine LeO.bind ?_ (fun _ => ?_))
      | exact ref08_Spread.mono _ _
      | exact ref08_ToRuns.mono _ _ _ _
      | exact LeO.none _
      | refine LeO.ite ?_ ?_
      | refine LeO.bind ?_ (fun _ => ?_)
set_option maxHeartbeats 8000000 in
set_option maxRecDepth 100000 in
theorem ref08_Of.calls (k : Nat) (A0 : Option Addr) (c0 : Nat) (l0 : List Int) (a1 : Int) (a2 : Int) (r1 : List (S32)) (r2 : Int) (w : World) (hr0 : Kd.C (Kd.int .u8) w A0 l0.length l0) (hc0 : l0.length ≤ c0) (h : ref08_Of.f k l0 a1 a2 = some (r1, r2)) :
    Calls Try.prog 30 #[.slice A0 l0.length c0, .int .i64 a1, .int .i64 a2] w fun e w' => ∃ v0_ : Value, e = .returned (.tuple #[v0_, .int .i64 r2]) ∧ Kd.R k32 32 w' w.heap.size (fun _ => True) v0_ r1 ∧ Below w.heap.size w w' := by
  have HR0 := Aside0.mk hr0
  have HC0 := Aside0.mk hc0
  clear hr0 hc0
  have HB := Aside0.mk (Below.refl w.heap.size w)
  have H : ((ref08_ToRuns.f k l0 a1 a2).bind fun bt405 => ((ref08_Spread.f k bt405.1).bind fun t409 => (some (t409, bt405.2)))) = some (r1, r2) := h
  clear h
  replace H := Option.bind_eq_some_iff.mp H
  obtain ⟨⟨t405, t408⟩, A40, H⟩ := H
  replace H : ((ref08_Spread.f k t405).bind fun t409 => (some (t409, t408))) = some (r1, r2) := H
  have A4 := Aside0.mk A40
  clear A40
  replace H := Option.bind_eq_some_iff.mp H
  obtain ⟨t409, A50, H⟩ := H
  replace H : (some (t409, t408)) = some (r1, r2) := H
  have A5 := Aside0.mk A50
  clear A50
  simp only [Option.some.injEq, Prod.mk.injEq] at H
  obtain ⟨rfl, rfl⟩ := H
  go_enter Try.func30, Try.ntmps30
  go_wp2_with (first | ((with_reducible refine gate_callee (f := 32) rfl ?_); refine goesL_ (some 14) rfl rfl Try.func32 (by kernel_rfl) rfl #[.slice A0 l0.length c0, .int .i64 a1, .int .i64 a2] rfl (by (try simp only [List.map_toArray, List.map_cons, List.map_nil]); first | done | rfl | (simp only [List.length_drop, List.length_take]; rfl)) ?_; (with_reducible refine (ref08_ToRuns.calls k (fun k_ => k_ < w.heap.size) _ _ l0 a1 a2 t405 t408 _ ?side1 A4.out).mono ?_); (case side1 => exact Kd.V_mk HC0.out (Kd.F_below (Kd.C_F (Kd.heap_int .u8) HR0.out) (by repeat (with_reducible first | exact HB.out | apply below_alloc | apply pw_below_drewN | apply below_drew1)))); rintro e w6 ⟨v406, rfl, ho0, hb⟩; refine ⟨_, rfl, ?_⟩; have n0_ := Aside0.mk (Kd.R_lower (Kd.R_mono (ok' := fun k_ => True) ho0 (fun _ hk_ => trivial)) (below_size (by repeat (with_reducible first | exact HB.out | apply below_alloc | apply pw_below_drewN | apply below_drew1)))); have n1_ := Aside0.mk (below_step (by repeat (with_reducible first | exact HB.out | apply below_alloc | apply pw_below_drewN | apply below_drew1)) hb); clear HB; have HO407 := n0_; have HB := n1_; clear n0_ n1_; (try clear hb); (try clear hb2); (try clear hk); (try clear hi); (try clear ho0); obtain ⟨Ao7, co7, eo7⟩ := Kd.R_slice HO407.out; subst eo7) | ((with_reducible refine gate_callee (f := 51) rfl ?_); refine goesL_ (some 18) rfl rfl Try.func51 (by kernel_rfl) rfl #[.slice Ao7 t405.length co7] rfl (by (try simp only [List.map_toArray, List.map_cons, List.map_nil]); first | done | rfl | (simp only [List.length_drop, List.length_take]; rfl)) ?_; (with_reducible refine (ref08_Spread.calls k _ _ t405 t409 _ ?side1 ?side2 A5.out).mono ?_); (case side1 => repeat (first | exact (Kd.R_reads' HO407.out).2.2 | (with_reducible refine Kd.C_alloc ?_ _) | (with_reducible refine Kd.C_drewN ?_ _) | (with_reducible refine Kd.C_drew ?_))); (case side2 => exact (Kd.R_reads' HO407.out).2.1); rintro e w8 ⟨v410, rfl, ho0, hb⟩; refine ⟨_, rfl, ?_⟩; have n0_ := Aside0.mk (Kd.R_below (by (with_reducible repeat (first | apply Kd.R_alloc | apply Kd.R_drewN | apply Kd.R_drew)); exact HO407.out) hb); have n1_ := Aside0.mk (Kd.R_lower ho0 (below_size (by repeat (with_reducible first | exact HB.out | apply below_alloc | apply pw_below_drewN | apply below_drew1)))); have n2_ := Aside0.mk (below_step (by repeat (with_reducible first | exact HB.out | apply below_alloc | apply pw_below_drewN | apply below_drew1)) hb); clear HO407; clear HB; have HO407 := n0_; have HO411 := n1_; have HB := n2_; clear n0_ n1_ n2_; (try clear hb); (try clear hb2); (try clear hk); (try clear hi); (try clear ho0)))
  go_ret2
  exact ⟨_, by first | rfl | (simp [errW_none, errW_some] <;> rfl) | (simp [*, errW_none, errW_some] <;> rfl), by (with_reducible repeat (first | apply Kd.R_alloc | apply Kd.R_drewN | apply Kd.R_drew)); exact HO411.out, by repeat (with_reducible first | exact HB.out | apply below_alloc | apply pw_below_drewN | apply below_drew1)⟩
end Go.Proofs.Ytjchjdbfmiibhaa.PRlz
