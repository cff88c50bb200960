import Derived.Test.YtjchjdbfmiibhaaPRlzx0
import Derived.Test.YtjchjdbfmiibhaaPRlzx1
import Derived.Test.YtjchjdbfmiibhaaPRlzx2
import Derived.Test.YtjchjdbfmiibhaaPRlzx4
import Derived.Test.YtjchjdbfmiibhaaPRlzx6
import Derived.Test.YtjchjdbfmiibhaaPRlzx7
import Derived.Test.YtjchjdbfmiibhaaPRlzx8
import Derived.Test.YtjchjdbfmiibhaaPRlzx9
import Derived.Test.YtjchjdbfmiibhaaPRlzx10
import Derived.Test.YtjchjdbfmiibhaaPRlzx17
import Derived.Test.YtjchjdbfmiibhaaPRlzx20
namespace Go.Proofs.Ytjchjdbfmiibhaa.PRlz
open Go.RowKit Go.Proofs.YtjchjdbfmiibhaaW.PrintWords Go.Proofs.YtjchjdbfmiibhaaW.PrintLast Go.Proofs.YtjchjdbfmiibhaaW.PrintMore
attribute [local go_sem] max2_int min2_int max_two min_two max_three min_three max_four min_four
set_option linter.unusedVariables false
set_option linter.unusedSimpArgs false
attribute [local go_sem high] eqA32
def law08_same.l0 : Nat → List (S49) → List (S75) → Int → Option (Bool)
  | 0, _, _, _ => none
  | k + 1, x0, x1, x5 => if x5 < (x0.length : Int) then (if 0 ≤ x5 then (if x5 < (x1.length : Int) then (if ((rd_T49 x0 x5).f0) = ((rd_T75 x1 x5).f0) then (if (!(((rd_T49 x0 x5).f1.f0) == ((rd_T75 x1 x5).f1.f0)) || (!(((rd_T49 x0 x5).f1.f1) == ((rd_T75 x1 x5).f1.f1)) || (!((((rd_T49 x0 x5).f1.f2).toList) == (((rd_T75 x1 x5).f1.f2).toList))))) = true then (some false) else (law08_same.l0 k x0 x1 (wrap64 (x5 + 1)))) else (some false)) else (none)) else (none)) else (some true)
def law08_same.f (k : Nat) (l0 : List (S49)) (l1 : List (S75)) : Option (Bool) := if (l0.length : Int) = (l1.length : Int) then (law08_same.l0 k l0 l1 0) else (some false)
theorem law08_same.mono_l : ∀ k, (∀ y0 y1 y2, LeO (law08_same.l0 k y0 y1 y2) (law08_same.l0 (k + 1) y0 y1 y2))
  | 0 => fun _ _ _ r h => by simp [law08_same.l0] at h
  | k + 1 => by
    have ih0 := law08_same.mono_l k
    · intro y0 y1 y2
      unfold law08_same.l0
      repeat' first
      | (with_reducible exact ih0 _ _ _)
      | (with_reducible exact LeO.refl _)
      | (with_reducible exact LeO.none _)
      | (with_reducible refine LeO.ite ?_ ?_)
      | (with_reducible refine LeO.bind ?_ (fun _ => ?_))
      | exact ih0 _ _ _
      | exact LeO.none _
      | refine LeO.ite ?_ ?_
      | refine LeO.bind ?_ (fun _ => ?_)
theorem law08_same.mono : ∀ a0 a1 k, LeO (law08_same.f k a0 a1) (law08_same.f (k + 1) a0 a1) := by
  intro a0 a1 k
  have ih0 := law08_same.mono_l k
  unfold law08_same.f
  repeat' first
      | (with_reducible exact ih0 _ _ _)
      | (with_reducible exact LeO.refl _)
      | (with_reducible exact LeO.none _)
      | (with_reducible refine LeO.ite ?_ ?_)
      | (with_reducible refine LeO.bind ?_ (fun _ => ?_))
      | exact ih0 _ _ _
      | exact LeO.none _
      | refine LeO.ite ?_ ?_
      | refine LeO.bind ?_ (fun _ => ?_)
set_option maxHeartbeats 8000000 in
set_option maxRecDepth 100000 in
theorem law08_same.calls (k : Nat) (A0 : Option Addr) (c0 : Nat) (l0 : List (S49)) (A1 : Option Addr) (c1 : Nat) (l1 : List (S75)) (r : Bool) (w : World) (hr0 : Kd.C k49 w A0 l0.length l0) (hc0 : l0.length ≤ c0) (hr1 : Kd.C k75 w A1 l1.length l1) (hc1 : l1.length ≤ c1) (h : law08_same.f k l0 l1 = some r) :
    Calls Try.prog 33 #[.slice A0 l0.length c0, .slice A1 l1.length c1] w fun e w' => e = .returned (.bool r) ∧ Drawn0 w w' := by
  have hu32 := Try.underlying32
  have HR0 := Aside0.mk hr0
  have HC0 := Aside0.mk hc0
  clear hr0 hc0
  have HR1 := Aside0.mk hr1
  have HC1 := Aside0.mk hc1
  clear hr1 hc1
  have H : (if (l0.length : Int) = (l1.length : Int) then (law08_same.l0 k l0 l1 0) else (some false)) = some r := h
  clear h
  by_cases c3 : (l0.length : Int) = (l1.length : Int)
  · rw [if_pos c3] at H
    have c3b0 : ((l0.length : Int) == (l1.length : Int)) = true := beq_iff_eq.mpr c3
    have c3b1 : ((l0.length : Int) != (l1.length : Int)) = false := bne_eq_false_iff_eq.mpr c3
    have c3b2 : (l0.length == l1.length) = true := by first | simpa using c3 | (simp at c3 ⊢; omega)
    clear c3
    have H' := Aside0.mk H
    clear H
    go_enter Try.func33, Try.ntmps33
    go_wp2
    repeat (go_quiet (fail); try go_wp2)
    go_loopg [5] k (fun kq v5 w' => ∃ (x5_1 : Int), v5 = .int .i64 x5_1 ∧ Aside0 (law08_same.l0 kq l0 l1 x5_1 = some r) ∧ Aside0 (kq ≤ k) ∧ Drawn0 w w')
    case atStart => exact ⟨(0), (by first | rfl | (simp; done) | (simp [*]; done)), H', ⟨Nat.le_refl _⟩, by repeat (first | exact Drawn0.refl _ | apply Drawn0.step)⟩
    case round =>
      clear H'
      try clear c1
      try clear p2
      try clear c3
      try clear c3b0
      try clear c3b1
      try clear c3b2
      obtain ⟨x5_1, rfl, HA, HK1, ⟨m1, rfl⟩⟩ := hrel
      cases gk with
      | zero => exact absurd HA.out (by simp [law08_same.l0])
      | succ k1 =>
        have H := HA.out
        clear HA
        simp only [law08_same.l0] at H
        by_cases c4 : x5_1 < (l0.length : Int)
        · rw [if_pos c4] at H
          have c4b0 : decide (x5_1 < (l0.length : Int)) = true := decide_eq_true c4
          clear c4
          by_cases c5 : 0 ≤ x5_1
          · rw [if_pos c5] at H
            have c5b0 : decide (0 ≤ x5_1) = true := decide_eq_true c5
            clear c5
            by_cases c6 : x5_1 < (l1.length : Int)
            · rw [if_pos c6] at H
              have c6b0 : decide (x5_1 < (l1.length : Int)) = true := decide_eq_true c6
              clear c6
              by_cases c7 : ((rd_T49 l0 x5_1).f0) = ((rd_T75 l1 x5_1).f0)
              · rw [if_pos c7] at H
                have c7b0 : (((rd_T49 l0 x5_1).f0) == ((rd_T75 l1 x5_1).f0)) = true := beq_iff_eq.mpr c7
                have c7b1 : (((rd_T49 l0 x5_1).f0) != ((rd_T75 l1 x5_1).f0)) = false := bne_eq_false_iff_eq.mpr c7
                clear c7
                by_cases c8 : (!(((rd_T49 l0 x5_1).f1.f0) == ((rd_T75 l1 x5_1).f1.f0)) || (!(((rd_T49 l0 x5_1).f1.f1) == ((rd_T75 l1 x5_1).f1.f1)) || (!((((rd_T49 l0 x5_1).f1.f2).toList) == (((rd_T75 l1 x5_1).f1.f2).toList))))) = true
                · rw [if_pos c8] at H
                  have c8b0 : (!(((rd_T49 l0 x5_1).f1.f0) == ((rd_T75 l1 x5_1).f1.f0)) || (!(((rd_T49 l0 x5_1).f1.f1) == ((rd_T75 l1 x5_1).f1.f1)) || (!((((rd_T49 l0 x5_1).f1.f2).toList) == (((rd_T75 l1 x5_1).f1.f2).toList))))) = true := c8
                  clear c8
                  obtain rfl := Option.some.inj H
                  have p412 : 0 ≤ (x5_1 : Int) := of_decide_eq_true (by first | (with_reducible assumption) | assumption)
                  have q412 : x5_1 < (l0.length : Int) := of_decide_eq_true (by first | (with_reducible assumption) | assumption)
                  obtain ⟨ad412, e412, hx412_0, hx412_1, hx412_2, hx412_3⟩ := at_T49 HR0.out x5_1 p412 q412
                  cases e412
                  replace p412 := eq_true p412
                  replace q412 := eq_true q412
                  have p413 : 0 ≤ (x5_1 : Int) := of_decide_eq_true (by first | (with_reducible assumption) | assumption)
                  have q413 : x5_1 < (l1.length : Int) := of_decide_eq_true (by first | (with_reducible assumption) | assumption)
                  obtain ⟨ad413, e413, hx413_0, hx413_1, hx413_2, hx413_3⟩ := at_T75 HR1.out x5_1 p413 q413
                  cases e413
                  replace p413 := eq_true p413
                  replace q413 := eq_true q413
                  have p414 : 0 ≤ (x5_1 : Int) := of_decide_eq_true (by first | (with_reducible assumption) | assumption)
                  have q414 : x5_1 < (l0.length : Int) := of_decide_eq_true (by first | (with_reducible assumption) | assumption)
                  obtain ⟨ad414, e414, hx414_0, hx414_1, hx414_2, hx414_3⟩ := at_T49 HR0.out x5_1 p414 q414
                  obtain rfl : ad412 = ad414 := (by injection e414)
                  replace p414 := eq_true p414
                  replace q414 := eq_true q414
                  have p415 : 0 ≤ (x5_1 : Int) := of_decide_eq_true (by first | (with_reducible assumption) | assumption)
                  have q415 : x5_1 < (l1.length : Int) := of_decide_eq_true (by first | (with_reducible assumption) | assumption)
                  obtain ⟨ad415, e415, hx415_0, hx415_1, hx415_2, hx415_3⟩ := at_T75 HR1.out x5_1 p415 q415
                  obtain rfl : ad413 = ad415 := (by injection e415)
                  replace p415 := eq_true p415
                  replace q415 := eq_true q415
                  go_wp2
                  repeat (go_quiet (fail); try go_wp2)
                  go_ret
                  exact ⟨by first | rfl | (simp; done) | (simp [*]; done), by repeat (first | exact Drawn0.refl _ | apply Drawn0.step)⟩
                · rw [if_neg c8] at H
                  have c8b0 : (!(((rd_T49 l0 x5_1).f1.f0) == ((rd_T75 l1 x5_1).f1.f0)) || (!(((rd_T49 l0 x5_1).f1.f1) == ((rd_T75 l1 x5_1).f1.f1)) || (!((((rd_T49 l0 x5_1).f1.f2).toList) == (((rd_T75 l1 x5_1).f1.f2).toList))))) = false := by simpa using c8
                  clear c8
                  have H' := Aside0.mk H
                  clear H
                  have p412 : 0 ≤ (x5_1 : Int) := of_decide_eq_true (by first | (with_reducible assumption) | assumption)
                  have q412 : x5_1 < (l0.length : Int) := of_decide_eq_true (by first | (with_reducible assumption) | assumption)
                  obtain ⟨ad412, e412, hx412_0, hx412_1, hx412_2, hx412_3⟩ := at_T49 HR0.out x5_1 p412 q412
                  cases e412
                  replace p412 := eq_true p412
                  replace q412 := eq_true q412
                  have p413 : 0 ≤ (x5_1 : Int) := of_decide_eq_true (by first | (with_reducible assumption) | assumption)
                  have q413 : x5_1 < (l1.length : Int) := of_decide_eq_true (by first | (with_reducible assumption) | assumption)
                  obtain ⟨ad413, e413, hx413_0, hx413_1, hx413_2, hx413_3⟩ := at_T75 HR1.out x5_1 p413 q413
                  cases e413
                  replace p413 := eq_true p413
                  replace q413 := eq_true q413
                  have p414 : 0 ≤ (x5_1 : Int) := of_decide_eq_true (by first | (with_reducible assumption) | assumption)
                  have q414 : x5_1 < (l0.length : Int) := of_decide_eq_true (by first | (with_reducible assumption) | assumption)
                  obtain ⟨ad414, e414, hx414_0, hx414_1, hx414_2, hx414_3⟩ := at_T49 HR0.out x5_1 p414 q414
                  obtain rfl : ad412 = ad414 := (by injection e414)
                  replace p414 := eq_true p414
                  replace q414 := eq_true q414
                  have p415 : 0 ≤ (x5_1 : Int) := of_decide_eq_true (by first | (with_reducible assumption) | assumption)
                  have q415 : x5_1 < (l1.length : Int) := of_decide_eq_true (by first | (with_reducible assumption) | assumption)
                  obtain ⟨ad415, e415, hx415_0, hx415_1, hx415_2, hx415_3⟩ := at_T75 HR1.out x5_1 p415 q415
                  obtain rfl : ad413 = ad415 := (by injection e415)
                  replace p415 := eq_true p415
                  replace q415 := eq_true q415
                  go_wp2
                  repeat (go_quiet (fail); try go_wp2)
                  go_roundg k1
                  case measure => have := HK1.out; omega
                  case rel => exact ⟨(wrap64 (x5_1 + 1)), (by first | rfl | (simp; done) | (simp [*]; done)), H', ⟨by have := HK1.out; omega⟩, by repeat (first | exact Drawn0.refl _ | apply Drawn0.step)⟩
              · rw [if_neg c7] at H
                have c7b0 : (((rd_T49 l0 x5_1).f0) == ((rd_T75 l1 x5_1).f0)) = false := beq_eq_false_iff_ne.mpr c7
                have c7b1 : (((rd_T49 l0 x5_1).f0) != ((rd_T75 l1 x5_1).f0)) = true := bne_iff_ne.mpr c7
                obtain rfl := Option.some.inj H
                have p412 : 0 ≤ (x5_1 : Int) := of_decide_eq_true (by first | (with_reducible assumption) | assumption)
                have q412 : x5_1 < (l0.length : Int) := of_decide_eq_true (by first | (with_reducible assumption) | assumption)
                obtain ⟨ad412, e412, hx412_0, hx412_1, hx412_2, hx412_3⟩ := at_T49 HR0.out x5_1 p412 q412
                cases e412
                replace p412 := eq_true p412
                replace q412 := eq_true q412
                have p413 : 0 ≤ (x5_1 : Int) := of_decide_eq_true (by first | (with_reducible assumption) | assumption)
                have q413 : x5_1 < (l1.length : Int) := of_decide_eq_true (by first | (with_reducible assumption) | assumption)
                obtain ⟨ad413, e413, hx413_0, hx413_1, hx413_2, hx413_3⟩ := at_T75 HR1.out x5_1 p413 q413
                cases e413
                replace p413 := eq_true p413
                replace q413 := eq_true q413
                go_wp2
                repeat (go_quiet (fail); try go_wp2)
                go_ret
                exact ⟨by first | rfl | (simp; done) | (simp [*]; done), by repeat (first | exact Drawn0.refl _ | apply Drawn0.step)⟩
            · rw [if_neg c6] at H
              exact absurd H (by simp)
          · rw [if_neg c5] at H
            exact absurd H (by simp)
        · rw [if_neg c4] at H
          have c4b0 : decide (x5_1 < (l0.length : Int)) = false := decide_eq_false c4
          clear c4
          obtain rfl := Option.some.inj H
          go_wp2
          repeat (go_quiet (fail); try go_wp2)
          go_ret
          exact ⟨by first | rfl | (simp; done) | (simp [*]; done), by repeat (first | exact Drawn0.refl _ | apply Drawn0.step)⟩
  · rw [if_neg c3] at H
    have c3b0 : ((l0.length : Int) == (l1.length : Int)) = false := beq_eq_false_iff_ne.mpr c3
    have c3b1 : ((l0.length : Int) != (l1.length : Int)) = true := bne_iff_ne.mpr c3
    have c3b2 : (l0.length == l1.length) = false := by first | simpa using c3 | (simp at c3 ⊢; omega)
    obtain rfl := Option.some.inj H
    go_enter Try.func33, Try.ntmps33
    go_wp2
    repeat (go_quiet (fail); try go_wp2)
    go_ret
    exact ⟨by first | rfl | (simp; done) | (simp [*]; done), by repeat (first | exact Drawn0.refl _ | apply Drawn0.step)⟩
theorem law08_RleBytes.q0_ {α : Type _} (l : List α) (i : Nat) (a : α) : l.toArray.setIfInBounds i a = (l.set i a).toArray := List.setIfInBounds_toArray ..
theorem law08_RleBytes.q1_ {α : Type _} (a b : α) (l : List α) : (a :: l).set 0 b = b :: l := rfl
theorem law08_RleBytes.q2_ {α : Type _} (a b : α) (l : List α) (n : Nat) : (a :: l).set (n + 1) b = a :: l.set n b := rfl
open law08_RleBytes (q0_ q1_ q2_)
def law08_RleBytes.f (k : Nat) (l0 : List (S32)) (a1 : Int) (l2 : List Int) (a3 : Int) : Option (Bool) := (law08_shown.f).bind fun t416 => ((law08_few.f k l0).bind fun t417 => (if t417 = true then ((rle_Bytes.f k l0 a1).bind fun bt418 => ((ref08_Bytes.f k l0 a1).bind fun bt422 => ((rle_Of.f k l2 a3 a1).bind fun bt426 => ((ref08_Of.f k l2 a3 a1).bind fun bt430 => ((rle_ToRuns.f k l2 a3 a1).bind fun bt434 => ((ref08_ToRuns.f k l2 a3 a1).bind fun bt438 => ((rle_Runs.f k l0).bind fun t442 => ((ref08_Runs.f k l0).bind fun t445 => ((law08_same.f k t442 t445).bind fun t448 => (if t448 = true then ((law08_same.f k bt434.1 bt438.1).bind fun t449 => (if t449 = true then (if bt434.2 = bt438.2 then (if t416 = true then (if (strOfNums bt418.1).toList = (strOfNums bt422.1).toList then (if bt418.2 = bt422.2 then ((ref05_Same.f k bt426.1 bt430.1).bind fun t450 => (if t450 = true then (some (bt426.2 == bt430.2)) else (some false))) else (some false)) else (some false)) else (some false)) else (some false)) else (some false))) else (some false))))))))))) else (some t416)))
theorem law08_RleBytes.mono : ∀ a0 a1 a2 a3 k, LeO (law08_RleBytes.f k a0 a1 a2 a3) (law08_RleBytes.f (k + 1) a0 a1 a2 a3) := by
 intro a0 a1 a2 a3 k
 unfold law08_RleBytes.f
 repeat' first
  | (with_reducible exact law08_few.mono _ _)
  | (with_reducible exact law08_same.mono _ _ _)
  | (with_reducible exact ref05_Same.mono _ _ _)
  | (with_reducible exact ref08_Bytes.mono _ _ _)
  | (with_reducible exact ref08_Of.mono _ _ _ _)
  | (with_reducible exact ref08_Runs.mono _ _)
  | (with_reducible exact ref08_ToRuns.mono _ _ _ _)
  | (with_reducible exact rle_Bytes.mono _ _ _)
  | (with_reducible exact rle_Of.mono _ _ _ _)
  | (with_reducible exact rle_Runs.mono _ _)
  | (with_reducible exact rle_ToRuns.mono _ _ _ _)
  | (with_reducible exact LeO.refl _)
  | (with_reducible exact LeO.none _)
  | (with_reducible refine LeO.ite ?_ ?_)
  | (with_reducible refine LeO.bind ?_ (fun _ => ?_))
  | exact law08_few.mono _ _
  | exact law08_same.mono _ _ _
  | exact ref05_Same.mono _ _ _
  | exact ref08_Bytes.mono _ _ _
  | exact ref08_Of.mono _ _ _ _
  | exact ref08_Runs.mono _ _
  | exact ref08_ToRuns.mono _ _ _ _
  | exact rle_Bytes.mono _ _ _
  | exact rle_Of.mono _ _ _ _
  | exact rle_Runs.mono _ _
  | exact rle_ToRuns.mono _ _ _ _
  | exact LeO.none _
  | refine LeO.ite ?_ ?_
  | refine LeO.bind ?_ (fun _ => ?_)
set_option maxHeartbeats 8000000 in
set_option maxRecDepth 100000 in
theorem law08_RleBytes.calls (k : Nat) (A0 : Option Addr) (c0 : Nat) (l0 : List (S32)) (a1 : Int) (A2 : Option Addr) (c2 : Nat) (l2 : List Int) (a3 : Int) (r : Bool) (w : World) (hr0 : Kd.C k32 w A0 l0.length l0) (hc0 : l0.length ≤ c0) (hr2 : Kd.C (Kd.int .u8) w A2 l2.length l2) (hc2 : l2.length ≤ c2) (hr_ : Aside0 (r = true)) (h : law08_RleBytes.f k l0 a1 l2 a3 = some r) :
 Calls Try.prog 12 #[.slice A0 l0.length c0, .int .i64 a1, .slice A2 l2.length c2, .int .i64 a3] w fun e w' => e = .returned (.bool r) ∧ Below w.heap.size w w' := by
 have HR0 := Aside0.mk hr0
 have HC0 := Aside0.mk hc0
 clear hr0 hc0
 have HR2 := Aside0.mk hr2
 have HC2 := Aside0.mk hc2
 clear hr2 hc2
 have HB := Aside0.mk (Below.refl w.heap.size w)
 have H : ((law08_shown.f).bind fun t416 => ((law08_few.f k l0).bind fun t417 => (if t417 = true then ((rle_Bytes.f k l0 a1).bind fun bt418 => ((ref08_Bytes.f k l0 a1).bind fun bt422 => ((rle_Of.f k l2 a3 a1).bind fun bt426 => ((ref08_Of.f k l2 a3 a1).bind fun bt430 => ((rle_ToRuns.f k l2 a3 a1).bind fun bt434 => ((ref08_ToRuns.f k l2 a3 a1).bind fun bt438 => ((rle_Runs.f k l0).bind fun t442 => ((ref08_Runs.f k l0).bind fun t445 => ((law08_same.f k t442 t445).bind fun t448 => (if t448 = true then ((law08_same.f k bt434.1 bt438.1).bind fun t449 => (if t449 = true then (if bt434.2 = bt438.2 then (if t416 = true then (if (strOfNums bt418.1).toList = (strOfNums bt422.1).toList then (if bt418.2 = bt422.2 then ((ref05_Same.f k bt426.1 bt430.1).bind fun t450 => (if t450 = true then (some (bt426.2 == bt430.2)) else (some false))) else (some false)) else (some false)) else (some false)) else (some false)) else (some false))) else (some false))))))))))) else (some t416)))) = some r := h
 clear h
 replace H := Option.bind_eq_some_iff.mp H
 obtain ⟨t416, A50, H⟩ := H
 replace H : ((law08_few.f k l0).bind fun t417 => (if t417 = true then ((rle_Bytes.f k l0 a1).bind fun bt418 => ((ref08_Bytes.f k l0 a1).bind fun bt422 => ((rle_Of.f k l2 a3 a1).bind fun bt426 => ((ref08_Of.f k l2 a3 a1).bind fun bt430 => ((rle_ToRuns.f k l2 a3 a1).bind fun bt434 => ((ref08_ToRuns.f k l2 a3 a1).bind fun bt438 => ((rle_Runs.f k l0).bind fun t442 => ((ref08_Runs.f k l0).bind fun t445 => ((law08_same.f k t442 t445).bind fun t448 => (if t448 = true then ((law08_same.f k bt434.1 bt438.1).bind fun t449 => (if t449 = true then (if bt434.2 = bt438.2 then (if t416 = true then (if (strOfNums bt418.1).toList = (strOfNums bt422.1).toList then (if bt418.2 = bt422.2 then ((ref05_Same.f k bt426.1 bt430.1).bind fun t450 => (if t450 = true then (some (bt426.2 == bt430.2)) else (some false))) else (some false)) else (some false)) else (some false)) else (some false)) else (some false))) else (some false))))))))))) else (some t416))) = some r := H
 have A5 := Aside0.mk A50
 clear A50
 replace H := Option.bind_eq_some_iff.mp H
 obtain ⟨t417, A60, H⟩ := H
 replace H : (if t417 = true then ((rle_Bytes.f k l0 a1).bind fun bt418 => ((ref08_Bytes.f k l0 a1).bind fun bt422 => ((rle_Of.f k l2 a3 a1).bind fun bt426 => ((ref08_Of.f k l2 a3 a1).bind fun bt430 => ((rle_ToRuns.f k l2 a3 a1).bind fun bt434 => ((ref08_ToRuns.f k l2 a3 a1).bind fun bt438 => ((rle_Runs.f k l0).bind fun t442 => ((ref08_Runs.f k l0).bind fun t445 => ((law08_same.f k t442 t445).bind fun t448 => (if t448 = true then ((law08_same.f k bt434.1 bt438.1).bind fun t449 => (if t449 = true then (if bt434.2 = bt438.2 then (if t416 = true then (if (strOfNums bt418.1).toList = (strOfNums bt422.1).toList then (if bt418.2 = bt422.2 then ((ref05_Same.f k bt426.1 bt430.1).bind fun t450 => (if t450 = true then (some (bt426.2 == bt430.2)) else (some false))) else (some false)) else (some false)) else (some false)) else (some false)) else (some false))) else (some false))))))))))) else (some t416)) = some r := H
 have A6 := Aside0.mk A60
 clear A60
 by_cases c7 : t417 = true
 ·
  subst c7
  have H1 : ((rle_Bytes.f k l0 a1).bind fun bt418 => ((ref08_Bytes.f k l0 a1).bind fun bt422 => ((rle_Of.f k l2 a3 a1).bind fun bt426 => ((ref08_Of.f k l2 a3 a1).bind fun bt430 => ((rle_ToRuns.f k l2 a3 a1).bind fun bt434 => ((ref08_ToRuns.f k l2 a3 a1).bind fun bt438 => ((rle_Runs.f k l0).bind fun t442 => ((ref08_Runs.f k l0).bind fun t445 => ((law08_same.f k t442 t445).bind fun t448 => (if t448 = true then ((law08_same.f k bt434.1 bt438.1).bind fun t449 => (if t449 = true then (if bt434.2 = bt438.2 then (if t416 = true then (if (strOfNums bt418.1).toList = (strOfNums bt422.1).toList then (if bt418.2 = bt422.2 then ((ref05_Same.f k bt426.1 bt430.1).bind fun t450 => (if t450 = true then (some (bt426.2 == bt430.2)) else (some false))) else (some false)) else (some false)) else (some false)) else (some false)) else (some false))) else (some false))))))))))) = some r := by rw [if_pos rfl] at H; exact H
  clear H
  have H := H1
  clear H1
  replace H := Option.bind_eq_some_iff.mp H
  obtain ⟨⟨t418, t419⟩, A80, H⟩ := H
  replace H : ((ref08_Bytes.f k l0 a1).bind fun bt422 => ((rle_Of.f k l2 a3 a1).bind fun bt426 => ((ref08_Of.f k l2 a3 a1).bind fun bt430 => ((rle_ToRuns.f k l2 a3 a1).bind fun bt434 => ((ref08_ToRuns.f k l2 a3 a1).bind fun bt438 => ((rle_Runs.f k l0).bind fun t442 => ((ref08_Runs.f k l0).bind fun t445 => ((law08_same.f k t442 t445).bind fun t448 => (if t448 = true then ((law08_same.f k bt434.1 bt438.1).bind fun t449 => (if t449 = true then (if bt434.2 = bt438.2 then (if t416 = true then (if (strOfNums t418).toList = (strOfNums bt422.1).toList then (if t419 = bt422.2 then ((ref05_Same.f k bt426.1 bt430.1).bind fun t450 => (if t450 = true then (some (bt426.2 == bt430.2)) else (some false))) else (some false)) else (some false)) else (some false)) else (some false)) else (some false))) else (some false)))))))))) = some r := H
  have A8 := Aside0.mk A80
  clear A80
  replace H := Option.bind_eq_some_iff.mp H
  obtain ⟨⟨t422, t423⟩, A90, H⟩ := H
  replace H : ((rle_Of.f k l2 a3 a1).bind fun bt426 => ((ref08_Of.f k l2 a3 a1).bind fun bt430 => ((rle_ToRuns.f k l2 a3 a1).bind fun bt434 => ((ref08_ToRuns.f k l2 a3 a1).bind fun bt438 => ((rle_Runs.f k l0).bind fun t442 => ((ref08_Runs.f k l0).bind fun t445 => ((law08_same.f k t442 t445).bind fun t448 => (if t448 = true then ((law08_same.f k bt434.1 bt438.1).bind fun t449 => (if t449 = true then (if bt434.2 = bt438.2 then (if t416 = true then (if (strOfNums t418).toList = (strOfNums t422).toList then (if t419 = t423 then ((ref05_Same.f k bt426.1 bt430.1).bind fun t450 => (if t450 = true then (some (bt426.2 == bt430.2)) else (some false))) else (some false)) else (some false)) else (some false)) else (some false)) else (some false))) else (some false))))))))) = some r := H
  have A9 := Aside0.mk A90
  clear A90
  replace H := Option.bind_eq_some_iff.mp H
  obtain ⟨⟨t426, t427⟩, A100, H⟩ := H
  replace H : ((ref08_Of.f k l2 a3 a1).bind fun bt430 => ((rle_ToRuns.f k l2 a3 a1).bind fun bt434 => ((ref08_ToRuns.f k l2 a3 a1).bind fun bt438 => ((rle_Runs.f k l0).bind fun t442 => ((ref08_Runs.f k l0).bind fun t445 => ((law08_same.f k t442 t445).bind fun t448 => (if t448 = true then ((law08_same.f k bt434.1 bt438.1).bind fun t449 => (if t449 = true then (if bt434.2 = bt438.2 then (if t416 = true then (if (strOfNums t418).toList = (strOfNums t422).toList then (if t419 = t423 then ((ref05_Same.f k t426 bt430.1).bind fun t450 => (if t450 = true then (some (t427 == bt430.2)) else (some false))) else (some false)) else (some false)) else (some false)) else (some false)) else (some false))) else (some false)))))))) = some r := H
  have A10 := Aside0.mk A100
  clear A100
  replace H := Option.bind_eq_some_iff.mp H
  obtain ⟨⟨t430, t431⟩, A110, H⟩ := H
  replace H : ((rle_ToRuns.f k l2 a3 a1).bind fun bt434 => ((ref08_ToRuns.f k l2 a3 a1).bind fun bt438 => ((rle_Runs.f k l0).bind fun t442 => ((ref08_Runs.f k l0).bind fun t445 => ((law08_same.f k t442 t445).bind fun t448 => (if t448 = true then ((law08_same.f k bt434.1 bt438.1).bind fun t449 => (if t449 = true then (if bt434.2 = bt438.2 then (if t416 = true then (if (strOfNums t418).toList = (strOfNums t422).toList then (if t419 = t423 then ((ref05_Same.f k t426 t430).bind fun t450 => (if t450 = true then (some (t427 == t431)) else (some false))) else (some false)) else (some false)) else (some false)) else (some false)) else (some false))) else (some false))))))) = some r := H
  have A11 := Aside0.mk A110
  clear A110
  replace H := Option.bind_eq_some_iff.mp H
  obtain ⟨⟨t434, t437⟩, A120, H⟩ := H
  replace H : ((ref08_ToRuns.f k l2 a3 a1).bind fun bt438 => ((rle_Runs.f k l0).bind fun t442 => ((ref08_Runs.f k l0).bind fun t445 => ((law08_same.f k t442 t445).bind fun t448 => (if t448 = true then ((law08_same.f k t434 bt438.1).bind fun t449 => (if t449 = true then (if t437 = bt438.2 then (if t416 = true then (if (strOfNums t418).toList = (strOfNums t422).toList then (if t419 = t423 then ((ref05_Same.f k t426 t430).bind fun t450 => (if t450 = true then (some (t427 == t431)) else (some false))) else (some false)) else (some false)) else (some false)) else (some false)) else (some false))) else (some false)))))) = some r := H
  have A12 := Aside0.mk A120
  clear A120
  replace H := Option.bind_eq_some_iff.mp H
  obtain ⟨⟨t438, t441⟩, A130, H⟩ := H
  replace H : ((rle_Runs.f k l0).bind fun t442 => ((ref08_Runs.f k l0).bind fun t445 => ((law08_same.f k t442 t445).bind fun t448 => (if t448 = true then ((law08_same.f k t434 t438).bind fun t449 => (if t449 = true then (if t437 = t441 then (if t416 = true then (if (strOfNums t418).toList = (strOfNums t422).toList then (if t419 = t423 then ((ref05_Same.f k t426 t430).bind fun t450 => (if t450 = true then (some (t427 == t431)) else (some false))) else (some false)) else (some false)) else (some false)) else (some false)) else (some false))) else (some false))))) = some r := H
  have A13 := Aside0.mk A130
  clear A130
  replace H := Option.bind_eq_some_iff.mp H
  obtain ⟨t442, A140, H⟩ := H
  replace H : ((ref08_Runs.f k l0).bind fun t445 => ((law08_same.f k t442 t445).bind fun t448 => (if t448 = true then ((law08_same.f k t434 t438).bind fun t449 => (if t449 = true then (if t437 = t441 then (if t416 = true then (if (strOfNums t418).toList = (strOfNums t422).toList then (if t419 = t423 then ((ref05_Same.f k t426 t430).bind fun t450 => (if t450 = true then (some (t427 == t431)) else (some false))) else (some false)) else (some false)) else (some false)) else (some false)) else (some false))) else (some false)))) = some r := H
  have A14 := Aside0.mk A140
  clear A140
  replace H := Option.bind_eq_some_iff.mp H
  obtain ⟨t445, A150, H⟩ := H
  replace H : ((law08_same.f k t442 t445).bind fun t448 => (if t448 = true then ((law08_same.f k t434 t438).bind fun t449 => (if t449 = true then (if t437 = t441 then (if t416 = true then (if (strOfNums t418).toList = (strOfNums t422).toList then (if t419 = t423 then ((ref05_Same.f k t426 t430).bind fun t450 => (if t450 = true then (some (t427 == t431)) else (some false))) else (some false)) else (some false)) else (some false)) else (some false)) else (some false))) else (some false))) = some r := H
  have A15 := Aside0.mk A150
  clear A150
  replace H := Option.bind_eq_some_iff.mp H
  obtain ⟨t448, A160, H⟩ := H
  replace H : (if t448 = true then ((law08_same.f k t434 t438).bind fun t449 => (if t449 = true then (if t437 = t441 then (if t416 = true then (if (strOfNums t418).toList = (strOfNums t422).toList then (if t419 = t423 then ((ref05_Same.f k t426 t430).bind fun t450 => (if t450 = true then (some (t427 == t431)) else (some false))) else (some false)) else (some false)) else (some false)) else (some false)) else (some false))) else (some false)) = some r := H
  have A16 := Aside0.mk A160
  clear A160
  by_cases c17 : t448 = true
  ·
   subst c17
   have H1 : ((law08_same.f k t434 t438).bind fun t449 => (if t449 = true then (if t437 = t441 then (if t416 = true then (if (strOfNums t418).toList = (strOfNums t422).toList then (if t419 = t423 then ((ref05_Same.f k t426 t430).bind fun t450 => (if t450 = true then (some (t427 == t431)) else (some false))) else (some false)) else (some false)) else (some false)) else (some false)) else (some false))) = some r := by rw [if_pos rfl] at H; exact H
   clear H
   have H := H1
   clear H1
   replace H := Option.bind_eq_some_iff.mp H
   obtain ⟨t449, A180, H⟩ := H
   replace H : (if t449 = true then (if t437 = t441 then (if t416 = true then (if (strOfNums t418).toList = (strOfNums t422).toList then (if t419 = t423 then ((ref05_Same.f k t426 t430).bind fun t450 => (if t450 = true then (some (t427 == t431)) else (some false))) else (some false)) else (some false)) else (some false)) else (some false)) else (some false)) = some r := H
   have A18 := Aside0.mk A180
   clear A180
   by_cases c19 : t449 = true
   ·
    subst c19
    have H1 : (if t437 = t441 then (if t416 = true then (if (strOfNums t418).toList = (strOfNums t422).toList then (if t419 = t423 then ((ref05_Same.f k t426 t430).bind fun t450 => (if t450 = true then (some (t427 == t431)) else (some false))) else (some false)) else (some false)) else (some false)) else (some false)) = some r := by rw [if_pos rfl] at H; exact H
    clear H
    have H := H1
    clear H1
    by_cases c20 : t437 = t441
    ·
     rw [if_pos c20] at H
     have c20b0 : (t437 == t441) = true := beq_iff_eq.mpr c20
     have c20b1 : (t437 != t441) = false := bne_eq_false_iff_eq.mpr c20
     clear c20
     by_cases c21 : t416 = true
     ·
      subst c21
      have H1 : (if (strOfNums t418).toList = (strOfNums t422).toList then (if t419 = t423 then ((ref05_Same.f k t426 t430).bind fun t450 => (if t450 = true then (some (t427 == t431)) else (some false))) else (some false)) else (some false)) = some r := by rw [if_pos rfl] at H; exact H
      clear H
      have H := H1
      clear H1
      by_cases c22 : (strOfNums t418).toList = (strOfNums t422).toList
      ·
       rw [if_pos c22] at H
       have c22b0 : ((strOfNums t418).toList == (strOfNums t422).toList) = true := beq_iff_eq.mpr c22
       have c22b1 : ((strOfNums t418).toList != (strOfNums t422).toList) = false := bne_eq_false_iff_eq.mpr c22
       clear c22
       by_cases c23 : t419 = t423
       ·
        rw [if_pos c23] at H
        have c23b0 : (t419 == t423) = true := beq_iff_eq.mpr c23
        have c23b1 : (t419 != t423) = false := bne_eq_false_iff_eq.mpr c23
        clear c23
        replace H := Option.bind_eq_some_iff.mp H
        obtain ⟨t450, A240, H⟩ := H
        replace H : (if t450 = true then (some (t427 == t431)) else (some false)) = some r := H
        have A24 := Aside0.mk A240
        clear A240
        by_cases c25 : t450 = true
        ·
         subst c25
         have H1 : (some (t427 == t431)) = some r := by rw [if_pos rfl] at H; exact H
         clear H
         have H := H1
         clear H1
         obtain rfl := Option.some.inj H
         go_enter Try.func12, Try.ntmps12
         go_wp2_with (first | ((with_reducible refine gate_callee (f := 23) rfl ?_); refine goesL_ (some 22) rfl rfl Try.func23 (by kernel_rfl) rfl #[] rfl (by (try simp only [List.map_toArray, List.map_cons, List.map_nil]); first | done | rfl | (simp only [List.length_drop, List.length_take]; rfl)) ?_; (with_reducible refine (law08_shown.calls  true _ A5.out).mono ?_); rintro e w26 ⟨rfl, hb⟩; (try clear A5); refine ⟨_, rfl, ?_⟩; have n0_ := Aside0.mk (below_step (by repeat (with_reducible first | exact HB.out | apply below_alloc | apply pw_below_drewN | apply below_drew1)) hb); clear HB; have HB := n0_; clear n0_; (try clear hb); (try clear hb2); (try clear hk); (try clear hi)) | ((with_reducible refine gate_callee (f := 25) rfl ?_); refine goesL_ (some 24) rfl rfl Try.func25 (by kernel_rfl) rfl #[.slice A0 l0.length c0] rfl (by (try simp only [List.map_toArray, List.map_cons, List.map_nil]); first | done | rfl | (simp only [List.length_drop, List.length_take]; rfl)) ?_; (with_reducible refine (law08_few.calls k _ _ l0 true _ ?side1 ?side2 A6.out).mono ?_); (case side1 => repeat (first | exact (Kd.C_below HR0.out HB.out) | (with_reducible refine Kd.C_alloc ?_ _) | (with_reducible refine Kd.C_drewN ?_ _) | (with_reducible refine Kd.C_drew ?_))); (case side2 => exact HC0.out); rintro e w' ⟨rfl, ⟨nd, rfl⟩⟩; refine ⟨_, rfl, ?_⟩) | ((with_reducible refine gate_callee (f := 24) rfl ?_); refine goesL_ (some 30) rfl rfl Try.func24 (by kernel_rfl) rfl #[.slice A0 l0.length c0, .int .i64 a1] rfl (by (try simp only [List.map_toArray, List.map_cons, List.map_nil]); first | done | rfl | (simp only [List.length_drop, List.length_take]; rfl)) ?_; (with_reducible refine (rle_Bytes.calls k _ _ l0 a1 t418 t419 _ ?side1 ?side2 A8.out).mono ?_); (case side1 => repeat (first | exact (Kd.C_below HR0.out (by repeat (with_reducible first | exact HB.out | apply below_alloc | apply pw_below_drewN | apply below_drew1))) | (with_reducible refine Kd.C_alloc ?_ _) | (with_reducible refine Kd.C_drewN ?_ _) | (with_reducible refine Kd.C_drew ?_))); (case side2 => exact HC0.out); rintro e w27 ⟨v420, rfl, ho0, hb⟩; (try clear A8); refine ⟨_, rfl, ?_⟩; have n0_ := Aside0.mk (Kd.R_lower ho0 (below_size (by repeat (with_reducible first | exact HB.out | apply below_alloc | apply pw_below_drewN | apply below_drew1)))); have n1_ := Aside0.mk (below_step (by repeat (with_reducible first | exact HB.out | apply below_alloc | apply pw_below_drewN | apply below_drew1)) hb); clear HB; have HO421 := n0_; have HB := n1_; clear n0_ n1_; (try clear hb); (try clear hb2); (try clear hk); (try clear hi); (try clear ho0)) | ((with_reducible refine gate_callee (f := 28) rfl ?_); refine goesL_ (some 36) rfl rfl Try.func28 (by kernel_rfl) rfl #[.slice A0 l0.length c0, .int .i64 a1] rfl (by (try simp only [List.map_toArray, List.map_cons, List.map_nil]); first | done | rfl | (simp only [List.length_drop, List.length_take]; rfl)) ?_; (with_reducible refine (ref08_Bytes.calls k _ _ l0 a1 t422 t423 _ ?side1 ?side2 A9.out).mono ?_); (case side1 => repeat (first | exact (Kd.C_below HR0.out HB.out) | (with_reducible refine Kd.C_alloc ?_ _) | (with_reducible refine Kd.C_drewN ?_ _) | (with_reducible refine Kd.C_drew ?_))); (case side2 => exact HC0.out); rintro e w28 ⟨v424, rfl, ho0, hb⟩; (try clear A9); refine ⟨_, rfl, ?_⟩; have n0_ := Aside0.mk (Kd.R_elder' (by (with_reducible repeat (first | apply Kd.R_alloc | apply Kd.R_drewN | apply Kd.R_drew)); exact HO421.out) (Kd.R_base ho0) hb); have n1_ := Aside0.mk (Kd.R_lower (Kd.R_new' ho0 (Kd.R_lt (by (with_reducible repeat (first | apply Kd.R_alloc | apply Kd.R_drewN | apply Kd.R_drew)); exact HO421.out))) (below_size (by repeat (with_reducible first | exact HB.out | apply below_alloc | apply pw_below_drewN | apply below_drew1)))); have n2_ := Aside0.mk (below_step (by repeat (with_reducible first | exact HB.out | apply below_alloc | apply pw_below_drewN | apply below_drew1)) hb); clear HO421; clear HB; have HO421 := n0_; have HO425 := n1_; have HB := n2_; clear n0_ n1_ n2_; (try clear hb); (try clear hb2); (try clear hk); (try clear hi); (try clear ho0)) | ((with_reducible refine gate_callee (f := 29) rfl ?_); refine goesL_ (some 43) rfl rfl Try.func29 (by kernel_rfl) rfl #[.slice A2 l2.length c2, .int .i64 a3, .int .i64 a1] rfl (by (try simp only [List.map_toArray, List.map_cons, List.map_nil]); first | done | rfl | (simp only [List.length_drop, List.length_take]; rfl)) ?_; (with_reducible refine (rle_Of.calls k _ _ l2 a3 a1 t426 t427 _ ?side1 ?side2 A10.out).mono ?_); (case side1 => repeat (first | exact (Kd.C_below HR2.out HB.out) | (with_reducible refine Kd.C_alloc ?_ _) | (with_reducible refine Kd.C_drewN ?_ _) | (with_reducible refine Kd.C_drew ?_))); (case side2 => exact HC2.out); rintro e w29 ⟨v428, rfl, ho0, hb⟩; (try clear A10); refine ⟨_, rfl, ?_⟩; have n0_ := Aside0.mk (Kd.R_below (by (with_reducible repeat (first | apply Kd.R_alloc | apply Kd.R_drewN | apply Kd.R_drew)); exact HO421.out) hb); have n1_ := Aside0.mk (Kd.R_below (by (with_reducible repeat (first | apply Kd.R_alloc | apply Kd.R_drewN | apply Kd.R_drew)); exact HO425.out) hb); have n2_ := Aside0.mk (Kd.R_lower ho0 (below_size (by repeat (with_reducible first | exact HB.out | apply below_alloc | apply pw_below_drewN | apply below_drew1)))); have n3_ := Aside0.mk (below_step (by repeat (with_reducible first | exact HB.out | apply below_alloc | apply pw_below_drewN | apply below_drew1)) hb); clear HO421; clear HO425; clear HB; have HO421 := n0_; have HO425 := n1_; have HO429 := n2_; have HB := n3_; clear n0_ n1_ n2_ n3_; (try clear hb); (try clear hb2); (try clear hk); (try clear hi); (try clear ho0)) | ((with_reducible refine gate_callee (f := 30) rfl ?_); refine goesL_ (some 50) rfl rfl Try.func30 (by kernel_rfl) rfl #[.slice A2 l2.length c2, .int .i64 a3, .int .i64 a1] rfl (by (try simp only [List.map_toArray, List.map_cons, List.map_nil]); first | done | rfl | (simp only [List.length_drop, List.length_take]; rfl)) ?_; (with_reducible refine (ref08_Of.calls k _ _ l2 a3 a1 t430 t431 _ ?side1 ?side2 A11.out).mono ?_); (case side1 => repeat (first | exact (Kd.C_below HR2.out HB.out) | (with_reducible refine Kd.C_alloc ?_ _) | (with_reducible refine Kd.C_drewN ?_ _) | (with_reducible refine Kd.C_drew ?_))); (case side2 => exact HC2.out); rintro e w30 ⟨v432, rfl, ho0, hb⟩; (try clear A11); refine ⟨_, rfl, ?_⟩; have n0_ := Aside0.mk (Kd.R_below (by (with_reducible repeat (first | apply Kd.R_alloc | apply Kd.R_drewN | apply Kd.R_drew)); exact HO421.out) hb); have n1_ := Aside0.mk (Kd.R_below (by (with_reducible repeat (first | apply Kd.R_alloc | apply Kd.R_drewN | apply Kd.R_drew)); exact HO425.out) hb); have n2_ := Aside0.mk (Kd.R_elder' (by (with_reducible repeat (first | apply Kd.R_alloc | apply Kd.R_drewN | apply Kd.R_drew)); exact HO429.out) (Kd.R_base ho0) hb); have n3_ := Aside0.mk (Kd.R_lower (Kd.R_new' ho0 (Kd.R_lt (by (with_reducible repeat (first | apply Kd.R_alloc | apply Kd.R_drewN | apply Kd.R_drew)); exact HO429.out))) (below_size (by repeat (with_reducible first | exact HB.out | apply below_alloc | apply pw_below_drewN | apply below_drew1)))); have n4_ := Aside0.mk (below_step (by repeat (with_reducible first | exact HB.out | apply below_alloc | apply pw_below_drewN | apply below_drew1)) hb); clear HO421; clear HO425; clear HO429; clear HB; have HO421 := n0_; have HO425 := n1_; have HO429 := n2_; have HO433 := n3_; have HB := n4_; clear n0_ n1_ n2_ n3_ n4_; (try clear hb); (try clear hb2); (try clear hk); (try clear hi); (try clear ho0)) | ((with_reducible refine gate_callee (f := 31) rfl ?_); refine goesL_ (some 57) rfl rfl Try.func31 (by kernel_rfl) rfl #[.slice A2 l2.length c2, .int .i64 a3, .int .i64 a1] rfl (by (try simp only [List.map_toArray, List.map_cons, List.map_nil]); first | done | rfl | (simp only [List.length_drop, List.length_take]; rfl)) ?_; (with_reducible refine (rle_ToRuns.calls k (fun k_ => k_ < w.heap.size) _ _ l2 a3 a1 t434 t437 _ ?side1 A12.out).mono ?_); (case side1 => exact Kd.V_mk HC2.out (Kd.F_below (Kd.C_F (Kd.heap_int .u8) HR2.out) (by repeat (with_reducible first | exact HB.out | apply below_alloc | apply pw_below_drewN | apply below_drew1)))); rintro e w31 ⟨v435, rfl, ho0, hb⟩; (try clear A12); refine ⟨_, rfl, ?_⟩; have n0_ := Aside0.mk (Kd.R_below (by (with_reducible repeat (first | apply Kd.R_alloc | apply Kd.R_drewN | apply Kd.R_drew)); exact HO421.out) hb); have n1_ := Aside0.mk (Kd.R_below (by (with_reducible repeat (first | apply Kd.R_alloc | apply Kd.R_drewN | apply Kd.R_drew)); exact HO425.out) hb); have n2_ := Aside0.mk (Kd.R_below (by (with_reducible repeat (first | apply Kd.R_alloc | apply Kd.R_drewN | apply Kd.R_drew)); exact HO429.out) hb); have n3_ := Aside0.mk (Kd.R_below (by (with_reducible repeat (first | apply Kd.R_alloc | apply Kd.R_drewN | apply Kd.R_drew)); exact HO433.out) hb); have n4_ := Aside0.mk (Kd.R_lower (Kd.R_mono (ok' := fun k_ => True) ho0 (fun _ hk_ => trivial)) (below_size (by repeat (with_reducible first | exact HB.out | apply below_alloc | apply pw_below_drewN | apply below_drew1)))); have n5_ := Aside0.mk (below_step (by repeat (with_reducible first | exact HB.out | apply below_alloc | apply pw_below_drewN | apply below_drew1)) hb); clear HO421; clear HO425; clear HO429; clear HO433; clear HB; have HO421 := n0_; have HO425 := n1_; have HO429 := n2_; have HO433 := n3_; have HO436 := n4_; have HB := n5_; clear n0_ n1_ n2_ n3_ n4_ n5_; (try clear hb); (try clear hb2); (try clear hk); (try clear hi); (try clear ho0)) | ((with_reducible refine gate_callee (f := 32) rfl ?_); refine goesL_ (some 64) rfl rfl Try.func32 (by kernel_rfl) rfl #[.slice A2 l2.length c2, .int .i64 a3, .int .i64 a1] rfl (by (try simp only [List.map_toArray, List.map_cons, List.map_nil]); first | done | rfl | (simp only [List.length_drop, List.length_take]; rfl)) ?_; (with_reducible refine (ref08_ToRuns.calls k (fun k_ => k_ < w.heap.size) _ _ l2 a3 a1 t438 t441 _ ?side1 A13.out).mono ?_); (case side1 => exact Kd.V_mk HC2.out (Kd.F_below (Kd.C_F (Kd.heap_int .u8) HR2.out) (by repeat (with_reducible first | exact HB.out | apply below_alloc | apply pw_below_drewN | apply below_drew1)))); rintro e w32 ⟨v439, rfl, ho0, hb⟩; (try clear A13); refine ⟨_, rfl, ?_⟩; have n0_ := Aside0.mk (Kd.R_below (by (with_reducible repeat (first | apply Kd.R_alloc | apply Kd.R_drewN | apply Kd.R_drew)); exact HO421.out) hb); have n1_ := Aside0.mk (Kd.R_below (by (with_reducible repeat (first | apply Kd.R_alloc | apply Kd.R_drewN | apply Kd.R_drew)); exact HO425.out) hb); have n2_ := Aside0.mk (Kd.R_below (by (with_reducible repeat (first | apply Kd.R_alloc | apply Kd.R_drewN | apply Kd.R_drew)); exact HO429.out) hb); have n3_ := Aside0.mk (Kd.R_below (by (with_reducible repeat (first | apply Kd.R_alloc | apply Kd.R_drewN | apply Kd.R_drew)); exact HO433.out) hb); have n4_ := Aside0.mk (Kd.R_below (by (with_reducible repeat (first | apply Kd.R_alloc | apply Kd.R_drewN | apply Kd.R_drew)); exact HO436.out) hb); have n5_ := Aside0.mk (Kd.R_lower (Kd.R_mono (ok' := fun k_ => True) ho0 (fun _ hk_ => trivial)) (below_size (by repeat (with_reducible first | exact HB.out | apply below_alloc | apply pw_below_drewN | apply below_drew1)))); have n6_ := Aside0.mk (below_step (by repeat (with_reducible first | exact HB.out | apply below_alloc | apply pw_below_drewN | apply below_drew1)) hb); clear HO421; clear HO425; clear HO429; clear HO433; clear HO436; clear HB; have HO421 := n0_; have HO425 := n1_; have HO429 := n2_; have HO433 := n3_; have HO436 := n4_; have HO440 := n5_; have HB := n6_; clear n0_ n1_ n2_ n3_ n4_ n5_ n6_; (try clear hb); (try clear hb2); (try clear hk); (try clear hi); (try clear ho0)) | ((with_reducible refine gate_callee (f := 26) rfl ?_); refine goesL_ (some 68) rfl rfl Try.func26 (by kernel_rfl) rfl #[.slice A0 l0.length c0] rfl (by (try simp only [List.map_toArray, List.map_cons, List.map_nil]); first | done | rfl | (simp only [List.length_drop, List.length_take]; rfl)) ?_; (with_reducible refine (rle_Runs.calls k _ _ l0 t442 _ ?side1 ?side2 A14.out).mono ?_); (case side1 => repeat (first | exact (Kd.C_below HR0.out HB.out) | (with_reducible refine Kd.C_alloc ?_ _) | (with_reducible refine Kd.C_drewN ?_ _) | (with_reducible refine Kd.C_drew ?_))); (case side2 => exact HC0.out); rintro e w33 ⟨v443, rfl, ho0, hb⟩; (try clear A14); refine ⟨_, rfl, ?_⟩; have n0_ := Aside0.mk (Kd.R_below (by (with_reducible repeat (first | apply Kd.R_alloc | apply Kd.R_drewN | apply Kd.R_drew)); exact HO421.out) hb); have n1_ := Aside0.mk (Kd.R_below (by (with_reducible repeat (first | apply Kd.R_alloc | apply Kd.R_drewN | apply Kd.R_drew)); exact HO425.out) hb); have n2_ := Aside0.mk (Kd.R_below (by (with_reducible repeat (first | apply Kd.R_alloc | apply Kd.R_drewN | apply Kd.R_drew)); exact HO429.out) hb); have n3_ := Aside0.mk (Kd.R_below (by (with_reducible repeat (first | apply Kd.R_alloc | apply Kd.R_drewN | apply Kd.R_drew)); exact HO433.out) hb); have n4_ := Aside0.mk (Kd.R_elder' (by (with_reducible repeat (first | apply Kd.R_alloc | apply Kd.R_drewN | apply Kd.R_drew)); exact HO436.out) (Kd.R_base ho0) hb); have n5_ := Aside0.mk (Kd.R_below (by (with_reducible repeat (first | apply Kd.R_alloc | apply Kd.R_drewN | apply Kd.R_drew)); exact HO440.out) hb); have n6_ := Aside0.mk (Kd.R_lower (Kd.R_new' ho0 (Kd.R_lt (by (with_reducible repeat (first | apply Kd.R_alloc | apply Kd.R_drewN | apply Kd.R_drew)); exact HO436.out))) (below_size (by repeat (with_reducible first | exact HB.out | apply below_alloc | apply pw_below_drewN | apply below_drew1)))); have n7_ := Aside0.mk (below_step (by repeat (with_reducible first | exact HB.out | apply below_alloc | apply pw_below_drewN | apply below_drew1)) hb); clear HO421; clear HO425; clear HO429; clear HO433; clear HO436; clear HO440; clear HB; have HO421 := n0_; have HO425 := n1_; have HO429 := n2_; have HO433 := n3_; have HO436 := n4_; have HO440 := n5_; have HO444 := n6_; have HB := n7_; clear n0_ n1_ n2_ n3_ n4_ n5_ n6_ n7_; (try clear hb); (try clear hb2); (try clear hk); (try clear hi); (try clear ho0)) | ((with_reducible refine gate_callee (f := 34) rfl ?_); refine goesL_ (some 70) rfl rfl Try.func34 (by kernel_rfl) rfl #[.slice A0 l0.length c0] rfl (by (try simp only [List.map_toArray, List.map_cons, List.map_nil]); first | done | rfl | (simp only [List.length_drop, List.length_take]; rfl)) ?_; (with_reducible refine (ref08_Runs.calls k _ _ l0 t445 _ ?side1 ?side2 A15.out).mono ?_); (case side1 => repeat (first | exact (Kd.C_below HR0.out HB.out) | (with_reducible refine Kd.C_alloc ?_ _) | (with_reducible refine Kd.C_drewN ?_ _) | (with_reducible refine Kd.C_drew ?_))); (case side2 => exact HC0.out); rintro e w34 ⟨v446, rfl, ho0, hb⟩; (try clear A15); refine ⟨_, rfl, ?_⟩; have n0_ := Aside0.mk (Kd.R_below (by (with_reducible repeat (first | apply Kd.R_alloc | apply Kd.R_drewN | apply Kd.R_drew)); exact HO421.out) hb); have n1_ := Aside0.mk (Kd.R_below (by (with_reducible repeat (first | apply Kd.R_alloc | apply Kd.R_drewN | apply Kd.R_drew)); exact HO425.out) hb); have n2_ := Aside0.mk (Kd.R_below (by (with_reducible repeat (first | apply Kd.R_alloc | apply Kd.R_drewN | apply Kd.R_drew)); exact HO429.out) hb); have n3_ := Aside0.mk (Kd.R_below (by (with_reducible repeat (first | apply Kd.R_alloc | apply Kd.R_drewN | apply Kd.R_drew)); exact HO433.out) hb); have n4_ := Aside0.mk (Kd.R_below (by (with_reducible repeat (first | apply Kd.R_alloc | apply Kd.R_drewN | apply Kd.R_drew)); exact HO436.out) hb); have n5_ := Aside0.mk (Kd.R_elder' (by (with_reducible repeat (first | apply Kd.R_alloc | apply Kd.R_drewN | apply Kd.R_drew)); exact HO440.out) (Kd.R_base ho0) hb); have n6_ := Aside0.mk (Kd.R_below (by (with_reducible repeat (first | apply Kd.R_alloc | apply Kd.R_drewN | apply Kd.R_drew)); exact HO444.out) hb); have n7_ := Aside0.mk (Kd.R_lower (Kd.R_new' ho0 (Kd.R_lt (by (with_reducible repeat (first | apply Kd.R_alloc | apply Kd.R_drewN | apply Kd.R_drew)); exact HO440.out))) (below_size (by repeat (with_reducible first | exact HB.out | apply below_alloc | apply pw_below_drewN | apply below_drew1)))); have n8_ := Aside0.mk (below_step (by repeat (with_reducible first | exact HB.out | apply below_alloc | apply pw_below_drewN | apply below_drew1)) hb); clear HO421; clear HO425; clear HO429; clear HO433; clear HO436; clear HO440; clear HO444; clear HB; have HO421 := n0_; have HO425 := n1_; have HO429 := n2_; have HO433 := n3_; have HO436 := n4_; have HO440 := n5_; have HO444 := n6_; have HO447 := n7_; have HB := n8_; clear n0_ n1_ n2_ n3_ n4_ n5_ n6_ n7_ n8_; (try clear hb); (try clear hb2); (try clear hk); (try clear hi); (try clear ho0); obtain ⟨Ao35, co35, eo35⟩ := Kd.R_slice HO444.out; subst eo35; obtain ⟨Ao36, co36, eo36⟩ := Kd.R_slice HO447.out; subst eo36) | ((with_reducible refine gate_callee (f := 33) rfl ?_); refine goesL_ (some 71) rfl rfl Try.func33 (by kernel_rfl) rfl #[.slice Ao35 t442.length co35, .slice Ao36 t445.length co36] rfl (by (try simp only [List.map_toArray, List.map_cons, List.map_nil]); first | done | rfl | (simp only [List.length_drop, List.length_take]; rfl)) ?_; (with_reducible refine (law08_same.calls k _ _ t442 _ _ t445 true _ ?side1 ?side2 ?side3 ?side4 A16.out).mono ?_); (case side1 => repeat (first | exact (Kd.R_reads' HO444.out).2.2 | (with_reducible refine Kd.C_alloc ?_ _) | (with_reducible refine Kd.C_drewN ?_ _) | (with_reducible refine Kd.C_drew ?_))); (case side2 => exact (Kd.R_reads' HO444.out).2.1); (case side3 => repeat (first | exact (Kd.R_reads' HO447.out).2.2 | (with_reducible refine Kd.C_alloc ?_ _) | (with_reducible refine Kd.C_drewN ?_ _) | (with_reducible refine Kd.C_drew ?_))); (case side4 => exact (Kd.R_reads' HO447.out).2.1); rintro e w' ⟨rfl, ⟨nd, rfl⟩⟩; refine ⟨_, rfl, ?_⟩; obtain ⟨Ao37, co37, eo37⟩ := Kd.R_slice HO436.out; subst eo37; obtain ⟨Ao38, co38, eo38⟩ := Kd.R_slice HO440.out; subst eo38) | (go_at_call 33; (with_reducible refine (law08_same.calls k _ _ t434 _ _ t438 true _ ?side1 ?side2 ?side3 ?side4 A18.out).mono ?_); (case side1 => repeat (first | exact (Kd.R_reads' HO436.out).2.2 | (with_reducible refine Kd.C_alloc ?_ _) | (with_reducible refine Kd.C_drewN ?_ _) | (with_reducible refine Kd.C_drew ?_))); (case side2 => exact (Kd.R_reads' HO436.out).2.1); (case side3 => repeat (first | exact (Kd.R_reads' HO440.out).2.2 | (with_reducible refine Kd.C_alloc ?_ _) | (with_reducible refine Kd.C_drewN ?_ _) | (with_reducible refine Kd.C_drew ?_))); (case side4 => exact (Kd.R_reads' HO440.out).2.1); rintro e w' ⟨rfl, ⟨nd, rfl⟩⟩; have hcv39 := own_string (P := Try.prog) Try.underlying25 Try.underlying5 Try.underlying9 (Kd.own_of_R HO421.out); have hcv39d := own_string (P := Try.prog) Try.underlying25 Try.underlying5 Try.underlying9 (Kd.own_of_R (Kd.R_drew HO421.out)); have hcv39n := fun (n_ : Nat) => own_string (P := Try.prog) Try.underlying25 Try.underlying5 Try.underlying9 (Kd.own_of_R (Kd.R_drewN HO421.out n_)); have hcv40 := own_string (P := Try.prog) Try.underlying25 Try.underlying5 Try.underlying9 (Kd.own_of_R HO425.out); have hcv40d := own_string (P := Try.prog) Try.underlying25 Try.underlying5 Try.underlying9 (Kd.own_of_R (Kd.R_drew HO425.out)); have hcv40n := fun (n_ : Nat) => own_string (P := Try.prog) Try.underlying25 Try.underlying5 Try.underlying9 (Kd.own_of_R (Kd.R_drewN HO425.out n_)); obtain ⟨Ao41, co41, eo41⟩ := Kd.R_slice HO429.out; subst eo41; obtain ⟨Ao42, co42, eo42⟩ := Kd.R_slice HO433.out; subst eo42) | (go_at_call 22; (with_reducible refine (ref05_Same.calls k _ _ t426 _ _ t430 true _ ?side1 ?side2 ?side3 ?side4 A24.out).mono ?_); (case side1 => repeat (first | exact (Kd.R_reads' HO429.out).2.2 | (with_reducible refine Kd.C_alloc ?_ _) | (with_reducible refine Kd.C_drewN ?_ _) | (with_reducible refine Kd.C_drew ?_))); (case side2 => exact (Kd.R_reads' HO429.out).2.1); (case side3 => repeat (first | exact (Kd.R_reads' HO433.out).2.2 | (with_reducible refine Kd.C_alloc ?_ _) | (with_reducible refine Kd.C_drewN ?_ _) | (with_reducible refine Kd.C_drew ?_))); (case side4 => exact (Kd.R_reads' HO433.out).2.1); rintro e w' ⟨rfl, ⟨nd, rfl⟩⟩))
         go_ret
         exact ⟨by first | rfl | (simp [errW_none, errW_some] <;> rfl) | (simp [*, errW_none, errW_some] <;> rfl), by repeat (with_reducible first | exact HB.out | apply below_alloc | apply pw_below_drewN | apply below_drew1)⟩
        ·
         replace c25 := Bool.eq_false_iff.mpr c25
         subst c25
         have H1 : (some false) = some r := by rw [if_neg (show ¬ (false = true) by decide)] at H; exact H
         clear H
         have H := H1
         clear H1
         exact absurd ((Option.some.inj H).trans hr_.out) (by decide)
       ·
        rw [if_neg c23] at H
        have c23b0 : (t419 == t423) = false := beq_eq_false_iff_ne.mpr c23
        have c23b1 : (t419 != t423) = true := bne_iff_ne.mpr c23
        exact absurd ((Option.some.inj H).trans hr_.out) (by decide)
      ·
       rw [if_neg c22] at H
       have c22b0 : ((strOfNums t418).toList == (strOfNums t422).toList) = false := beq_eq_false_iff_ne.mpr c22
       have c22b1 : ((strOfNums t418).toList != (strOfNums t422).toList) = true := bne_iff_ne.mpr c22
       exact absurd ((Option.some.inj H).trans hr_.out) (by decide)
     ·
      replace c21 := Bool.eq_false_iff.mpr c21
      subst c21
      have H1 : (some false) = some r := by rw [if_neg (show ¬ (false = true) by decide)] at H; exact H
      clear H
      have H := H1
      clear H1
      exact absurd ((Option.some.inj H).trans hr_.out) (by decide)
    ·
     rw [if_neg c20] at H
     have c20b0 : (t437 == t441) = false := beq_eq_false_iff_ne.mpr c20
     have c20b1 : (t437 != t441) = true := bne_iff_ne.mpr c20
     exact absurd ((Option.some.inj H).trans hr_.out) (by decide)
   ·
    replace c19 := Bool.eq_false_iff.mpr c19
    subst c19
    have H1 : (some false) = some r := by rw [if_neg (show ¬ (false = true) by decide)] at H; exact H
    clear H
    have H := H1
    clear H1
    exact absurd ((Option.some.inj H).trans hr_.out) (by decide)
  ·
   replace c17 := Bool.eq_false_iff.mpr c17
   subst c17
   have H1 : (some false) = some r := by rw [if_neg (show ¬ (false = true) by decide)] at H; exact H
   clear H
   have H := H1
   clear H1
   exact absurd ((Option.some.inj H).trans hr_.out) (by decide)
 ·
  replace c7 := Bool.eq_false_iff.mpr c7
  subst c7
  have H1 : (some t416) = some r := by rw [if_neg (show ¬ (false = true) by decide)] at H; exact H
  clear H
  have H := H1
  clear H1
  obtain rfl := Option.some.inj H
  go_enter Try.func12, Try.ntmps12
  go_wp2_with (first | ((with_reducible refine gate_callee (f := 23) rfl ?_); refine goesL_ (some 22) rfl rfl Try.func23 (by kernel_rfl) rfl #[] rfl (by (try simp only [List.map_toArray, List.map_cons, List.map_nil]); first | done | rfl | (simp only [List.length_drop, List.length_take]; rfl)) ?_; (with_reducible refine (law08_shown.calls  t416 _ A5.out).mono ?_); rintro e w43 ⟨rfl, hb⟩; (try clear A5); refine ⟨_, rfl, ?_⟩; have n0_ := Aside0.mk (below_step (by repeat (with_reducible first | exact HB.out | apply below_alloc | apply pw_below_drewN | apply below_drew1)) hb); clear HB; have HB := n0_; clear n0_; (try clear hb); (try clear hb2); (try clear hk); (try clear hi)) | ((with_reducible refine gate_callee (f := 25) rfl ?_); refine goesL_ (some 24) rfl rfl Try.func25 (by kernel_rfl) rfl #[.slice A0 l0.length c0] rfl (by (try simp only [List.map_toArray, List.map_cons, List.map_nil]); first | done | rfl | (simp only [List.length_drop, List.length_take]; rfl)) ?_; (with_reducible refine (law08_few.calls k _ _ l0 false _ ?side1 ?side2 A6.out).mono ?_); (case side1 => repeat (first | exact (Kd.C_below HR0.out HB.out) | (with_reducible refine Kd.C_alloc ?_ _) | (with_reducible refine Kd.C_drewN ?_ _) | (with_reducible refine Kd.C_drew ?_))); (case side2 => exact HC0.out); rintro e w' ⟨rfl, ⟨nd, rfl⟩⟩; refine ⟨_, rfl, ?_⟩))
  go_ret
  exact ⟨by first | rfl | (simp [errW_none, errW_some] <;> rfl) | (simp [*, errW_none, errW_some] <;> rfl), by repeat (with_reducible first | exact HB.out | apply below_alloc | apply pw_below_drewN | apply below_drew1)⟩
def law08_RleBytes.Pure : Prop := ∀ (l0 : List (S32)) (a1 : Int) (l2 : List Int) (a3 : Int), Hand.WfRow 32 wfS32 l0 → (Lit.int .i64 a1).wf = true → l2.length ≤ maxLen → l2.length * 1 ≤ 140737488351232 → (∀ x ∈ l2, (Lit.int .u8 x).wf = true) → (Lit.int .i64 a3).wf = true → ∃ k, law08_RleBytes.f k l0 a1 l2 a3 = some true
theorem law08_RleBytes.walk (P : law08_RleBytes.Pure) (A0 : Option Addr) (c0 : Nat) (l0 : List (S32)) (a1 : Int) (a2 : Option Addr) (len2 cap2 : Nat) (z2 : List Int) (a3 : Int) (w : World) (w0 : l0.length ≤ c0 ∧ Kd.C k32 w A0 l0.length l0 ∧ Hand.WfRow 32 wfS32 l0) (w1 : (Lit.int .i64 a1).wf = true) (w2 : (a2 = none ∧ len2 = 0 ∧ cap2 = 0 ∧ z2 = []) ∨ ∃ x, a2 = some x ∧ len2 ≤ cap2 ∧ cap2 ≤ maxLen ∧ z2.length = cap2 ∧ (∀ i, i < z2.length → w.cell? (x.add i) = some (.int .u8 (z2.getD i 0))) ∧ ∀ n ∈ z2, (Lit.int .u8 n).wf = true) (y2 : len2 * 1 ≤ 140737488351232) (w3 : (Lit.int .i64 a3).wf = true) :
 Calls Try.prog 12 #[.slice A0 l0.length c0, .int .i64 a1, .slice a2 len2 cap2, .int .i64 a3] w fun e w' => e = .returned (.bool true) ∧ Below w.heap.size w w' := by
 obtain ⟨hc0, hr0, hw0⟩ := w0
 obtain ⟨l2, rfl, hr2, hm2, hw2, hc2⟩ := ReadsInt.ofRowC w2
 obtain ⟨k, h⟩ := P l0 a1 l2 a3 hw0 w1 hm2 y2 hw2 w3
 refine (law08_RleBytes.calls k _ _ l0 a1 _ _ l2 a3 true w hr0 hc0 (Kd.C_of_reads (d := (0 : Int)) (h1 := fun _ => rfl) hr2) hc2 ⟨rfl⟩ h).mono ?_
 rintro e w' ⟨rfl, hd⟩
 exact ⟨rfl, hd⟩
end Go.Proofs.Ytjchjdbfmiibhaa.PRlz
