import Derived.Test.YtjchjdbfmiibhaaPRlzx0
import Derived.Test.YtjchjdbfmiibhaaPRlzx8
namespace Go.Proofs.Ytjchjdbfmiibhaa.PRlz
open Go.RowKit Go.Proofs.YtjchjdbfmiibhaaW.PrintWords Go.Proofs.YtjchjdbfmiibhaaW.PrintLast Go.Proofs.YtjchjdbfmiibhaaW.PrintMore
attribute [local go_sem] max2_int min2_int max_two min_two max_three min_three max_four min_four
set_option linter.unusedVariables false
set_option linter.unusedSimpArgs false
theorem ref02_Get.q0_ {α : Type _} (l : List α) (i : Nat) (a : α) : l.toArray.setIfInBounds i a = (l.set i a).toArray := List.setIfInBounds_toArray ..
theorem ref02_Get.q1_ {α : Type _} (a b : α) (l : List α) : (a :: l).set 0 b = b :: l := rfl
theorem ref02_Get.q2_ {α : Type _} (a b : α) (l : List α) (n : Nat) : (a :: l).set (n + 1) b = a :: l.set n b := rfl
open ref02_Get (q0_ q1_ q2_)
mutual
def ref02_Get.j1 : Nat → List Int → Int → Option (Int × Int × Int)
 | 0, _, _ => none
 | k + 1, x0, x5 => if x5 = (x0.length : Int) then (some (0, 0, 3)) else (if x5 = 9 then (if 9 < (x0.length : Int) then (if (rd x0 9) > 1 then (ref02_Get.j2 k x0 x5 true) else (if x5 > 0 then (if 0 ≤ x5 then (if x5 < (x0.length : Int) then (ref02_Get.j2 k x0 x5 ((rd x0 x5) == 0)) else (none)) else (none)) else (ref02_Get.j2 k x0 x5 false))) else (none)) else (if x5 > 0 then (if 0 ≤ x5 then (if x5 < (x0.length : Int) then (ref02_Get.j2 k x0 x5 ((rd x0 x5) == 0)) else (none)) else (none)) else (ref02_Get.j2 k x0 x5 false)))
def ref02_Get.j2 : Nat → List Int → Int → Bool → Option (Int × Int × Int)
 | 0, _, _, _ => none
 | k + 1, x0, x5, x59 => if x59 = true then (some (0, 0, 4)) else (ref02_Get.l1 k x0 x5 0 x5)
def ref02_Get.l1 : Nat → List Int → Int → Int → Int → Option (Int × Int × Int)
 | 0, _, _, _, _ => none
 | k + 1, x0, x5, x6, x7 => if x7 ≥ 0 then (if 0 ≤ x7 then (if x7 < (x0.length : Int) then (ref02_Get.l1 k x0 x5 (IntKind.u64.wrap ((IntKind.u64.wrap (x6 * 128)) + (IntKind.u64.wrap (Int.tmod (rd x0 x7) 128)))) (wrap64 (x7 - 1))) else (none)) else (none)) else (some (x6, wrap64 (x5 + 1), 0))
def ref02_Get.l0 : Nat → List Int → Int → Option (Int × Int × Int)
 | 0, _, _ => none
 | k + 1, x0, x5 => if x5 < (x0.length : Int) then (if x5 < 9 then (if 0 ≤ x5 then (if (rd x0 x5) ≥ 128 then (if x5 > 0 then (if ((rd x0 x5) = 0) then (ref02_Get.j1 k x0 x5) else (ref02_Get.l0 k x0 (wrap64 (x5 + 1)))) else (ref02_Get.l0 k x0 (wrap64 (x5 + 1)))) else (ref02_Get.j1 k x0 x5)) else (none)) else (ref02_Get.j1 k x0 x5)) else (ref02_Get.j1 k x0 x5)
end
def ref02_Get.f (k : Nat) (l0 : List Int) : Option (Int × Int × Int) := ref02_Get.l0 k l0 0
theorem ref02_Get.mono_l : ∀ k, (∀ y0 y1, LeO (ref02_Get.j1 k y0 y1) (ref02_Get.j1 (k + 1) y0 y1)) ∧ (∀ y0 y1 y2, LeO (ref02_Get.j2 k y0 y1 y2) (ref02_Get.j2 (k + 1) y0 y1 y2)) ∧ (∀ y0 y1 y2 y3, LeO (ref02_Get.l1 k y0 y1 y2 y3) (ref02_Get.l1 (k + 1) y0 y1 y2 y3)) ∧ (∀ y0 y1, LeO (ref02_Get.l0 k y0 y1) (ref02_Get.l0 (k + 1) y0 y1))
 | 0 => ⟨fun _ _ r h => by simp [ref02_Get.j1] at h, fun _ _ _ r h => by simp [ref02_Get.j2] at h, fun _ _ _ _ r h => by simp [ref02_Get.l1] at h, fun _ _ r h => by simp [ref02_Get.l0] at h⟩
 | k + 1 => by
  obtain ⟨ih0, ih1, ih2, ih3⟩ := ref02_Get.mono_l k
  refine ⟨?_, ?_, ?_, ?_⟩
  ·
   intro y0 y1
   unfold ref02_Get.j1
   repeat' first
   | (with_reducible exact ih0 _ _)
   | (with_reducible exact ih1 _ _ _)
   | (with_reducible exact ih2 _ _ _ _)
   | (with_reducible exact ih3 _ _)
   | (with_reducible exact LeO.refl _)
   | (with_reducible exact LeO.none _)
   | (with_reducible refine LeO.ite ?_ ?_)
   | (with_reducible refine LeO.bind ?_ (fun _ => ?_))
   | exact ih0 _ _
   | exact ih1 _ _ _
   | exact ih2 _ _ _ _
   | exact ih3 _ _
   | exact LeO.none _
   | refine LeO.ite ?_ ?_
   | refine LeO.bind ?_ (fun _ => ?_)
  ·
   intro y0 y1 y2
   unfold ref02_Get.j2
   repeat' first
   | (with_reducible exact ih0 _ _)
   | (with_reducible exact ih1 _ _ _)
   | (with_reducible exact ih2 _ _ _ _)
   | (with_reducible exact ih3 _ _)
   | (with_reducible exact LeO.refl _)
   | (with_reducible exact LeO.none _)
   | (with_reducible refine LeO.ite ?_ ?_)
   | (with_reducible refine LeO.bind ?_ (fun _ => ?_))
   | exact ih0 _ _
   | exact ih1 _ _ _
   | exact ih2 _ _ _ _
   | exact ih3 _ _
   | exact LeO.none _
   | refine LeO.ite ?_ ?_
   | refine LeO.bind ?_ (fun _ => ?_)
  ·
   intro y0 y1 y2 y3
   unfold ref02_Get.l1
   repeat' first
   | (with_reducible exact ih0 _ _)
   | (with_reducible exact ih1 _ _ _)
   | (with_reducible exact ih2 _ _ _ _)
   | (with_reducible exact ih3 _ _)
   | (with_reducible exact LeO.refl _)
   | (with_reducible exact LeO.none _)
   | (with_reducible refine LeO.ite ?_ ?_)
   | (with_reducible refine LeO.bind ?_ (fun _ => ?_))
   | exact ih0 _ _
   | exact ih1 _ _ _
   | exact ih2 _ _ _ _
   | exact ih3 _ _
   | exact LeO.none _
   | refine LeO.ite ?_ ?_
   | refine LeO.bind ?_ (fun _ => ?_)
  ·
   intro y0 y1
   unfold ref02_Get.l0
   repeat' first
   | (with_reducible exact ih0 _ _)
   | (with_reducible exact ih1 _ _ _)
   | (with_reducible exact ih2 _ _ _ _)
   | (with_reducible exact ih3 _ _)
   | (with_reducible exact LeO.refl _)
   | (with_reducible exact LeO.none _)
   | (with_reducible refine LeO.ite ?_ ?_)
   | (with_reducible refine LeO.bind ?_ (fun _ => ?_))
   | exact ih0 _ _
   | exact ih1 _ _ _
   | exact ih2 _ _ _ _
   | exact ih3 _ _
   | exact LeO.none _
   | refine LeO.ite ?_ ?_
   | refine LeO.bind ?_ (fun _ => ?_)
theorem ref02_Get.mono : ∀ a0 k, LeO (ref02_Get.f k a0) (ref02_Get.f (k + 1) a0) := by
 intro a0 k
 obtain ⟨ih0, ih1, ih2, ih3⟩ := ref02_Get.mono_l k
 unfold ref02_Get.f
 repeat' first
  | (with_reducible exact ih0 _ _)
  | (with_reducible exact ih1 _ _ _)
  | (with_reducible exact ih2 _ _ _ _)
  | (with_reducible exact ih3 _ _)
  | (with_reducible exact LeO.refl _)
  | (with_reducible exact LeO.none _)
  | (with_reducible refine LeO.ite ?_ ?_)
  | (with_reducible refine LeO.bind ?_ (fun _ => ?_))
  | exact ih0 _ _
  | exact ih1 _ _ _
  | exact ih2 _ _ _ _
  | exact ih3 _ _
  | exact LeO.none _
  | refine LeO.ite ?_ ?_
  | refine LeO.bind ?_ (fun _ => ?_)
set_option maxHeartbeats 8000000 in
set_option maxRecDepth 100000 in
theorem ref02_Get.calls (k : Nat) (A0 : Option Addr) (c0 : Nat) (l0 : List Int) (r1 : Int) (r2 : Int) (r3 : Int) (w : World) (hr0 : Kd.C (Kd.int .u8) w A0 l0.length l0) (hc0 : l0.length ≤ c0) (h : ref02_Get.f k l0 = some (r1, r2, r3)) :
 Calls Try.prog 53 #[.slice A0 l0.length c0] w fun e w' => e = .returned (.tuple #[.int .u64 r1, .int .i64 r2, .int .i64 r3]) ∧ Drawn0 w w' := by
 have HR0 := Aside0.mk hr0
 have HC0 := Aside0.mk hc0
 clear hr0 hc0
 have H : (ref02_Get.l0 k l0 0) = some (r1, r2, r3) := h
 clear h
 have HC2 := Aside0.mk H
 clear H
 go_enter Try.func53, Try.ntmps53
 go_upto_block 0 with (fail)
 go_cut [5] (fun v5 wc => ∃ (kq : Nat) (x5_1 : Int), v5 = .int .i64 x5_1 ∧ Aside0 (ref02_Get.j1 kq l0 x5_1 = some (r1, r2, r3)) ∧ Aside0 (kq ≤ k) ∧ Drawn0 w wc)
 case first =>
  have H := HC2.out
  clear HC2
  have H' := Aside0.mk H
  clear H
  go_wp2
  go_loopg [5] k (fun kq v5 w' => ∃ (x5_1 : Int), v5 = .int .i64 x5_1 ∧ Aside0 (ref02_Get.l0 kq l0 x5_1 = some (r1, r2, r3)) ∧ Aside0 (kq ≤ k) ∧ Drawn0 w w')
  case atStart => exact ⟨(0), (by first | rfl | (simp; done) | (simp [*]; done)), H', ⟨Nat.le_refl _⟩, by repeat (first | exact Drawn0.refl _ | apply Drawn0.step)⟩
  case round =>
   clear H'
   try clear p2
   obtain ⟨x5_1, rfl, HA, HK1, ⟨m1, rfl⟩⟩ := hrel
   cases gk with
   | zero => exact absurd HA.out (by simp [ref02_Get.l0])
   | succ k1 =>
    have H := HA.out
    clear HA
    simp only [ref02_Get.l0] at H
    by_cases c3 : x5_1 < (l0.length : Int)
    ·
     rw [if_pos c3] at H
     have c3b0 : decide (x5_1 < (l0.length : Int)) = true := decide_eq_true c3
     clear c3
     (first | rw [c3b0] | (simp only [i64_w, i32_w]; rw [c3b0]) | skip)
     by_cases c4 : x5_1 < 9
     ·
      rw [if_pos c4] at H
      have c4b0 : decide (x5_1 < 9) = true := decide_eq_true c4
      clear c4
      by_cases c5 : 0 ≤ x5_1
      ·
       rw [if_pos c5] at H
       have c5b0 : decide (0 ≤ x5_1) = true := decide_eq_true c5
       clear c5
       by_cases c6 : (rd l0 x5_1) ≥ 128
       ·
        rw [if_pos c6] at H
        have c6b0 : decide (128 ≤ (rd l0 x5_1)) = true := decide_eq_true c6
        clear c6
        by_cases c7 : x5_1 > 0
        ·
         rw [if_pos c7] at H
         have c7b0 : decide (0 < x5_1) = true := decide_eq_true c7
         clear c7
         by_cases c8 : ((rd l0 x5_1) = 0)
         ·
          rw [if_pos c8] at H
          have c8b0 : ((rd l0 x5_1) == 0) = true := beq_iff_eq.mpr c8
          have c8b1 : ((rd l0 x5_1) != 0) = false := bne_eq_false_iff_eq.mpr c8
          clear c8
          have H' := Aside0.mk H
          clear H
          have p332 : 0 ≤ (x5_1 : Int) := of_decide_eq_true (by first | (with_reducible assumption) | assumption)
          have q332 : x5_1 < (l0.length : Int) := of_decide_eq_true (by first | (with_reducible assumption) | assumption)
          obtain ⟨ad332, e332, hx332_0⟩ := Kd.at_int HR0.out x5_1 p332 q332
          cases e332
          replace p332 := eq_true p332
          replace q332 := eq_true q332
          have p333 : 0 ≤ (x5_1 : Int) := of_decide_eq_true (by first | (with_reducible assumption) | assumption)
          have q333 : x5_1 < (l0.length : Int) := of_decide_eq_true (by first | (with_reducible assumption) | assumption)
          obtain ⟨ad333, e333, hx333_0⟩ := Kd.at_int HR0.out x5_1 p333 q333
          obtain rfl : ad332 = ad333 := (by injection e333)
          replace p333 := eq_true p333
          replace q333 := eq_true q333
          go_wp2
          go_meet
          case rel => exact ⟨_, (x5_1), (by first | rfl | (simp; done) | (simp [*]; done)), H', ⟨by have := HK1.out; first | omega | exact Nat.le_refl _⟩, by repeat (first | exact Drawn0.refl _ | apply Drawn0.step)⟩
         ·
          rw [if_neg c8] at H
          have c8b0 : ((rd l0 x5_1) == 0) = false := beq_eq_false_iff_ne.mpr c8
          have c8b1 : ((rd l0 x5_1) != 0) = true := bne_iff_ne.mpr c8
          have H' := Aside0.mk H
          clear H
          have p332 : 0 ≤ (x5_1 : Int) := of_decide_eq_true (by first | (with_reducible assumption) | assumption)
          have q332 : x5_1 < (l0.length : Int) := of_decide_eq_true (by first | (with_reducible assumption) | assumption)
          obtain ⟨ad332, e332, hx332_0⟩ := Kd.at_int HR0.out x5_1 p332 q332
          cases e332
          replace p332 := eq_true p332
          replace q332 := eq_true q332
          have p333 : 0 ≤ (x5_1 : Int) := of_decide_eq_true (by first | (with_reducible assumption) | assumption)
          have q333 : x5_1 < (l0.length : Int) := of_decide_eq_true (by first | (with_reducible assumption) | assumption)
          obtain ⟨ad333, e333, hx333_0⟩ := Kd.at_int HR0.out x5_1 p333 q333
          obtain rfl : ad332 = ad333 := (by injection e333)
          replace p333 := eq_true p333
          replace q333 := eq_true q333
          go_wp2
          go_roundg k1
          case measure => have := HK1.out; omega
          case rel => exact ⟨(wrap64 (x5_1 + 1)), (by first | rfl | (simp; done) | (simp [*]; done)), H', ⟨by have := HK1.out; omega⟩, by repeat (first | exact Drawn0.refl _ | apply Drawn0.step)⟩
        ·
         rw [if_neg c7] at H
         have c7b0 : decide (0 < x5_1) = false := decide_eq_false c7
         clear c7
         have H' := Aside0.mk H
         clear H
         have p332 : 0 ≤ (x5_1 : Int) := of_decide_eq_true (by first | (with_reducible assumption) | assumption)
         have q332 : x5_1 < (l0.length : Int) := of_decide_eq_true (by first | (with_reducible assumption) | assumption)
         obtain ⟨ad332, e332, hx332_0⟩ := Kd.at_int HR0.out x5_1 p332 q332
         cases e332
         replace p332 := eq_true p332
         replace q332 := eq_true q332
         go_wp2
         go_roundg k1
         case measure => have := HK1.out; omega
         case rel => exact ⟨(wrap64 (x5_1 + 1)), (by first | rfl | (simp; done) | (simp [*]; done)), H', ⟨by have := HK1.out; omega⟩, by repeat (first | exact Drawn0.refl _ | apply Drawn0.step)⟩
       ·
        rw [if_neg c6] at H
        have c6b0 : decide (128 ≤ (rd l0 x5_1)) = false := decide_eq_false c6
        clear c6
        have H' := Aside0.mk H
        clear H
        have p332 : 0 ≤ (x5_1 : Int) := of_decide_eq_true (by first | (with_reducible assumption) | assumption)
        have q332 : x5_1 < (l0.length : Int) := of_decide_eq_true (by first | (with_reducible assumption) | assumption)
        obtain ⟨ad332, e332, hx332_0⟩ := Kd.at_int HR0.out x5_1 p332 q332
        cases e332
        replace p332 := eq_true p332
        replace q332 := eq_true q332
        go_wp2
        go_meet
        case rel => exact ⟨_, (x5_1), (by first | rfl | (simp; done) | (simp [*]; done)), H', ⟨by have := HK1.out; first | omega | exact Nat.le_refl _⟩, by repeat (first | exact Drawn0.refl _ | apply Drawn0.step)⟩
      ·
       rw [if_neg c5] at H
       exact absurd H (by simp)
     ·
      rw [if_neg c4] at H
      have c4b0 : decide (x5_1 < 9) = false := decide_eq_false c4
      clear c4
      have H' := Aside0.mk H
      clear H
      go_wp2
      go_meet
      case rel => exact ⟨_, (x5_1), (by first | rfl | (simp; done) | (simp [*]; done)), H', ⟨by have := HK1.out; first | omega | exact Nat.le_refl _⟩, by repeat (first | exact Drawn0.refl _ | apply Drawn0.step)⟩
    ·
     rw [if_neg c3] at H
     have c3b0 : decide (x5_1 < (l0.length : Int)) = false := decide_eq_false c3
     clear c3
     (first | rw [c3b0] | (simp only [i64_w, i32_w]; rw [c3b0]) | skip)
     have H' := Aside0.mk H
     clear H
     go_wp2
     go_meet
     case rel => exact ⟨_, (x5_1), (by first | rfl | (simp; done) | (simp [*]; done)), H', ⟨by have := HK1.out; first | omega | exact Nat.le_refl _⟩, by repeat (first | exact Drawn0.refl _ | apply Drawn0.step)⟩
 case rest =>
  clear HC2
  try clear p2
  try clear c3
  try clear c3b0
  try clear p3
  try clear q3
  try clear hx3
  try clear c4
  try clear c4b0
  try clear c5
  try clear c5b0
  try clear c6
  try clear c6b0
  try clear p6
  try clear c7
  try clear c7b0
  try clear c8
  try clear c8b0
  try clear c8b1
  try clear hx332_0
  try clear hx333_0
  try clear p2
  try clear p332
  try clear p333
  try clear q332
  try clear q333
  obtain ⟨kq, x5_1, rfl, HA, HJ1, ⟨mc1, rfl⟩⟩ := hcut
  cases kq with
  | zero => exact absurd HA.out (by simp [ref02_Get.j1])
  | succ kj1 =>
   have H := HA.out
   clear HA
   simp only [ref02_Get.j1] at H
   by_cases c9 : x5_1 = (l0.length : Int)
   ·
    rw [if_pos c9] at H
    have c9b0 : (x5_1 == (l0.length : Int)) = true := beq_iff_eq.mpr c9
    have c9b1 : (x5_1 != (l0.length : Int)) = false := bne_eq_false_iff_eq.mpr c9
    clear c9
    simp only [Option.some.injEq, Prod.mk.injEq] at H
    obtain ⟨rfl, rfl, rfl⟩ := H
    go_wp2
    go_ret3
    exact ⟨by first | rfl | (simp; done) | (simp [*]; done), by repeat (first | exact Drawn0.refl _ | apply Drawn0.step)⟩
   ·
    rw [if_neg c9] at H
    have c9b0 : (x5_1 == (l0.length : Int)) = false := beq_eq_false_iff_ne.mpr c9
    have c9b1 : (x5_1 != (l0.length : Int)) = true := bne_iff_ne.mpr c9
    have HC10 := Aside0.mk H
    clear H
    go_upto_region 6 with (fail)
    go_cut [59] (fun v59 wc => ∃ (kq : Nat) (x59_9 : Bool), v59 = .bool x59_9 ∧ Aside0 (ref02_Get.j2 kq l0 x5_1 x59_9 = some (r1, r2, r3)) ∧ Aside0 (kq ≤ kj1) ∧ Drawn0 w wc)
    case first =>
     have H := HC10.out
     clear HC10
     by_cases c11 : x5_1 = 9
     ·
      rw [if_pos c11] at H
      have c11b0 : (x5_1 == 9) = true := beq_iff_eq.mpr c11
      have c11b1 : (x5_1 != 9) = false := bne_eq_false_iff_eq.mpr c11
      clear c11
      (first | rw [c11b0] | (simp only [i64_w, i32_w]; rw [c11b0]) | skip)
      by_cases c12 : 9 < (l0.length : Int)
      ·
       rw [if_pos c12] at H
       have c12b0 : decide (9 < (l0.length : Int)) = true := decide_eq_true c12
       have c12b1 : decide (9 < l0.length) = true := decide_eq_true (by omega)
       clear c12
       by_cases c13 : (rd l0 9) > 1
       ·
        rw [if_pos c13] at H
        have c13b0 : decide (1 < (rd l0 9)) = true := decide_eq_true c13
        clear c13
        have H' := Aside0.mk H
        clear H
        have p334 : 0 ≤ (9 : Int) := (by omega)
        have q334 : 9 < (l0.length : Int) := of_decide_eq_true (by first | (with_reducible assumption) | assumption)
        obtain ⟨ad334, e334, hx334_0⟩ := Kd.at_int HR0.out 9 p334 q334
        cases e334
        (try simp only [show (9 : Int).toNat = 9 from rfl, Nat.reduceMul, Nat.reduceEqDiff, Go.Addr.add, ↓reduceIte] at hx334_0)
        have qi334 : (9 < l0.length) = True := eq_true (by omega)
        (try rw [show ((9 : Int)).toNat = 9 from rfl] at hx334_0)
        replace p334 := eq_true p334
        replace q334 := eq_true q334
        go_wp2
        go_meet
        case rel => exact ⟨_, (true), (by first | rfl | (simp; done) | (simp [*]; done)), H', ⟨by have := HJ1.out; first | omega | exact Nat.le_refl _⟩, by repeat (first | exact Drawn0.refl _ | apply Drawn0.step)⟩
       ·
        rw [if_neg c13] at H
        have c13b0 : decide (1 < (rd l0 9)) = false := decide_eq_false c13
        clear c13
        by_cases c14 : x5_1 > 0
        ·
         rw [if_pos c14] at H
         have c14b0 : decide (0 < x5_1) = true := decide_eq_true c14
         clear c14
         by_cases c15 : 0 ≤ x5_1
         ·
          rw [if_pos c15] at H
          have c15b0 : decide (0 ≤ x5_1) = true := decide_eq_true c15
          clear c15
          by_cases c16 : x5_1 < (l0.length : Int)
          ·
           rw [if_pos c16] at H
           have c16b0 : decide (x5_1 < (l0.length : Int)) = true := decide_eq_true c16
           clear c16
           have H' := Aside0.mk H
           clear H
           have p334 : 0 ≤ (9 : Int) := (by omega)
           have q334 : 9 < (l0.length : Int) := of_decide_eq_true (by first | (with_reducible assumption) | assumption)
           obtain ⟨ad334, e334, hx334_0⟩ := Kd.at_int HR0.out 9 p334 q334
           cases e334
           (try simp only [show (9 : Int).toNat = 9 from rfl, Nat.reduceMul, Nat.reduceEqDiff, Go.Addr.add, ↓reduceIte] at hx334_0)
           have qi334 : (9 < l0.length) = True := eq_true (by omega)
           (try rw [show ((9 : Int)).toNat = 9 from rfl] at hx334_0)
           replace p334 := eq_true p334
           replace q334 := eq_true q334
           have p335 : 0 ≤ (x5_1 : Int) := of_decide_eq_true (by first | (with_reducible assumption) | assumption)
           have q335 : x5_1 < (l0.length : Int) := of_decide_eq_true (by first | (with_reducible assumption) | assumption)
           obtain ⟨ad335, e335, hx335_0⟩ := Kd.at_int HR0.out x5_1 p335 q335
           obtain rfl : ad334 = ad335 := (by injection e335)
           replace p335 := eq_true p335
           replace q335 := eq_true q335
           go_wp2
           go_meet
           case rel => exact ⟨_, (((rd l0 x5_1) == 0)), (by first | rfl | (simp; done) | (simp [*]; done)), H', ⟨by have := HJ1.out; first | omega | exact Nat.le_refl _⟩, by repeat (first | exact Drawn0.refl _ | apply Drawn0.step)⟩
          ·
           rw [if_neg c16] at H
           exact absurd H (by simp)
         ·
          rw [if_neg c15] at H
          exact absurd H (by simp)
        ·
         rw [if_neg c14] at H
         have c14b0 : decide (0 < x5_1) = false := decide_eq_false c14
         clear c14
         have H' := Aside0.mk H
         clear H
         have p334 : 0 ≤ (9 : Int) := (by omega)
         have q334 : 9 < (l0.length : Int) := of_decide_eq_true (by first | (with_reducible assumption) | assumption)
         obtain ⟨ad334, e334, hx334_0⟩ := Kd.at_int HR0.out 9 p334 q334
         cases e334
         (try simp only [show (9 : Int).toNat = 9 from rfl, Nat.reduceMul, Nat.reduceEqDiff, Go.Addr.add, ↓reduceIte] at hx334_0)
         have qi334 : (9 < l0.length) = True := eq_true (by omega)
         (try rw [show ((9 : Int)).toNat = 9 from rfl] at hx334_0)
         replace p334 := eq_true p334
         replace q334 := eq_true q334
         go_wp2
         go_meet
         case rel => exact ⟨_, (false), (by first | rfl | (simp; done) | (simp [*]; done)), H', ⟨by have := HJ1.out; first | omega | exact Nat.le_refl _⟩, by repeat (first | exact Drawn0.refl _ | apply Drawn0.step)⟩
      ·
       rw [if_neg c12] at H
       exact absurd H (by simp)
     ·
      rw [if_neg c11] at H
      have c11b0 : (x5_1 == 9) = false := beq_eq_false_iff_ne.mpr c11
      have c11b1 : (x5_1 != 9) = true := bne_iff_ne.mpr c11
      (first | rw [c11b0] | (simp only [i64_w, i32_w]; rw [c11b0]) | skip)
      by_cases c17 : x5_1 > 0
      ·
       rw [if_pos c17] at H
       have c17b0 : decide (0 < x5_1) = true := decide_eq_true c17
       clear c17
       by_cases c18 : 0 ≤ x5_1
       ·
        rw [if_pos c18] at H
        have c18b0 : decide (0 ≤ x5_1) = true := decide_eq_true c18
        clear c18
        by_cases c19 : x5_1 < (l0.length : Int)
        ·
         rw [if_pos c19] at H
         have c19b0 : decide (x5_1 < (l0.length : Int)) = true := decide_eq_true c19
         clear c19
         have H' := Aside0.mk H
         clear H
         have p336 : 0 ≤ (x5_1 : Int) := of_decide_eq_true (by first | (with_reducible assumption) | assumption)
         have q336 : x5_1 < (l0.length : Int) := of_decide_eq_true (by first | (with_reducible assumption) | assumption)
         obtain ⟨ad336, e336, hx336_0⟩ := Kd.at_int HR0.out x5_1 p336 q336
         cases e336
         replace p336 := eq_true p336
         replace q336 := eq_true q336
         go_wp2
         go_meet
         case rel => exact ⟨_, (((rd l0 x5_1) == 0)), (by first | rfl | (simp; done) | (simp [*]; done)), H', ⟨by have := HJ1.out; first | omega | exact Nat.le_refl _⟩, by repeat (first | exact Drawn0.refl _ | apply Drawn0.step)⟩
        ·
         rw [if_neg c19] at H
         exact absurd H (by simp)
       ·
        rw [if_neg c18] at H
        exact absurd H (by simp)
      ·
       rw [if_neg c17] at H
       have c17b0 : decide (0 < x5_1) = false := decide_eq_false c17
       clear c17
       have H' := Aside0.mk H
       clear H
       go_wp2
       go_meet
       case rel => exact ⟨_, (false), (by first | rfl | (simp; done) | (simp [*]; done)), H', ⟨by have := HJ1.out; first | omega | exact Nat.le_refl _⟩, by repeat (first | exact Drawn0.refl _ | apply Drawn0.step)⟩
    case rest =>
     clear HC10
     try clear c1
     try clear p2
     try clear c3
     try clear c3b0
     try clear p3
     try clear q3
     try clear hx3
     try clear qi3
     try clear c4
     try clear c4b0
     try clear c5
     try clear c5b0
     try clear c6
     try clear c6b0
     try clear p6
     try clear c7
     try clear c7b0
     try clear c8
     try clear c8b0
     try clear c8b1
     try clear c9
     try clear c9b0
     try clear c9b1
     try clear c11
     try clear c11b0
     try clear c11b1
     try clear c12
     try clear c12b0
     try clear c12b1
     try clear c13
     try clear c13b0
     try clear c14
     try clear c14b0
     try clear c15
     try clear c15b0
     try clear c16
     try clear c16b0
     try clear c17
     try clear c17b0
     try clear c18
     try clear c18b0
     try clear c19
     try clear c19b0
     try clear hx332_0
     try clear hx333_0
     try clear hx334_0
     try clear hx335_0
     try clear hx336_0
     try clear p2
     try clear p3
     try clear p332
     try clear p333
     try clear p334
     try clear p335
     try clear p336
     try clear p6
     try clear q3
     try clear q332
     try clear q333
     try clear q334
     try clear q335
     try clear q336
     obtain ⟨kq, x59_9, rfl, HA, HJ9, ⟨mc9, rfl⟩⟩ := hcut
     cases kq with
     | zero => exact absurd HA.out (by simp [ref02_Get.j2])
     | succ kj9 =>
      have H := HA.out
      clear HA
      simp only [ref02_Get.j2] at H
      by_cases c20 : x59_9 = true
      ·
       subst c20
       have H1 : (some (0, 0, 4)) = some (r1, r2, r3) := by rw [if_pos rfl] at H; exact H
       clear H
       have H := H1
       clear H1
       simp only [Option.some.injEq, Prod.mk.injEq] at H
       obtain ⟨rfl, rfl, rfl⟩ := H
       go_wp2
       go_ret3
       exact ⟨by first | rfl | (simp; done) | (simp [*]; done), by repeat (first | exact Drawn0.refl _ | apply Drawn0.step)⟩
      ·
       replace c20 := Bool.eq_false_iff.mpr c20
       subst c20
       have H1 : (ref02_Get.l1 kj9 l0 x5_1 0 x5_1) = some (r1, r2, r3) := by rw [if_neg (show ¬ (false = true) by decide)] at H; exact H
       clear H
       have H := H1
       clear H1
       have H' := Aside0.mk H
       clear H
       go_wp2
       go_loopg [6, 7] kj9 (fun kq v6 v7 w' => ∃ (x6_3 : Int) (x7_3 : Int), v6 = .int .u64 x6_3 ∧ v7 = .int .i64 x7_3 ∧ Aside0 (ref02_Get.l1 kq l0 x5_1 x6_3 x7_3 = some (r1, r2, r3)) ∧ Aside0 (kq ≤ kj9) ∧ Drawn0 w w')
       case atStart => exact ⟨(0), (x5_1), (by first | rfl | (simp; done) | (simp [*]; done)), (by first | rfl | (simp; done) | (simp [*]; done)), H', ⟨Nat.le_refl _⟩, by repeat (first | exact Drawn0.refl _ | apply Drawn0.step)⟩
       case round =>
        clear H'
        try clear c1
        try clear c2
        try clear p2
        try clear c3
        try clear c3b0
        try clear p3
        try clear q3
        try clear hx3
        try clear qi3
        try clear c4
        try clear c4b0
        try clear c5
        try clear c5b0
        try clear c6
        try clear c6b0
        try clear p6
        try clear c7
        try clear c7b0
        try clear c8
        try clear c8b0
        try clear c8b1
        try clear c9
        try clear c9b0
        try clear c9b1
        try clear c11
        try clear c11b0
        try clear c11b1
        try clear c12
        try clear c12b0
        try clear c12b1
        try clear c13
        try clear c13b0
        try clear c14
        try clear c14b0
        try clear c15
        try clear c15b0
        try clear c16
        try clear c16b0
        try clear c17
        try clear c17b0
        try clear c18
        try clear c18b0
        try clear c19
        try clear c19b0
        try clear c20
        try clear hx332_0
        try clear hx333_0
        try clear hx334_0
        try clear hx335_0
        try clear hx336_0
        try clear p2
        try clear p3
        try clear p332
        try clear p333
        try clear p334
        try clear p335
        try clear p336
        try clear p6
        try clear q3
        try clear q332
        try clear q333
        try clear q334
        try clear q335
        try clear q336
        obtain ⟨x6_3, x7_3, rfl, rfl, HA, HK3, ⟨m3, rfl⟩⟩ := hrel
        cases gk with
        | zero => exact absurd HA.out (by simp [ref02_Get.l1])
        | succ k3 =>
         have H := HA.out
         clear HA
         simp only [ref02_Get.l1] at H
         by_cases c21 : x7_3 ≥ 0
         ·
          rw [if_pos c21] at H
          have c21b0 : decide (0 ≤ x7_3) = true := decide_eq_true c21
          clear c21
          by_cases c22 : 0 ≤ x7_3
          ·
           rw [if_pos c22] at H
           have c22b0 : decide (0 ≤ x7_3) = true := decide_eq_true c22
           clear c22
           by_cases c23 : x7_3 < (l0.length : Int)
           ·
            rw [if_pos c23] at H
            have c23b0 : decide (x7_3 < (l0.length : Int)) = true := decide_eq_true c23
            clear c23
            have H' := Aside0.mk H
            clear H
            have p337 : 0 ≤ (x7_3 : Int) := of_decide_eq_true (by first | (with_reducible assumption) | assumption)
            have q337 : x7_3 < (l0.length : Int) := of_decide_eq_true (by first | (with_reducible assumption) | assumption)
            obtain ⟨ad337, e337, hx337_0⟩ := Kd.at_int HR0.out x7_3 p337 q337
            cases e337
            replace p337 := eq_true p337
            replace q337 := eq_true q337
            go_wp2
            go_roundg k3
            case measure => have := HJ1.out; have := HJ9.out; have := HK3.out; omega
            case rel => exact ⟨(IntKind.u64.wrap ((IntKind.u64.wrap (x6_3 * 128)) + (IntKind.u64.wrap (Int.tmod (rd l0 x7_3) 128)))), (wrap64 (x7_3 - 1)), (by first | rfl | (simp; done) | (simp [*]; done)), (by first | rfl | (simp; done) | (simp [*]; done)), H', ⟨by have := HJ1.out; have := HJ9.out; have := HK3.out; omega⟩, by repeat (first | exact Drawn0.refl _ | apply Drawn0.step)⟩
           ·
            rw [if_neg c23] at H
            exact absurd H (by simp)
          ·
           rw [if_neg c22] at H
           exact absurd H (by simp)
         ·
          rw [if_neg c21] at H
          have c21b0 : decide (0 ≤ x7_3) = false := decide_eq_false c21
          clear c21
          simp only [Option.some.injEq, Prod.mk.injEq] at H
          obtain ⟨rfl, rfl, rfl⟩ := H
          go_wp2
          go_ret3
          exact ⟨by first | rfl | (simp; done) | (simp [*]; done), by repeat (first | exact Drawn0.refl _ | apply Drawn0.step)⟩
def ref02_Zag.f (a0 : Int) : Option (Int) := if (Int.tmod a0 2) = 1 then (some (wrap64 ((wrap64 (-(wrap64 (IntKind.u64.wrap (Int.tdiv a0 2))))) - 1))) else (some (wrap64 (IntKind.u64.wrap (Int.tdiv a0 2))))
set_option maxHeartbeats 8000000 in
set_option maxRecDepth 100000 in
theorem ref02_Zag.calls (a0 : Int) (r : Int) (w : World) (h : ref02_Zag.f a0 = some r) :
    Calls Try.prog 69 #[.int .u64 a0] w fun e w' => e = .returned (.int .i64 r) ∧ Drawn0 w w' := by
  have H : (if (Int.tmod a0 2) = 1 then (some (wrap64 ((wrap64 (-(wrap64 (IntKind.u64.wrap (Int.tdiv a0 2))))) - 1))) else (some (wrap64 (IntKind.u64.wrap (Int.tdiv a0 2))))) = some r := h
  clear h
  by_cases c2 : (Int.tmod a0 2) = 1
  · rw [if_pos c2] at H
    have c2b0 : ((Int.tmod a0 2) == 1) = true := beq_iff_eq.mpr c2
    have c2b1 : ((Int.tmod a0 2) != 1) = false := bne_eq_false_iff_eq.mpr c2
    clear c2
    obtain rfl := Option.some.inj H
    go_enter Try.func69, Try.ntmps69
    go_wp2
    go_ret
    exact ⟨by first | rfl | (simp; done) | (simp [*]; done), by repeat (first | exact Drawn0.refl _ | apply Drawn0.step)⟩
  · rw [if_neg c2] at H
    have c2b0 : ((Int.tmod a0 2) == 1) = false := beq_eq_false_iff_ne.mpr c2
    have c2b1 : ((Int.tmod a0 2) != 1) = true := bne_iff_ne.mpr c2
    obtain rfl := Option.some.inj H
    go_enter Try.func69, Try.ntmps69
    go_wp2
    go_ret
    exact ⟨by first | rfl | (simp; done) | (simp [*]; done), by repeat (first | exact Drawn0.refl _ | apply Drawn0.step)⟩
def ref04_Bits.f (a0 : Int) : Option (Int) := if a0 ≥ 9223372036854775808 then ((ref04_Clean.f (IntKind.u64.wrap (a0 - 9223372036854775808))).bind fun t338 => (some t338)) else ((ref04_Clean.f (IntKind.u64.wrap (18446744073709551615 - a0))).bind fun t339 => (some t339))
set_option maxHeartbeats 8000000 in
set_option maxRecDepth 100000 in
theorem ref04_Bits.calls (a0 : Int) (r : Int) (w : World) (h : ref04_Bits.f a0 = some r) :
    Calls Try.prog 70 #[.int .u64 a0] w fun e w' => e = .returned (.int .u64 r) ∧ Drawn0 w w' := by
  have H : (if a0 ≥ 9223372036854775808 then ((ref04_Clean.f (IntKind.u64.wrap (a0 - 9223372036854775808))).bind fun t338 => (some t338)) else ((ref04_Clean.f (IntKind.u64.wrap (18446744073709551615 - a0))).bind fun t339 => (some t339))) = some r := h
  clear h
  by_cases c2 : a0 ≥ 9223372036854775808
  · rw [if_pos c2] at H
    have c2b0 : decide (9223372036854775808 ≤ a0) = true := decide_eq_true c2
    clear c2
    replace H := Option.bind_eq_some_iff.mp H
    obtain ⟨t338, A30, H⟩ := H
    replace H : (some t338) = some r := H
    have A3 := Aside0.mk A30
    clear A30
    obtain rfl := Option.some.inj H
    go_enter Try.func70, Try.ntmps70
    go_wp2_with (first | ((with_reducible refine gate_callee (f := 67) rfl ?_); refine goesL_ (some 7) rfl rfl Try.func67 (by kernel_rfl) rfl #[.int .u64 (IntKind.u64.wrap (a0 - 9223372036854775808))] rfl (by (try simp only [List.map_toArray, List.map_cons, List.map_nil]); first | done | rfl | (simp only [List.length_drop, List.length_take]; rfl)) ?_; (with_reducible refine (ref04_Clean.calls (IntKind.u64.wrap (a0 - 9223372036854775808)) t338 _ A3.out).mono ?_); rintro e w' ⟨rfl, ⟨nd, rfl⟩⟩; refine ⟨_, rfl, ?_⟩))
    go_ret
    exact ⟨by first | rfl | (simp; done) | (simp [*]; done), by repeat (first | exact Drawn0.refl _ | apply Drawn0.step)⟩
  · rw [if_neg c2] at H
    have c2b0 : decide (9223372036854775808 ≤ a0) = false := decide_eq_false c2
    clear c2
    replace H := Option.bind_eq_some_iff.mp H
    obtain ⟨t339, A40, H⟩ := H
    replace H : (some t339) = some r := H
    have A4 := Aside0.mk A40
    clear A40
    obtain rfl := Option.some.inj H
    go_enter Try.func70, Try.ntmps70
    go_wp2_with (first | ((with_reducible refine gate_callee (f := 67) rfl ?_); refine goesL_ (some 10) rfl rfl Try.func67 (by kernel_rfl) rfl #[.int .u64 (IntKind.u64.wrap (18446744073709551615 - a0))] rfl (by (try simp only [List.map_toArray, List.map_cons, List.map_nil]); first | done | rfl | (simp only [List.length_drop, List.length_take]; rfl)) ?_; (with_reducible refine (ref04_Clean.calls (IntKind.u64.wrap (18446744073709551615 - a0)) t339 _ A4.out).mono ?_); rintro e w' ⟨rfl, ⟨nd, rfl⟩⟩; refine ⟨_, rfl, ?_⟩))
    go_ret
    exact ⟨by first | rfl | (simp; done) | (simp [*]; done), by repeat (first | exact Drawn0.refl _ | apply Drawn0.step)⟩
end Go.Proofs.Ytjchjdbfmiibhaa.PRlz
