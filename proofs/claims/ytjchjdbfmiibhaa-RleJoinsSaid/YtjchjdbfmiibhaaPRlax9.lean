-- Written by this session's program wip/gprint/gprint.py, over the kit's print, with given functions; no text of print.sh's.
import Derived.Test.YtjchjdbfmiibhaaPRlax0
import Derived.Test.YtjchjdbfmiibhaaPRlax1
import Derived.Test.YtjchjdbfmiibhaaPRlax2
import Derived.Test.YtjchjdbfmiibhaaPRlax7
import Derived.Test.YtjchjdbfmiibhaaPRlax8
namespace Go.Proofs.Ytjchjdbfmiibhaa.PRla
open Go.RowKit Go.Proofs.YtjchjdbfmiibhaaW.PrintWords Go.Proofs.YtjchjdbfmiibhaaW.PrintLast Go.Proofs.YtjchjdbfmiibhaaW.PrintMore
attribute [local go_sem] max2_int min2_int max_two min_two max_three min_three max_four min_four   -- for this text's walks alone
set_option linter.unusedVariables false
set_option linter.unusedSimpArgs false

attribute [local go_sem high] eqA32
/-! ### law08_RleJoins: function 9 -/
mutual
def law08_RleJoins.j0 : Nat → List (S32) → List (S32) → Bool → Bool → Option (Bool)
  | 0, _, _, _, _ => none
  | k + 1, x0, x1, x5, x18 => if x18 = true then (some x5) else ((rle_Runs.f k x0).bind fun t180 => ((rle_Runs.f k x1).bind fun t183 => ((some (([] : List (S32)) : List (S32))).bind fun y186 => (if y186.length + x0.length < 4398046511104 then ((some (y186 ++ x0 : List (S32))).bind fun y189 => (if y189.length + x1.length < 4398046511104 then ((rle_Runs.f k (y189 ++ x1)).bind fun t195 => (if (x0.length : Int) > 0 then (if (x1.length : Int) > 0 then (if 0 ≤ (wrap64 ((x0.length : Int) - 1)) then (if (wrap64 ((x0.length : Int) - 1)) < (x0.length : Int) then (if 0 < (x1.length : Int) then (law08_RleJoins.j1 k x0 x5 t180 t195 (wrap64 ((t180.length : Int) + (t183.length : Int))) (((rd_T32 x0 (wrap64 ((x0.length : Int) - 1))).f0) == ((rd_T32 x1 0).f0) && (((rd_T32 x0 (wrap64 ((x0.length : Int) - 1))).f1) == ((rd_T32 x1 0).f1) && ((((rd_T32 x0 (wrap64 ((x0.length : Int) - 1))).f2).toList) == (((rd_T32 x1 0).f2).toList))))) else (none)) else (none)) else (none)) else (law08_RleJoins.j1 k x0 x5 t180 t195 (wrap64 ((t180.length : Int) + (t183.length : Int))) false)) else (law08_RleJoins.j1 k x0 x5 t180 t195 (wrap64 ((t180.length : Int) + (t183.length : Int))) false))) else (none))) else (none)))))
def law08_RleJoins.j1 : Nat → List (S32) → Bool → List (S49) → List (S49) → Int → Bool → Option (Bool)
  | 0, _, _, _, _, _, _ => none
  | k + 1, x0, x5, x6, x8, x9, x54 => if x54 = true then (if (x8.length : Int) = (wrap64 (x9 - 1)) then (if (x6.length : Int) > (x0.length : Int) then (some false) else (if x5 = true then (if (x6.length : Int) = 0 then (some true) else (if 0 < (x8.length : Int) then (if 0 < (x6.length : Int) then (if (((rd_T49 x8 0).f1.f0) == ((rd_T49 x6 0).f1.f0) && (((rd_T49 x8 0).f1.f1) == ((rd_T49 x6 0).f1.f1) && ((((rd_T49 x8 0).f1.f2).toList) == (((rd_T49 x6 0).f1.f2).toList)))) = true then (some (decide (((rd_T49 x8 0).f0) ≥ ((rd_T49 x6 0).f0)))) else (some false)) else (none)) else (none))) else (some false))) else (some false)) else (if (x8.length : Int) = x9 then (if (x6.length : Int) > (x0.length : Int) then (some false) else (if x5 = true then (if (x6.length : Int) = 0 then (some true) else (if 0 < (x8.length : Int) then (if 0 < (x6.length : Int) then (if (((rd_T49 x8 0).f1.f0) == ((rd_T49 x6 0).f1.f0) && (((rd_T49 x8 0).f1.f1) == ((rd_T49 x6 0).f1.f1) && ((((rd_T49 x8 0).f1.f2).toList) == (((rd_T49 x6 0).f1.f2).toList)))) = true then (some (decide (((rd_T49 x8 0).f0) ≥ ((rd_T49 x6 0).f0)))) else (some false)) else (none)) else (none))) else (some false))) else (some false))
end
def law08_RleJoins.f (k : Nat) (l0 : List (S32)) (l1 : List (S32)) : Option (Bool) := (law08_shown.f).bind fun t177 => ((law08_few.f k l0).bind fun t178 => (if t178 = true then ((law08_few.f k l1).bind fun t179 => (law08_RleJoins.j0 k l0 l1 t177 (!t179))) else (law08_RleJoins.j0 k l0 l1 t177 true)))
theorem law08_RleJoins.mono_l : ∀ k, (∀ y0 y1 y2 y3, LeO (law08_RleJoins.j0 k y0 y1 y2 y3) (law08_RleJoins.j0 (k + 1) y0 y1 y2 y3)) ∧ (∀ y0 y1 y2 y3 y4 y5, LeO (law08_RleJoins.j1 k y0 y1 y2 y3 y4 y5) (law08_RleJoins.j1 (k + 1) y0 y1 y2 y3 y4 y5))
  | 0 => ⟨fun _ _ _ _ r h => by simp [law08_RleJoins.j0] at h, fun _ _ _ _ _ _ r h => by simp [law08_RleJoins.j1] at h⟩
  | k + 1 => by
    obtain ⟨ih0, ih1⟩ := law08_RleJoins.mono_l k
    refine ⟨?_, ?_⟩
    · intro y0 y1 y2 y3
      unfold law08_RleJoins.j0
      repeat' first
      | (with_reducible exact ih0 _ _ _ _)
      | (with_reducible exact ih1 _ _ _ _ _ _)
      | (with_reducible exact law08_few.mono _ _)
      | (with_reducible exact rle_Runs.mono _ _)
      | (with_reducible exact LeO.refl _)
      | (with_reducible exact LeO.none _)
      | (with_reducible refine LeO.ite ?_ ?_)
      | (with_reducible refine LeO.bind ?_ (fun _ => ?_))
      | exact ih0 _ _ _ _
      | exact ih1 _ _ _ _ _ _
      | exact law08_few.mono _ _
      | exact rle_Runs.mono _ _
      | exact LeO.none _
      | refine LeO.ite ?_ ?_
      | refine LeO.bind ?_ (fun _ => ?_)
    · intro y0 y1 y2 y3 y4 y5
      unfold law08_RleJoins.j1
      repeat' first
      | (with_reducible exact ih0 _ _ _ _)
      | (with_reducible exact ih1 _ _ _ _ _ _)
      | (with_reducible exact law08_few.mono _ _)
      | (with_reducible exact rle_Runs.mono _ _)
      | (with_reducible exact LeO.refl _)
      | (with_reducible exact LeO.none _)
      | (with_reducible refine LeO.ite ?_ ?_)
      | (with_reducible refine LeO.bind ?_ (fun _ => ?_))
      | exact ih0 _ _ _ _
      | exact ih1 _ _ _ _ _ _
      | exact law08_few.mono _ _
      | exact rle_Runs.mono _ _
      | exact LeO.none _
      | refine LeO.ite ?_ ?_
      | refine LeO.bind ?_ (fun _ => ?_)
theorem law08_RleJoins.mono : ∀ a0 a1 k, LeO (law08_RleJoins.f k a0 a1) (law08_RleJoins.f (k + 1) a0 a1) := by
  intro a0 a1 k
  obtain ⟨ih0, ih1⟩ := law08_RleJoins.mono_l k
  unfold law08_RleJoins.f
  repeat' first
      | (with_reducible exact ih0 _ _ _ _)
      | (with_reducible exact ih1 _ _ _ _ _ _)
      | (with_reducible exact law08_few.mono _ _)
      | (with_reducible exact rle_Runs.mono _ _)
      | (with_reducible exact LeO.refl _)
      | (with_reducible exact LeO.none _)
      | (with_reducible refine LeO.ite ?_ ?_)
      | (with_reducible refine LeO.bind ?_ (fun _ => ?_))
      | exact ih0 _ _ _ _
      | exact ih1 _ _ _ _ _ _
      | exact law08_few.mono _ _
      | exact rle_Runs.mono _ _
      | exact LeO.none _
      | refine LeO.ite ?_ ?_
      | refine LeO.bind ?_ (fun _ => ?_)
set_option maxHeartbeats 8000000 in
set_option maxRecDepth 100000 in
theorem law08_RleJoins.calls (k : Nat) (A0 : Option Addr) (c0 : Nat) (l0 : List (S32)) (A1 : Option Addr) (c1 : Nat) (l1 : List (S32)) (r : Bool) (w : World) (hr0 : Kd.C k32 w A0 l0.length l0) (hc0 : l0.length ≤ c0) (hr1 : Kd.C k32 w A1 l1.length l1) (hc1 : l1.length ≤ c1) (hr_ : Aside0 (r = true)) (h : law08_RleJoins.f k l0 l1 = some r) :
    Calls Try.prog 9 #[.slice A0 l0.length c0, .slice A1 l1.length c1] w fun e w' => e = .returned (.bool r) ∧ Below w.heap.size w w' := by
  have hu32 := Try.underlying32
  have HR0 := Aside0.mk hr0
  have HC0 := Aside0.mk hc0
  clear hr0 hc0
  have HR1 := Aside0.mk hr1
  have HC1 := Aside0.mk hc1
  clear hr1 hc1
  have HB := Aside0.mk (Below.refl w.heap.size w)
  have H : ((law08_shown.f).bind fun t177 => ((law08_few.f k l0).bind fun t178 => (if t178 = true then ((law08_few.f k l1).bind fun t179 => (law08_RleJoins.j0 k l0 l1 t177 (!t179))) else (law08_RleJoins.j0 k l0 l1 t177 true)))) = some r := h
  clear h
  replace H := Option.bind_eq_some_iff.mp H
  obtain ⟨t177, A30, H⟩ := H
  replace H : ((law08_few.f k l0).bind fun t178 => (if t178 = true then ((law08_few.f k l1).bind fun t179 => (law08_RleJoins.j0 k l0 l1 t177 (!t179))) else (law08_RleJoins.j0 k l0 l1 t177 true))) = some r := H
  have A3 := Aside0.mk A30
  clear A30
  have HC4 := Aside0.mk H
  clear H
  go_enter Try.func9, Try.ntmps9
  go_upto_region 2 with (first | (go_at_call 23; (with_reducible refine (law08_shown.calls  t177 _ A3.out).mono ?_); rintro e w5 ⟨rfl, hb⟩; have n0_ := Aside0.mk (below_step (by repeat (first | (with_reducible first | exact HB.out | apply below_alloc | apply pw_below_drewN | apply below_drew1) | exact HB.out)) hb); clear HB; have HB := n0_; clear n0_; (try clear hb); (try clear hb2); (try clear hk); (try clear hi)))
  repeat (go_quiet (first | (go_at_call 23; (with_reducible refine (law08_shown.calls  t177 _ A3.out).mono ?_); rintro e w5 ⟨rfl, hb⟩; have n0_ := Aside0.mk (below_step (by repeat (first | (with_reducible first | exact HB.out | apply below_alloc | apply pw_below_drewN | apply below_drew1) | exact HB.out)) hb); clear HB; have HB := n0_; clear n0_; (try clear hb); (try clear hb2); (try clear hk); (try clear hi))); go_upto_region 2 with (first | (go_at_call 23; (with_reducible refine (law08_shown.calls  t177 _ A3.out).mono ?_); rintro e w5 ⟨rfl, hb⟩; have n0_ := Aside0.mk (below_step (by repeat (first | (with_reducible first | exact HB.out | apply below_alloc | apply pw_below_drewN | apply below_drew1) | exact HB.out)) hb); clear HB; have HB := n0_; clear n0_; (try clear hb); (try clear hb2); (try clear hk); (try clear hi))))
  (try simp only [Act.put, List.setIfInBounds_toArray, List.set_cons_zero, List.set_cons_succ])
  go_cut [18] (fun v18 wc => ∃ (kq : Nat) (x18_3 : Bool), v18 = .bool x18_3 ∧ Aside0 (law08_RleJoins.j0 kq l0 l1 t177 x18_3 = some r) ∧ Aside0 (kq ≤ k) ∧ Aside0 (Below w.heap.size w wc))
  case first =>
    have H := HC4.out
    clear HC4
    replace H := Option.bind_eq_some_iff.mp H
    obtain ⟨t178, A60, H⟩ := H
    replace H : (if t178 = true then ((law08_few.f k l1).bind fun t179 => (law08_RleJoins.j0 k l0 l1 t177 (!t179))) else (law08_RleJoins.j0 k l0 l1 t177 true)) = some r := H
    have A6 := Aside0.mk A60
    clear A60
    by_cases c7 : t178 = true
    · subst c7
      have H1 : ((law08_few.f k l1).bind fun t179 => (law08_RleJoins.j0 k l0 l1 t177 (!t179))) = some r := by rw [if_pos rfl] at H; exact H
      clear H
      have H := H1
      clear H1
      replace H := Option.bind_eq_some_iff.mp H
      obtain ⟨t179, A80, H⟩ := H
      replace H : (law08_RleJoins.j0 k l0 l1 t177 (!t179)) = some r := H
      have A8 := Aside0.mk A80
      clear A80
      have H' := Aside0.mk H
      clear H
      go_wp2_with (first | (go_at_call 25; (with_reducible refine (law08_few.calls k _ _ l0 true _ ?side1 ?side2 A6.out).mono ?_); (case side1 => repeat (first | exact (Kd.C_below HR0.out HB.out) | (with_reducible refine Kd.C_alloc ?_ _) | (with_reducible refine Kd.C_drewN ?_ _) | (with_reducible refine Kd.C_drew ?_))); (case side2 => exact HC0.out); rintro e w' ⟨rfl, ⟨nd, rfl⟩⟩; (try first | exact ⟨rfl, _, World.drewN_drewN _ _ _⟩ | exact ⟨rfl, _, Eq.trans (World.drewN_drewN _ _ _) (congrArg (World.drewN _) (Nat.add_assoc _ _ _))⟩)) | (go_at_call 25; (with_reducible refine (law08_few.calls k _ _ l1 t179 _ ?side1 ?side2 A8.out).mono ?_); (case side1 => repeat (first | exact (Kd.C_below HR1.out (by repeat (first | (with_reducible first | exact HB.out | apply below_alloc | apply pw_below_drewN | apply below_drew1) | exact HB.out))) | (with_reducible refine Kd.C_alloc ?_ _) | (with_reducible refine Kd.C_drewN ?_ _) | (with_reducible refine Kd.C_drew ?_))); (case side2 => exact HC1.out); rintro e w' ⟨rfl, ⟨nd, rfl⟩⟩; (try first | exact ⟨rfl, _, World.drewN_drewN _ _ _⟩ | exact ⟨rfl, _, Eq.trans (World.drewN_drewN _ _ _) (congrArg (World.drewN _) (Nat.add_assoc _ _ _))⟩)))
      repeat (go_quiet (first | (go_at_call 25; (with_reducible refine (law08_few.calls k _ _ l0 true _ ?side1 ?side2 A6.out).mono ?_); (case side1 => repeat (first | exact (Kd.C_below HR0.out HB.out) | (with_reducible refine Kd.C_alloc ?_ _) | (with_reducible refine Kd.C_drewN ?_ _) | (with_reducible refine Kd.C_drew ?_))); (case side2 => exact HC0.out); rintro e w' ⟨rfl, ⟨nd, rfl⟩⟩; (try first | exact ⟨rfl, _, World.drewN_drewN _ _ _⟩ | exact ⟨rfl, _, Eq.trans (World.drewN_drewN _ _ _) (congrArg (World.drewN _) (Nat.add_assoc _ _ _))⟩)) | (go_at_call 25; (with_reducible refine (law08_few.calls k _ _ l1 t179 _ ?side1 ?side2 A8.out).mono ?_); (case side1 => repeat (first | exact (Kd.C_below HR1.out (by repeat (first | (with_reducible first | exact HB.out | apply below_alloc | apply pw_below_drewN | apply below_drew1) | exact HB.out))) | (with_reducible refine Kd.C_alloc ?_ _) | (with_reducible refine Kd.C_drewN ?_ _) | (with_reducible refine Kd.C_drew ?_))); (case side2 => exact HC1.out); rintro e w' ⟨rfl, ⟨nd, rfl⟩⟩; (try first | exact ⟨rfl, _, World.drewN_drewN _ _ _⟩ | exact ⟨rfl, _, Eq.trans (World.drewN_drewN _ _ _) (congrArg (World.drewN _) (Nat.add_assoc _ _ _))⟩))); try go_wp2_with (first | (go_at_call 25; (with_reducible refine (law08_few.calls k _ _ l0 true _ ?side1 ?side2 A6.out).mono ?_); (case side1 => repeat (first | exact (Kd.C_below HR0.out HB.out) | (with_reducible refine Kd.C_alloc ?_ _) | (with_reducible refine Kd.C_drewN ?_ _) | (with_reducible refine Kd.C_drew ?_))); (case side2 => exact HC0.out); rintro e w' ⟨rfl, ⟨nd, rfl⟩⟩; (try first | exact ⟨rfl, _, World.drewN_drewN _ _ _⟩ | exact ⟨rfl, _, Eq.trans (World.drewN_drewN _ _ _) (congrArg (World.drewN _) (Nat.add_assoc _ _ _))⟩)) | (go_at_call 25; (with_reducible refine (law08_few.calls k _ _ l1 t179 _ ?side1 ?side2 A8.out).mono ?_); (case side1 => repeat (first | exact (Kd.C_below HR1.out (by repeat (first | (with_reducible first | exact HB.out | apply below_alloc | apply pw_below_drewN | apply below_drew1) | exact HB.out))) | (with_reducible refine Kd.C_alloc ?_ _) | (with_reducible refine Kd.C_drewN ?_ _) | (with_reducible refine Kd.C_drew ?_))); (case side2 => exact HC1.out); rintro e w' ⟨rfl, ⟨nd, rfl⟩⟩; (try first | exact ⟨rfl, _, World.drewN_drewN _ _ _⟩ | exact ⟨rfl, _, Eq.trans (World.drewN_drewN _ _ _) (congrArg (World.drewN _) (Nat.add_assoc _ _ _))⟩))))
      go_meet
      case rel => exact ⟨_, (!t179), (by first | rfl | (simp; done) | (simp [*]; done)), H', ⟨by first | omega | exact Nat.le_refl _⟩, ⟨by repeat (first | (with_reducible first | exact HB.out | apply below_alloc | apply pw_below_drewN | apply below_drew1) | exact HB.out)⟩⟩
    · replace c7 := Bool.eq_false_iff.mpr c7
      subst c7
      have H1 : (law08_RleJoins.j0 k l0 l1 t177 true) = some r := by rw [if_neg (show ¬ (false = true) by decide)] at H; exact H
      clear H
      have H := H1
      clear H1
      have H' := Aside0.mk H
      clear H
      go_wp2_with (first | (go_at_call 25; (with_reducible refine (law08_few.calls k _ _ l0 false _ ?side1 ?side2 A6.out).mono ?_); (case side1 => repeat (first | exact (Kd.C_below HR0.out HB.out) | (with_reducible refine Kd.C_alloc ?_ _) | (with_reducible refine Kd.C_drewN ?_ _) | (with_reducible refine Kd.C_drew ?_))); (case side2 => exact HC0.out); rintro e w' ⟨rfl, ⟨nd, rfl⟩⟩; (try first | exact ⟨rfl, _, World.drewN_drewN _ _ _⟩ | exact ⟨rfl, _, Eq.trans (World.drewN_drewN _ _ _) (congrArg (World.drewN _) (Nat.add_assoc _ _ _))⟩)))
      repeat (go_quiet (first | (go_at_call 25; (with_reducible refine (law08_few.calls k _ _ l0 false _ ?side1 ?side2 A6.out).mono ?_); (case side1 => repeat (first | exact (Kd.C_below HR0.out HB.out) | (with_reducible refine Kd.C_alloc ?_ _) | (with_reducible refine Kd.C_drewN ?_ _) | (with_reducible refine Kd.C_drew ?_))); (case side2 => exact HC0.out); rintro e w' ⟨rfl, ⟨nd, rfl⟩⟩; (try first | exact ⟨rfl, _, World.drewN_drewN _ _ _⟩ | exact ⟨rfl, _, Eq.trans (World.drewN_drewN _ _ _) (congrArg (World.drewN _) (Nat.add_assoc _ _ _))⟩))); try go_wp2_with (first | (go_at_call 25; (with_reducible refine (law08_few.calls k _ _ l0 false _ ?side1 ?side2 A6.out).mono ?_); (case side1 => repeat (first | exact (Kd.C_below HR0.out HB.out) | (with_reducible refine Kd.C_alloc ?_ _) | (with_reducible refine Kd.C_drewN ?_ _) | (with_reducible refine Kd.C_drew ?_))); (case side2 => exact HC0.out); rintro e w' ⟨rfl, ⟨nd, rfl⟩⟩; (try first | exact ⟨rfl, _, World.drewN_drewN _ _ _⟩ | exact ⟨rfl, _, Eq.trans (World.drewN_drewN _ _ _) (congrArg (World.drewN _) (Nat.add_assoc _ _ _))⟩))))
      go_meet
      case rel => exact ⟨_, (true), (by first | rfl | (simp; done) | (simp [*]; done)), H', ⟨by first | omega | exact Nat.le_refl _⟩, ⟨by repeat (first | (with_reducible first | exact HB.out | apply below_alloc | apply pw_below_drewN | apply below_drew1) | exact HB.out)⟩⟩
  case rest =>
    clear HC4
    try clear c1
    try clear p2
    try clear c7
    obtain ⟨kq, x18_3, rfl, HA, HJ3, HB⟩ := hcut
    cases kq with
    | zero => exact absurd HA.out (by simp [law08_RleJoins.j0])
    | succ kj3 =>
      have H := HA.out
      clear HA
      simp only [law08_RleJoins.j0] at H
      by_cases c9 : x18_3 = true
      · subst c9
        have H1 : (some t177) = some r := by rw [if_pos rfl] at H; exact H
        clear H
        have H := H1
        clear H1
        obtain rfl := Option.some.inj H
        go_wp2
        repeat (go_quiet (fail); try go_wp2)
        go_ret
        exact ⟨by first | rfl | (simp [errW_none, errW_some] <;> rfl) | (simp [*, errW_none, errW_some] <;> rfl), by repeat (first | (with_reducible first | exact HB.out | apply below_alloc | apply pw_below_drewN | apply below_drew1) | exact HB.out)⟩
      · replace c9 := Bool.eq_false_iff.mpr c9
        subst c9
        have H1 : ((rle_Runs.f kj3 l0).bind fun t180 => ((rle_Runs.f kj3 l1).bind fun t183 => ((some (([] : List (S32)) : List (S32))).bind fun y186 => (if y186.length + l0.length < 4398046511104 then ((some (y186 ++ l0 : List (S32))).bind fun y189 => (if y189.length + l1.length < 4398046511104 then ((rle_Runs.f kj3 (y189 ++ l1)).bind fun t195 => (if (l0.length : Int) > 0 then (if (l1.length : Int) > 0 then (if 0 ≤ (wrap64 ((l0.length : Int) - 1)) then (if (wrap64 ((l0.length : Int) - 1)) < (l0.length : Int) then (if 0 < (l1.length : Int) then (law08_RleJoins.j1 kj3 l0 t177 t180 t195 (wrap64 ((t180.length : Int) + (t183.length : Int))) (((rd_T32 l0 (wrap64 ((l0.length : Int) - 1))).f0) == ((rd_T32 l1 0).f0) && (((rd_T32 l0 (wrap64 ((l0.length : Int) - 1))).f1) == ((rd_T32 l1 0).f1) && ((((rd_T32 l0 (wrap64 ((l0.length : Int) - 1))).f2).toList) == (((rd_T32 l1 0).f2).toList))))) else (none)) else (none)) else (none)) else (law08_RleJoins.j1 kj3 l0 t177 t180 t195 (wrap64 ((t180.length : Int) + (t183.length : Int))) false)) else (law08_RleJoins.j1 kj3 l0 t177 t180 t195 (wrap64 ((t180.length : Int) + (t183.length : Int))) false))) else (none))) else (none))))) = some r := by rw [if_neg (show ¬ (false = true) by decide)] at H; exact H
        clear H
        have H := H1
        clear H1
        replace H := Option.bind_eq_some_iff.mp H
        obtain ⟨t180, A100, H⟩ := H
        replace H : ((rle_Runs.f kj3 l1).bind fun t183 => ((some (([] : List (S32)) : List (S32))).bind fun y186 => (if y186.length + l0.length < 4398046511104 then ((some (y186 ++ l0 : List (S32))).bind fun y189 => (if y189.length + l1.length < 4398046511104 then ((rle_Runs.f kj3 (y189 ++ l1)).bind fun t195 => (if (l0.length : Int) > 0 then (if (l1.length : Int) > 0 then (if 0 ≤ (wrap64 ((l0.length : Int) - 1)) then (if (wrap64 ((l0.length : Int) - 1)) < (l0.length : Int) then (if 0 < (l1.length : Int) then (law08_RleJoins.j1 kj3 l0 t177 t180 t195 (wrap64 ((t180.length : Int) + (t183.length : Int))) (((rd_T32 l0 (wrap64 ((l0.length : Int) - 1))).f0) == ((rd_T32 l1 0).f0) && (((rd_T32 l0 (wrap64 ((l0.length : Int) - 1))).f1) == ((rd_T32 l1 0).f1) && ((((rd_T32 l0 (wrap64 ((l0.length : Int) - 1))).f2).toList) == (((rd_T32 l1 0).f2).toList))))) else (none)) else (none)) else (none)) else (law08_RleJoins.j1 kj3 l0 t177 t180 t195 (wrap64 ((t180.length : Int) + (t183.length : Int))) false)) else (law08_RleJoins.j1 kj3 l0 t177 t180 t195 (wrap64 ((t180.length : Int) + (t183.length : Int))) false))) else (none))) else (none)))) = some r := H
        have A10 := Aside0.mk A100
        clear A100
        replace H := Option.bind_eq_some_iff.mp H
        obtain ⟨t183, A110, H⟩ := H
        replace H : ((some (([] : List (S32)) : List (S32))).bind fun y186 => (if y186.length + l0.length < 4398046511104 then ((some (y186 ++ l0 : List (S32))).bind fun y189 => (if y189.length + l1.length < 4398046511104 then ((rle_Runs.f kj3 (y189 ++ l1)).bind fun t195 => (if (l0.length : Int) > 0 then (if (l1.length : Int) > 0 then (if 0 ≤ (wrap64 ((l0.length : Int) - 1)) then (if (wrap64 ((l0.length : Int) - 1)) < (l0.length : Int) then (if 0 < (l1.length : Int) then (law08_RleJoins.j1 kj3 l0 t177 t180 t195 (wrap64 ((t180.length : Int) + (t183.length : Int))) (((rd_T32 l0 (wrap64 ((l0.length : Int) - 1))).f0) == ((rd_T32 l1 0).f0) && (((rd_T32 l0 (wrap64 ((l0.length : Int) - 1))).f1) == ((rd_T32 l1 0).f1) && ((((rd_T32 l0 (wrap64 ((l0.length : Int) - 1))).f2).toList) == (((rd_T32 l1 0).f2).toList))))) else (none)) else (none)) else (none)) else (law08_RleJoins.j1 kj3 l0 t177 t180 t195 (wrap64 ((t180.length : Int) + (t183.length : Int))) false)) else (law08_RleJoins.j1 kj3 l0 t177 t180 t195 (wrap64 ((t180.length : Int) + (t183.length : Int))) false))) else (none))) else (none))) = some r := H
        have A11 := Aside0.mk A110
        clear A110
        obtain ⟨y186, hy186⟩ : ∃ y_ : List (S32), y_ = (([] : List (S32))) := ⟨_, rfl⟩
        replace H : (if y186.length + l0.length < 4398046511104 then ((some (y186 ++ l0 : List (S32))).bind fun y189 => (if y189.length + l1.length < 4398046511104 then ((rle_Runs.f kj3 (y189 ++ l1)).bind fun t195 => (if (l0.length : Int) > 0 then (if (l1.length : Int) > 0 then (if 0 ≤ (wrap64 ((l0.length : Int) - 1)) then (if (wrap64 ((l0.length : Int) - 1)) < (l0.length : Int) then (if 0 < (l1.length : Int) then (law08_RleJoins.j1 kj3 l0 t177 t180 t195 (wrap64 ((t180.length : Int) + (t183.length : Int))) (((rd_T32 l0 (wrap64 ((l0.length : Int) - 1))).f0) == ((rd_T32 l1 0).f0) && (((rd_T32 l0 (wrap64 ((l0.length : Int) - 1))).f1) == ((rd_T32 l1 0).f1) && ((((rd_T32 l0 (wrap64 ((l0.length : Int) - 1))).f2).toList) == (((rd_T32 l1 0).f2).toList))))) else (none)) else (none)) else (none)) else (law08_RleJoins.j1 kj3 l0 t177 t180 t195 (wrap64 ((t180.length : Int) + (t183.length : Int))) false)) else (law08_RleJoins.j1 kj3 l0 t177 t180 t195 (wrap64 ((t180.length : Int) + (t183.length : Int))) false))) else (none))) else (none)) = some r := by first | (rw [hy186]; with_reducible exact H) | (have H2_ := (Option.bind_some _ _).symm.trans H; rw [hy186]; with_reducible exact H2_) | (have H2_ := (Option.bind_some _ _).symm.trans H; with_reducible exact H2_) | with_reducible exact H | (rw [hy186]; exact H) | exact H
        have Ny186 := Aside0.mk hy186
        clear hy186
        by_cases c12 : y186.length + l0.length < 4398046511104
        · rw [if_pos c12] at H
          have LMc12 := Aside0.mk c12
          clear c12
          obtain ⟨y189, hy189⟩ : ∃ y_ : List (S32), y_ = (y186 ++ l0) := ⟨_, rfl⟩
          replace H : (if y189.length + l1.length < 4398046511104 then ((rle_Runs.f kj3 (y189 ++ l1)).bind fun t195 => (if (l0.length : Int) > 0 then (if (l1.length : Int) > 0 then (if 0 ≤ (wrap64 ((l0.length : Int) - 1)) then (if (wrap64 ((l0.length : Int) - 1)) < (l0.length : Int) then (if 0 < (l1.length : Int) then (law08_RleJoins.j1 kj3 l0 t177 t180 t195 (wrap64 ((t180.length : Int) + (t183.length : Int))) (((rd_T32 l0 (wrap64 ((l0.length : Int) - 1))).f0) == ((rd_T32 l1 0).f0) && (((rd_T32 l0 (wrap64 ((l0.length : Int) - 1))).f1) == ((rd_T32 l1 0).f1) && ((((rd_T32 l0 (wrap64 ((l0.length : Int) - 1))).f2).toList) == (((rd_T32 l1 0).f2).toList))))) else (none)) else (none)) else (none)) else (law08_RleJoins.j1 kj3 l0 t177 t180 t195 (wrap64 ((t180.length : Int) + (t183.length : Int))) false)) else (law08_RleJoins.j1 kj3 l0 t177 t180 t195 (wrap64 ((t180.length : Int) + (t183.length : Int))) false))) else (none)) = some r := by first | (rw [hy189]; with_reducible exact H) | (have H2_ := (Option.bind_some _ _).symm.trans H; rw [hy189]; with_reducible exact H2_) | (have H2_ := (Option.bind_some _ _).symm.trans H; with_reducible exact H2_) | with_reducible exact H | (rw [hy189]; exact H) | exact H
          have Ny189 := Aside0.mk hy189
          clear hy189
          by_cases c13 : y189.length + l1.length < 4398046511104
          · rw [if_pos c13] at H
            have LMc13 := Aside0.mk c13
            clear c13
            obtain ⟨y192, hy192⟩ : ∃ y_ : List (S32), y_ = (y189 ++ l1) := ⟨_, rfl⟩
            replace H : ((rle_Runs.f kj3 y192).bind fun t195 => (if (l0.length : Int) > 0 then (if (l1.length : Int) > 0 then (if 0 ≤ (wrap64 ((l0.length : Int) - 1)) then (if (wrap64 ((l0.length : Int) - 1)) < (l0.length : Int) then (if 0 < (l1.length : Int) then (law08_RleJoins.j1 kj3 l0 t177 t180 t195 (wrap64 ((t180.length : Int) + (t183.length : Int))) (((rd_T32 l0 (wrap64 ((l0.length : Int) - 1))).f0) == ((rd_T32 l1 0).f0) && (((rd_T32 l0 (wrap64 ((l0.length : Int) - 1))).f1) == ((rd_T32 l1 0).f1) && ((((rd_T32 l0 (wrap64 ((l0.length : Int) - 1))).f2).toList) == (((rd_T32 l1 0).f2).toList))))) else (none)) else (none)) else (none)) else (law08_RleJoins.j1 kj3 l0 t177 t180 t195 (wrap64 ((t180.length : Int) + (t183.length : Int))) false)) else (law08_RleJoins.j1 kj3 l0 t177 t180 t195 (wrap64 ((t180.length : Int) + (t183.length : Int))) false))) = some r := by first | (rw [hy192]; with_reducible exact H) | (have H2_ := (Option.bind_some _ _).symm.trans H; rw [hy192]; with_reducible exact H2_) | (have H2_ := (Option.bind_some _ _).symm.trans H; with_reducible exact H2_) | with_reducible exact H | (rw [hy192]; exact H) | exact H
            have Ny192 := Aside0.mk hy192
            clear hy192
            replace H := Option.bind_eq_some_iff.mp H
            obtain ⟨t195, A140, H⟩ := H
            replace H : (if (l0.length : Int) > 0 then (if (l1.length : Int) > 0 then (if 0 ≤ (wrap64 ((l0.length : Int) - 1)) then (if (wrap64 ((l0.length : Int) - 1)) < (l0.length : Int) then (if 0 < (l1.length : Int) then (law08_RleJoins.j1 kj3 l0 t177 t180 t195 (wrap64 ((t180.length : Int) + (t183.length : Int))) (((rd_T32 l0 (wrap64 ((l0.length : Int) - 1))).f0) == ((rd_T32 l1 0).f0) && (((rd_T32 l0 (wrap64 ((l0.length : Int) - 1))).f1) == ((rd_T32 l1 0).f1) && ((((rd_T32 l0 (wrap64 ((l0.length : Int) - 1))).f2).toList) == (((rd_T32 l1 0).f2).toList))))) else (none)) else (none)) else (none)) else (law08_RleJoins.j1 kj3 l0 t177 t180 t195 (wrap64 ((t180.length : Int) + (t183.length : Int))) false)) else (law08_RleJoins.j1 kj3 l0 t177 t180 t195 (wrap64 ((t180.length : Int) + (t183.length : Int))) false)) = some r := H
            have A14 := Aside0.mk A140
            clear A140
            have HC15 := Aside0.mk H
            clear H
            go_upto_region 8 with (first | (go_at_call 26; (with_reducible refine (rle_Runs.calls kj3 _ _ l0 t180 _ ?side1 ?side2 A10.out).mono ?_); (case side1 => repeat (first | exact (Kd.C_below HR0.out HB.out) | (with_reducible refine Kd.C_alloc ?_ _) | (with_reducible refine Kd.C_drewN ?_ _) | (with_reducible refine Kd.C_drew ?_))); (case side2 => exact HC0.out); rintro e w16 ⟨v181, rfl, ho0, hb⟩; have n0_ := Aside0.mk (Kd.R_lower ho0 (below_size (by repeat (first | (with_reducible first | exact HB.out | apply below_alloc | apply pw_below_drewN | apply below_drew1) | exact HB.out)))); have n1_ := Aside0.mk (below_step (by repeat (first | (with_reducible first | exact HB.out | apply below_alloc | apply pw_below_drewN | apply below_drew1) | exact HB.out)) hb); clear HB; have HO182 := n0_; have HB := n1_; clear n0_ n1_; (try clear hb); (try clear hb2); (try clear hk); (try clear hi); (try clear ho0)) | (go_at_call 26; (with_reducible refine (rle_Runs.calls kj3 _ _ l1 t183 _ ?side1 ?side2 A11.out).mono ?_); (case side1 => repeat (first | exact (Kd.C_below HR1.out HB.out) | (with_reducible refine Kd.C_alloc ?_ _) | (with_reducible refine Kd.C_drewN ?_ _) | (with_reducible refine Kd.C_drew ?_))); (case side2 => exact HC1.out); rintro e w17 ⟨v184, rfl, ho0, hb⟩; have n0_ := Aside0.mk (Kd.R_elder' (by (with_reducible repeat (first | apply Kd.R_alloc | apply Kd.R_drewN | apply Kd.R_drew)); exact HO182.out) (Kd.R_base ho0) hb); have n1_ := Aside0.mk (Kd.R_lower (Kd.R_new' ho0 (Kd.R_lt (by (with_reducible repeat (first | apply Kd.R_alloc | apply Kd.R_drewN | apply Kd.R_drew)); exact HO182.out))) (below_size (by repeat (first | (with_reducible first | exact HB.out | apply below_alloc | apply pw_below_drewN | apply below_drew1) | exact HB.out)))); have n2_ := Aside0.mk (below_step (by repeat (first | (with_reducible first | exact HB.out | apply below_alloc | apply pw_below_drewN | apply below_drew1) | exact HB.out)) hb); clear HO182; clear HB; have HO182 := n0_; have HO185 := n1_; have HB := n2_; clear n0_ n1_ n2_; (try clear hb); (try clear hb2); (try clear hk); (try clear hi); (try clear ho0)) | ((with_reducible refine gate_dst (N := 24) rfl ?_); (try (refine gate_guard (by rfl) ?_; dsimp only)); refine Kd.R_lit k32 _ 32 ?hg (N := 24) ?hd (xs := ([] : List (S32))) (inner := []) (ok := fun _ => True) (okp := fun _ => True) ?hr ?hp (fun _ hk => hk) trivial (Below.refl _ _) (Nat.le_refl _) (by simp) ?_; (case hd => rfl); (case hg => rfl); (case hr => first | (go_simp; done) | (go_simp; rfl)); (case hp => exact (Reps.none _ _)); intro v187 w18 ho19 hb hg_ hnew_; clear hg_ hnew_; (first | rw [← Ny186.out] at ho19 | (simp only [Int.reduceToNat] at ho19; rw [← Ny186.out] at ho19)); have n0_ := Aside0.mk (Kd.R_below (by (with_reducible repeat (first | apply Kd.R_alloc | apply Kd.R_drewN | apply Kd.R_drew)); exact HO182.out) hb); have n1_ := Aside0.mk (Kd.R_below (by (with_reducible repeat (first | apply Kd.R_alloc | apply Kd.R_drewN | apply Kd.R_drew)); exact HO185.out) hb); have n2_ := Aside0.mk (Kd.R_lower ho19 (below_size (by repeat (first | (with_reducible first | exact HB.out | apply below_alloc | apply pw_below_drewN | apply below_drew1) | exact HB.out)))); have n3_ := Aside0.mk (below_step (by repeat (first | (with_reducible first | exact HB.out | apply below_alloc | apply pw_below_drewN | apply below_drew1) | exact HB.out)) hb); clear HO182; clear HO185; clear HB; have HO182 := n0_; have HO185 := n1_; have HO188 := n2_; have HB := n3_; clear n0_ n1_ n2_ n3_; clear hb ho19) | ((with_reducible refine gate_builtin (b := .append) (xs := #[.tmp 24, .tmp 25]) rfl ?_); (try (refine gate_guard (by rfl) ?_; dsimp only)); at_builtin; refine Kd.R_append_rows k32 (w0 := w) w.heap.size rfl (.tmp 24) (.tmp 25) 22 32 (.agg #[(.int .i64 0), (.int .i64 0), (.string ⟨#[]⟩)]) 32 rfl Try.underlying22 info32 rfl (by decide) (by omega) v187 y186 l0 _ _ _ (fun _ => True) (fun _ => False) rfl rfl ?aO ?aR (fun _ _ h => h) (fun _ h => h.elim) ?aF ?aB ?aS ?aL ?_; (case aR => repeat (first | exact (Kd.C_below HR0.out HB.out) | (with_reducible refine Kd.C_alloc ?_ _) | (with_reducible refine Kd.C_drewN ?_ _) | (with_reducible refine Kd.C_drew ?_))); (case aB => exact (by repeat (first | (with_reducible first | exact HB.out | apply below_alloc | apply pw_below_drewN | apply below_drew1) | exact HB.out))); (case aF => exact (fun _ _ => trivial)); (case aO => exact (by (with_reducible repeat (first | apply Kd.R_alloc | apply Kd.R_drewN | apply Kd.R_drew)); exact HO188.out)); (case aS => exact (below_size (by repeat (first | (with_reducible first | exact HB.out | apply below_alloc | apply pw_below_drewN | apply below_drew1) | exact HB.out)))); (case aL => have := LMc12.out; omega); intro v190 w20 ho hb hg hat; rw [← Ny189.out] at ho; have n0_ := Aside0.mk (Kd.R_over' (by (with_reducible repeat (first | apply Kd.R_alloc | apply Kd.R_drewN | apply Kd.R_drew)); exact HO182.out) (Kd.R_typed (by (with_reducible repeat (first | apply Kd.R_alloc | apply Kd.R_drewN | apply Kd.R_drew)); exact HO188.out)) (by decide) hg); have n1_ := Aside0.mk (Kd.R_over' (by (with_reducible repeat (first | apply Kd.R_alloc | apply Kd.R_drewN | apply Kd.R_drew)); exact HO185.out) (Kd.R_typed (by (with_reducible repeat (first | apply Kd.R_alloc | apply Kd.R_drewN | apply Kd.R_drew)); exact HO188.out)) (by decide) hg); have n2_ := Aside0.mk (hb); have n3_ := Aside0.mk (ho); clear HO182; clear HO185; clear HB; clear HO188; have HO182 := n0_; have HO185 := n1_; have HB := n2_; have HO191 := n3_; clear n0_ n1_ n2_ n3_; clear ho hb hg hat) | ((with_reducible refine gate_builtin (b := .append) (xs := #[.tmp 26, .tmp 27]) rfl ?_); (try (refine gate_guard (by rfl) ?_; dsimp only)); at_builtin; refine Kd.R_append_rows k32 (w0 := w) w.heap.size rfl (.tmp 26) (.tmp 27) 22 32 (.agg #[(.int .i64 0), (.int .i64 0), (.string ⟨#[]⟩)]) 32 rfl Try.underlying22 info32 rfl (by decide) (by omega) v190 y189 l1 _ _ _ (fun _ => True) (fun _ => False) rfl rfl ?aO ?aR (fun _ _ h => h) (fun _ h => h.elim) ?aF ?aB ?aS ?aL ?_; (case aR => repeat (first | exact (Kd.C_below HR1.out HB.out) | (with_reducible refine Kd.C_alloc ?_ _) | (with_reducible refine Kd.C_drewN ?_ _) | (with_reducible refine Kd.C_drew ?_))); (case aB => exact (by repeat (first | (with_reducible first | exact HB.out | apply below_alloc | apply pw_below_drewN | apply below_drew1) | exact HB.out))); (case aF => exact (fun _ _ => trivial)); (case aO => exact (by (with_reducible repeat (first | apply Kd.R_alloc | apply Kd.R_drewN | apply Kd.R_drew)); exact HO191.out)); (case aS => exact (below_size (by repeat (first | (with_reducible first | exact HB.out | apply below_alloc | apply pw_below_drewN | apply below_drew1) | exact HB.out)))); (case aL => have := LMc13.out; omega); intro v193 w21 ho hb hg hat; rw [← Ny192.out] at ho; have n0_ := Aside0.mk (Kd.R_over' (by (with_reducible repeat (first | apply Kd.R_alloc | apply Kd.R_drewN | apply Kd.R_drew)); exact HO182.out) (Kd.R_typed (by (with_reducible repeat (first | apply Kd.R_alloc | apply Kd.R_drewN | apply Kd.R_drew)); exact HO191.out)) (by decide) hg); have n1_ := Aside0.mk (Kd.R_over' (by (with_reducible repeat (first | apply Kd.R_alloc | apply Kd.R_drewN | apply Kd.R_drew)); exact HO185.out) (Kd.R_typed (by (with_reducible repeat (first | apply Kd.R_alloc | apply Kd.R_drewN | apply Kd.R_drew)); exact HO191.out)) (by decide) hg); have n2_ := Aside0.mk (hb); have n3_ := Aside0.mk (ho); clear HO182; clear HO185; clear HB; clear HO191; have HO182 := n0_; have HO185 := n1_; have HB := n2_; have HO194 := n3_; clear n0_ n1_ n2_ n3_; clear ho hb hg hat; obtain ⟨Ao22, co22, eo22⟩ := Kd.R_slice HO194.out; subst eo22) | (go_at_call 26; (with_reducible refine (rle_Runs.calls kj3 _ _ y192 t195 _ ?side1 ?side2 A14.out).mono ?_); (case side1 => repeat (first | exact (Kd.R_reads' HO194.out).2.2 | (with_reducible refine Kd.C_alloc ?_ _) | (with_reducible refine Kd.C_drewN ?_ _) | (with_reducible refine Kd.C_drew ?_))); (case side2 => exact (Kd.R_reads' HO194.out).2.1); rintro e w23 ⟨v196, rfl, ho0, hb⟩; have n0_ := Aside0.mk (Kd.R_elder' (by (with_reducible repeat (first | apply Kd.R_alloc | apply Kd.R_drewN | apply Kd.R_drew)); exact HO182.out) (Kd.R_base ho0) hb); have n1_ := Aside0.mk (Kd.R_elder' (by (with_reducible repeat (first | apply Kd.R_alloc | apply Kd.R_drewN | apply Kd.R_drew)); exact HO185.out) (Kd.R_base ho0) hb); have n2_ := Aside0.mk (Kd.R_below (by (with_reducible repeat (first | apply Kd.R_alloc | apply Kd.R_drewN | apply Kd.R_drew)); exact HO194.out) hb); have n3_ := Aside0.mk (Kd.R_lower (Kd.R_new' (Kd.R_new' ho0 (Kd.R_lt (by (with_reducible repeat (first | apply Kd.R_alloc | apply Kd.R_drewN | apply Kd.R_drew)); exact HO182.out))) (Kd.R_lt (by (with_reducible repeat (first | apply Kd.R_alloc | apply Kd.R_drewN | apply Kd.R_drew)); exact HO185.out))) (below_size (by repeat (first | (with_reducible first | exact HB.out | apply below_alloc | apply pw_below_drewN | apply below_drew1) | exact HB.out)))); have n4_ := Aside0.mk (below_step (by repeat (first | (with_reducible first | exact HB.out | apply below_alloc | apply pw_below_drewN | apply below_drew1) | exact HB.out)) hb); clear HO182; clear HO185; clear HO194; clear HB; have HO182 := n0_; have HO185 := n1_; have HO194 := n2_; have HO197 := n3_; have HB := n4_; clear n0_ n1_ n2_ n3_ n4_; (try clear hb); (try clear hb2); (try clear hk); (try clear hi); (try clear ho0); obtain ⟨Ao24, co24, eo24⟩ := Kd.R_slice HO182.out; subst eo24; obtain ⟨Ao25, co25, eo25⟩ := Kd.R_slice HO185.out; subst eo25))
            repeat (go_quiet (first | (go_at_call 26; (with_reducible refine (rle_Runs.calls kj3 _ _ l0 t180 _ ?side1 ?side2 A10.out).mono ?_); (case side1 => repeat (first | exact (Kd.C_below HR0.out HB.out) | (with_reducible refine Kd.C_alloc ?_ _) | (with_reducible refine Kd.C_drewN ?_ _) | (with_reducible refine Kd.C_drew ?_))); (case side2 => exact HC0.out); rintro e w16 ⟨v181, rfl, ho0, hb⟩; have n0_ := Aside0.mk (Kd.R_lower ho0 (below_size (by repeat (first | (with_reducible first | exact HB.out | apply below_alloc | apply pw_below_drewN | apply below_drew1) | exact HB.out)))); have n1_ := Aside0.mk (below_step (by repeat (first | (with_reducible first | exact HB.out | apply below_alloc | apply pw_below_drewN | apply below_drew1) | exact HB.out)) hb); clear HB; have HO182 := n0_; have HB := n1_; clear n0_ n1_; (try clear hb); (try clear hb2); (try clear hk); (try clear hi); (try clear ho0)) | (go_at_call 26; (with_reducible refine (rle_Runs.calls kj3 _ _ l1 t183 _ ?side1 ?side2 A11.out).mono ?_); (case side1 => repeat (first | exact (Kd.C_below HR1.out HB.out) | (with_reducible refine Kd.C_alloc ?_ _) | (with_reducible refine Kd.C_drewN ?_ _) | (with_reducible refine Kd.C_drew ?_))); (case side2 => exact HC1.out); rintro e w17 ⟨v184, rfl, ho0, hb⟩; have n0_ := Aside0.mk (Kd.R_elder' (by (with_reducible repeat (first | apply Kd.R_alloc | apply Kd.R_drewN | apply Kd.R_drew)); exact HO182.out) (Kd.R_base ho0) hb); have n1_ := Aside0.mk (Kd.R_lower (Kd.R_new' ho0 (Kd.R_lt (by (with_reducible repeat (first | apply Kd.R_alloc | apply Kd.R_drewN | apply Kd.R_drew)); exact HO182.out))) (below_size (by repeat (first | (with_reducible first | exact HB.out | apply below_alloc | apply pw_below_drewN | apply below_drew1) | exact HB.out)))); have n2_ := Aside0.mk (below_step (by repeat (first | (with_reducible first | exact HB.out | apply below_alloc | apply pw_below_drewN | apply below_drew1) | exact HB.out)) hb); clear HO182; clear HB; have HO182 := n0_; have HO185 := n1_; have HB := n2_; clear n0_ n1_ n2_; (try clear hb); (try clear hb2); (try clear hk); (try clear hi); (try clear ho0)) | ((with_reducible refine gate_dst (N := 24) rfl ?_); (try (refine gate_guard (by rfl) ?_; dsimp only)); refine Kd.R_lit k32 _ 32 ?hg (N := 24) ?hd (xs := ([] : List (S32))) (inner := []) (ok := fun _ => True) (okp := fun _ => True) ?hr ?hp (fun _ hk => hk) trivial (Below.refl _ _) (Nat.le_refl _) (by simp) ?_; (case hd => rfl); (case hg => rfl); (case hr => first | (go_simp; done) | (go_simp; rfl)); (case hp => exact (Reps.none _ _)); intro v187 w18 ho19 hb hg_ hnew_; clear hg_ hnew_; (first | rw [← Ny186.out] at ho19 | (simp only [Int.reduceToNat] at ho19; rw [← Ny186.out] at ho19)); have n0_ := Aside0.mk (Kd.R_below (by (with_reducible repeat (first | apply Kd.R_alloc | apply Kd.R_drewN | apply Kd.R_drew)); exact HO182.out) hb); have n1_ := Aside0.mk (Kd.R_below (by (with_reducible repeat (first | apply Kd.R_alloc | apply Kd.R_drewN | apply Kd.R_drew)); exact HO185.out) hb); have n2_ := Aside0.mk (Kd.R_lower ho19 (below_size (by repeat (first | (with_reducible first | exact HB.out | apply below_alloc | apply pw_below_drewN | apply below_drew1) | exact HB.out)))); have n3_ := Aside0.mk (below_step (by repeat (first | (with_reducible first | exact HB.out | apply below_alloc | apply pw_below_drewN | apply below_drew1) | exact HB.out)) hb); clear HO182; clear HO185; clear HB; have HO182 := n0_; have HO185 := n1_; have HO188 := n2_; have HB := n3_; clear n0_ n1_ n2_ n3_; clear hb ho19) | ((with_reducible refine gate_builtin (b := .append) (xs := #[.tmp 24, .tmp 25]) rfl ?_); (try (refine gate_guard (by rfl) ?_; dsimp only)); at_builtin; refine Kd.R_append_rows k32 (w0 := w) w.heap.size rfl (.tmp 24) (.tmp 25) 22 32 (.agg #[(.int .i64 0), (.int .i64 0), (.string ⟨#[]⟩)]) 32 rfl Try.underlying22 info32 rfl (by decide) (by omega) v187 y186 l0 _ _ _ (fun _ => True) (fun _ => False) rfl rfl ?aO ?aR (fun _ _ h => h) (fun _ h => h.elim) ?aF ?aB ?aS ?aL ?_; (case aR => repeat (first | exact (Kd.C_below HR0.out HB.out) | (with_reducible refine Kd.C_alloc ?_ _) | (with_reducible refine Kd.C_drewN ?_ _) | (with_reducible refine Kd.C_drew ?_))); (case aB => exact (by repeat (first | (with_reducible first | exact HB.out | apply below_alloc | apply pw_below_drewN | apply below_drew1) | exact HB.out))); (case aF => exact (fun _ _ => trivial)); (case aO => exact (by (with_reducible repeat (first | apply Kd.R_alloc | apply Kd.R_drewN | apply Kd.R_drew)); exact HO188.out)); (case aS => exact (below_size (by repeat (first | (with_reducible first | exact HB.out | apply below_alloc | apply pw_below_drewN | apply below_drew1) | exact HB.out)))); (case aL => have := LMc12.out; omega); intro v190 w20 ho hb hg hat; rw [← Ny189.out] at ho; have n0_ := Aside0.mk (Kd.R_over' (by (with_reducible repeat (first | apply Kd.R_alloc | apply Kd.R_drewN | apply Kd.R_drew)); exact HO182.out) (Kd.R_typed (by (with_reducible repeat (first | apply Kd.R_alloc | apply Kd.R_drewN | apply Kd.R_drew)); exact HO188.out)) (by decide) hg); have n1_ := Aside0.mk (Kd.R_over' (by (with_reducible repeat (first | apply Kd.R_alloc | apply Kd.R_drewN | apply Kd.R_drew)); exact HO185.out) (Kd.R_typed (by (with_reducible repeat (first | apply Kd.R_alloc | apply Kd.R_drewN | apply Kd.R_drew)); exact HO188.out)) (by decide) hg); have n2_ := Aside0.mk (hb); have n3_ := Aside0.mk (ho); clear HO182; clear HO185; clear HB; clear HO188; have HO182 := n0_; have HO185 := n1_; have HB := n2_; have HO191 := n3_; clear n0_ n1_ n2_ n3_; clear ho hb hg hat) | ((with_reducible refine gate_builtin (b := .append) (xs := #[.tmp 26, .tmp 27]) rfl ?_); (try (refine gate_guard (by rfl) ?_; dsimp only)); at_builtin; refine Kd.R_append_rows k32 (w0 := w) w.heap.size rfl (.tmp 26) (.tmp 27) 22 32 (.agg #[(.int .i64 0), (.int .i64 0), (.string ⟨#[]⟩)]) 32 rfl Try.underlying22 info32 rfl (by decide) (by omega) v190 y189 l1 _ _ _ (fun _ => True) (fun _ => False) rfl rfl ?aO ?aR (fun _ _ h => h) (fun _ h => h.elim) ?aF ?aB ?aS ?aL ?_; (case aR => repeat (first | exact (Kd.C_below HR1.out HB.out) | (with_reducible refine Kd.C_alloc ?_ _) | (with_reducible refine Kd.C_drewN ?_ _) | (with_reducible refine Kd.C_drew ?_))); (case aB => exact (by repeat (first | (with_reducible first | exact HB.out | apply below_alloc | apply pw_below_drewN | apply below_drew1) | exact HB.out))); (case aF => exact (fun _ _ => trivial)); (case aO => exact (by (with_reducible repeat (first | apply Kd.R_alloc | apply Kd.R_drewN | apply Kd.R_drew)); exact HO191.out)); (case aS => exact (below_size (by repeat (first | (with_reducible first | exact HB.out | apply below_alloc | apply pw_below_drewN | apply below_drew1) | exact HB.out)))); (case aL => have := LMc13.out; omega); intro v193 w21 ho hb hg hat; rw [← Ny192.out] at ho; have n0_ := Aside0.mk (Kd.R_over' (by (with_reducible repeat (first | apply Kd.R_alloc | apply Kd.R_drewN | apply Kd.R_drew)); exact HO182.out) (Kd.R_typed (by (with_reducible repeat (first | apply Kd.R_alloc | apply Kd.R_drewN | apply Kd.R_drew)); exact HO191.out)) (by decide) hg); have n1_ := Aside0.mk (Kd.R_over' (by (with_reducible repeat (first | apply Kd.R_alloc | apply Kd.R_drewN | apply Kd.R_drew)); exact HO185.out) (Kd.R_typed (by (with_reducible repeat (first | apply Kd.R_alloc | apply Kd.R_drewN | apply Kd.R_drew)); exact HO191.out)) (by decide) hg); have n2_ := Aside0.mk (hb); have n3_ := Aside0.mk (ho); clear HO182; clear HO185; clear HB; clear HO191; have HO182 := n0_; have HO185 := n1_; have HB := n2_; have HO194 := n3_; clear n0_ n1_ n2_ n3_; clear ho hb hg hat; obtain ⟨Ao22, co22, eo22⟩ := Kd.R_slice HO194.out; subst eo22) | (go_at_call 26; (with_reducible refine (rle_Runs.calls kj3 _ _ y192 t195 _ ?side1 ?side2 A14.out).mono ?_); (case side1 => repeat (first | exact (Kd.R_reads' HO194.out).2.2 | (with_reducible refine Kd.C_alloc ?_ _) | (with_reducible refine Kd.C_drewN ?_ _) | (with_reducible refine Kd.C_drew ?_))); (case side2 => exact (Kd.R_reads' HO194.out).2.1); rintro e w23 ⟨v196, rfl, ho0, hb⟩; have n0_ := Aside0.mk (Kd.R_elder' (by (with_reducible repeat (first | apply Kd.R_alloc | apply Kd.R_drewN | apply Kd.R_drew)); exact HO182.out) (Kd.R_base ho0) hb); have n1_ := Aside0.mk (Kd.R_elder' (by (with_reducible repeat (first | apply Kd.R_alloc | apply Kd.R_drewN | apply Kd.R_drew)); exact HO185.out) (Kd.R_base ho0) hb); have n2_ := Aside0.mk (Kd.R_below (by (with_reducible repeat (first | apply Kd.R_alloc | apply Kd.R_drewN | apply Kd.R_drew)); exact HO194.out) hb); have n3_ := Aside0.mk (Kd.R_lower (Kd.R_new' (Kd.R_new' ho0 (Kd.R_lt (by (with_reducible repeat (first | apply Kd.R_alloc | apply Kd.R_drewN | apply Kd.R_drew)); exact HO182.out))) (Kd.R_lt (by (with_reducible repeat (first | apply Kd.R_alloc | apply Kd.R_drewN | apply Kd.R_drew)); exact HO185.out))) (below_size (by repeat (first | (with_reducible first | exact HB.out | apply below_alloc | apply pw_below_drewN | apply below_drew1) | exact HB.out)))); have n4_ := Aside0.mk (below_step (by repeat (first | (with_reducible first | exact HB.out | apply below_alloc | apply pw_below_drewN | apply below_drew1) | exact HB.out)) hb); clear HO182; clear HO185; clear HO194; clear HB; have HO182 := n0_; have HO185 := n1_; have HO194 := n2_; have HO197 := n3_; have HB := n4_; clear n0_ n1_ n2_ n3_ n4_; (try clear hb); (try clear hb2); (try clear hk); (try clear hi); (try clear ho0); obtain ⟨Ao24, co24, eo24⟩ := Kd.R_slice HO182.out; subst eo24; obtain ⟨Ao25, co25, eo25⟩ := Kd.R_slice HO185.out; subst eo25)); go_upto_region 8 with (first | (go_at_call 26; (with_reducible refine (rle_Runs.calls kj3 _ _ l0 t180 _ ?side1 ?side2 A10.out).mono ?_); (case side1 => repeat (first | exact (Kd.C_below HR0.out HB.out) | (with_reducible refine Kd.C_alloc ?_ _) | (with_reducible refine Kd.C_drewN ?_ _) | (with_reducible refine Kd.C_drew ?_))); (case side2 => exact HC0.out); rintro e w16 ⟨v181, rfl, ho0, hb⟩; have n0_ := Aside0.mk (Kd.R_lower ho0 (below_size (by repeat (first | (with_reducible first | exact HB.out | apply below_alloc | apply pw_below_drewN | apply below_drew1) | exact HB.out)))); have n1_ := Aside0.mk (below_step (by repeat (first | (with_reducible first | exact HB.out | apply below_alloc | apply pw_below_drewN | apply below_drew1) | exact HB.out)) hb); clear HB; have HO182 := n0_; have HB := n1_; clear n0_ n1_; (try clear hb); (try clear hb2); (try clear hk); (try clear hi); (try clear ho0)) | (go_at_call 26; (with_reducible refine (rle_Runs.calls kj3 _ _ l1 t183 _ ?side1 ?side2 A11.out).mono ?_); (case side1 => repeat (first | exact (Kd.C_below HR1.out HB.out) | (with_reducible refine Kd.C_alloc ?_ _) | (with_reducible refine Kd.C_drewN ?_ _) | (with_reducible refine Kd.C_drew ?_))); (case side2 => exact HC1.out); rintro e w17 ⟨v184, rfl, ho0, hb⟩; have n0_ := Aside0.mk (Kd.R_elder' (by (with_reducible repeat (first | apply Kd.R_alloc | apply Kd.R_drewN | apply Kd.R_drew)); exact HO182.out) (Kd.R_base ho0) hb); have n1_ := Aside0.mk (Kd.R_lower (Kd.R_new' ho0 (Kd.R_lt (by (with_reducible repeat (first | apply Kd.R_alloc | apply Kd.R_drewN | apply Kd.R_drew)); exact HO182.out))) (below_size (by repeat (first | (with_reducible first | exact HB.out | apply below_alloc | apply pw_below_drewN | apply below_drew1) | exact HB.out)))); have n2_ := Aside0.mk (below_step (by repeat (first | (with_reducible first | exact HB.out | apply below_alloc | apply pw_below_drewN | apply below_drew1) | exact HB.out)) hb); clear HO182; clear HB; have HO182 := n0_; have HO185 := n1_; have HB := n2_; clear n0_ n1_ n2_; (try clear hb); (try clear hb2); (try clear hk); (try clear hi); (try clear ho0)) | ((with_reducible refine gate_dst (N := 24) rfl ?_); (try (refine gate_guard (by rfl) ?_; dsimp only)); refine Kd.R_lit k32 _ 32 ?hg (N := 24) ?hd (xs := ([] : List (S32))) (inner := []) (ok := fun _ => True) (okp := fun _ => True) ?hr ?hp (fun _ hk => hk) trivial (Below.refl _ _) (Nat.le_refl _) (by simp) ?_; (case hd => rfl); (case hg => rfl); (case hr => first | (go_simp; done) | (go_simp; rfl)); (case hp => exact (Reps.none _ _)); intro v187 w18 ho19 hb hg_ hnew_; clear hg_ hnew_; (first | rw [← Ny186.out] at ho19 | (simp only [Int.reduceToNat] at ho19; rw [← Ny186.out] at ho19)); have n0_ := Aside0.mk (Kd.R_below (by (with_reducible repeat (first | apply Kd.R_alloc | apply Kd.R_drewN | apply Kd.R_drew)); exact HO182.out) hb); have n1_ := Aside0.mk (Kd.R_below (by (with_reducible repeat (first | apply Kd.R_alloc | apply Kd.R_drewN | apply Kd.R_drew)); exact HO185.out) hb); have n2_ := Aside0.mk (Kd.R_lower ho19 (below_size (by repeat (first | (with_reducible first | exact HB.out | apply below_alloc | apply pw_below_drewN | apply below_drew1) | exact HB.out)))); have n3_ := Aside0.mk (below_step (by repeat (first | (with_reducible first | exact HB.out | apply below_alloc | apply pw_below_drewN | apply below_drew1) | exact HB.out)) hb); clear HO182; clear HO185; clear HB; have HO182 := n0_; have HO185 := n1_; have HO188 := n2_; have HB := n3_; clear n0_ n1_ n2_ n3_; clear hb ho19) | ((with_reducible refine gate_builtin (b := .append) (xs := #[.tmp 24, .tmp 25]) rfl ?_); (try (refine gate_guard (by rfl) ?_; dsimp only)); at_builtin; refine Kd.R_append_rows k32 (w0 := w) w.heap.size rfl (.tmp 24) (.tmp 25) 22 32 (.agg #[(.int .i64 0), (.int .i64 0), (.string ⟨#[]⟩)]) 32 rfl Try.underlying22 info32 rfl (by decide) (by omega) v187 y186 l0 _ _ _ (fun _ => True) (fun _ => False) rfl rfl ?aO ?aR (fun _ _ h => h) (fun _ h => h.elim) ?aF ?aB ?aS ?aL ?_; (case aR => repeat (first | exact (Kd.C_below HR0.out HB.out) | (with_reducible refine Kd.C_alloc ?_ _) | (with_reducible refine Kd.C_drewN ?_ _) | (with_reducible refine Kd.C_drew ?_))); (case aB => exact (by repeat (first | (with_reducible first | exact HB.out | apply below_alloc | apply pw_below_drewN | apply below_drew1) | exact HB.out))); (case aF => exact (fun _ _ => trivial)); (case aO => exact (by (with_reducible repeat (first | apply Kd.R_alloc | apply Kd.R_drewN | apply Kd.R_drew)); exact HO188.out)); (case aS => exact (below_size (by repeat (first | (with_reducible first | exact HB.out | apply below_alloc | apply pw_below_drewN | apply below_drew1) | exact HB.out)))); (case aL => have := LMc12.out; omega); intro v190 w20 ho hb hg hat; rw [← Ny189.out] at ho; have n0_ := Aside0.mk (Kd.R_over' (by (with_reducible repeat (first | apply Kd.R_alloc | apply Kd.R_drewN | apply Kd.R_drew)); exact HO182.out) (Kd.R_typed (by (with_reducible repeat (first | apply Kd.R_alloc | apply Kd.R_drewN | apply Kd.R_drew)); exact HO188.out)) (by decide) hg); have n1_ := Aside0.mk (Kd.R_over' (by (with_reducible repeat (first | apply Kd.R_alloc | apply Kd.R_drewN | apply Kd.R_drew)); exact HO185.out) (Kd.R_typed (by (with_reducible repeat (first | apply Kd.R_alloc | apply Kd.R_drewN | apply Kd.R_drew)); exact HO188.out)) (by decide) hg); have n2_ := Aside0.mk (hb); have n3_ := Aside0.mk (ho); clear HO182; clear HO185; clear HB; clear HO188; have HO182 := n0_; have HO185 := n1_; have HB := n2_; have HO191 := n3_; clear n0_ n1_ n2_ n3_; clear ho hb hg hat) | ((with_reducible refine gate_builtin (b := .append) (xs := #[.tmp 26, .tmp 27]) rfl ?_); (try (refine gate_guard (by rfl) ?_; dsimp only)); at_builtin; refine Kd.R_append_rows k32 (w0 := w) w.heap.size rfl (.tmp 26) (.tmp 27) 22 32 (.agg #[(.int .i64 0), (.int .i64 0), (.string ⟨#[]⟩)]) 32 rfl Try.underlying22 info32 rfl (by decide) (by omega) v190 y189 l1 _ _ _ (fun _ => True) (fun _ => False) rfl rfl ?aO ?aR (fun _ _ h => h) (fun _ h => h.elim) ?aF ?aB ?aS ?aL ?_; (case aR => repeat (first | exact (Kd.C_below HR1.out HB.out) | (with_reducible refine Kd.C_alloc ?_ _) | (with_reducible refine Kd.C_drewN ?_ _) | (with_reducible refine Kd.C_drew ?_))); (case aB => exact (by repeat (first | (with_reducible first | exact HB.out | apply below_alloc | apply pw_below_drewN | apply below_drew1) | exact HB.out))); (case aF => exact (fun _ _ => trivial)); (case aO => exact (by (with_reducible repeat (first | apply Kd.R_alloc | apply Kd.R_drewN | apply Kd.R_drew)); exact HO191.out)); (case aS => exact (below_size (by repeat (first | (with_reducible first | exact HB.out | apply below_alloc | apply pw_below_drewN | apply below_drew1) | exact HB.out)))); (case aL => have := LMc13.out; omega); intro v193 w21 ho hb hg hat; rw [← Ny192.out] at ho; have n0_ := Aside0.mk (Kd.R_over' (by (with_reducible repeat (first | apply Kd.R_alloc | apply Kd.R_drewN | apply Kd.R_drew)); exact HO182.out) (Kd.R_typed (by (with_reducible repeat (first | apply Kd.R_alloc | apply Kd.R_drewN | apply Kd.R_drew)); exact HO191.out)) (by decide) hg); have n1_ := Aside0.mk (Kd.R_over' (by (with_reducible repeat (first | apply Kd.R_alloc | apply Kd.R_drewN | apply Kd.R_drew)); exact HO185.out) (Kd.R_typed (by (with_reducible repeat (first | apply Kd.R_alloc | apply Kd.R_drewN | apply Kd.R_drew)); exact HO191.out)) (by decide) hg); have n2_ := Aside0.mk (hb); have n3_ := Aside0.mk (ho); clear HO182; clear HO185; clear HB; clear HO191; have HO182 := n0_; have HO185 := n1_; have HB := n2_; have HO194 := n3_; clear n0_ n1_ n2_ n3_; clear ho hb hg hat; obtain ⟨Ao22, co22, eo22⟩ := Kd.R_slice HO194.out; subst eo22) | (go_at_call 26; (with_reducible refine (rle_Runs.calls kj3 _ _ y192 t195 _ ?side1 ?side2 A14.out).mono ?_); (case side1 => repeat (first | exact (Kd.R_reads' HO194.out).2.2 | (with_reducible refine Kd.C_alloc ?_ _) | (with_reducible refine Kd.C_drewN ?_ _) | (with_reducible refine Kd.C_drew ?_))); (case side2 => exact (Kd.R_reads' HO194.out).2.1); rintro e w23 ⟨v196, rfl, ho0, hb⟩; have n0_ := Aside0.mk (Kd.R_elder' (by (with_reducible repeat (first | apply Kd.R_alloc | apply Kd.R_drewN | apply Kd.R_drew)); exact HO182.out) (Kd.R_base ho0) hb); have n1_ := Aside0.mk (Kd.R_elder' (by (with_reducible repeat (first | apply Kd.R_alloc | apply Kd.R_drewN | apply Kd.R_drew)); exact HO185.out) (Kd.R_base ho0) hb); have n2_ := Aside0.mk (Kd.R_below (by (with_reducible repeat (first | apply Kd.R_alloc | apply Kd.R_drewN | apply Kd.R_drew)); exact HO194.out) hb); have n3_ := Aside0.mk (Kd.R_lower (Kd.R_new' (Kd.R_new' ho0 (Kd.R_lt (by (with_reducible repeat (first | apply Kd.R_alloc | apply Kd.R_drewN | apply Kd.R_drew)); exact HO182.out))) (Kd.R_lt (by (with_reducible repeat (first | apply Kd.R_alloc | apply Kd.R_drewN | apply Kd.R_drew)); exact HO185.out))) (below_size (by repeat (first | (with_reducible first | exact HB.out | apply below_alloc | apply pw_below_drewN | apply below_drew1) | exact HB.out)))); have n4_ := Aside0.mk (below_step (by repeat (first | (with_reducible first | exact HB.out | apply below_alloc | apply pw_below_drewN | apply below_drew1) | exact HB.out)) hb); clear HO182; clear HO185; clear HO194; clear HB; have HO182 := n0_; have HO185 := n1_; have HO194 := n2_; have HO197 := n3_; have HB := n4_; clear n0_ n1_ n2_ n3_ n4_; (try clear hb); (try clear hb2); (try clear hk); (try clear hi); (try clear ho0); obtain ⟨Ao24, co24, eo24⟩ := Kd.R_slice HO182.out; subst eo24; obtain ⟨Ao25, co25, eo25⟩ := Kd.R_slice HO185.out; subst eo25)))
            (try simp only [Act.put, List.setIfInBounds_toArray, List.set_cons_zero, List.set_cons_succ])
            go_cut [54] (fun v54 wc => ∃ (kq : Nat) (x54_14 : Bool), v54 = .bool x54_14 ∧ Aside0 (law08_RleJoins.j1 kq l0 t177 t180 t195 (wrap64 ((t180.length : Int) + (t183.length : Int))) x54_14 = some r) ∧ Aside0 (kq ≤ kj3) ∧ Aside0 (Kd.R k49 49 wc w.heap.size (fun k_ => some k_ ≠ (v196 : Value).ownBlock) (.slice Ao24 t180.length co24) t180) ∧ Aside0 (Kd.R k49 49 wc w.heap.size (fun k_ => some k_ ≠ ((.slice Ao24 t180.length co24) : Value).ownBlock) v196 t195) ∧ Aside0 (Below w.heap.size w wc))
            case first =>
              have H := HC15.out
              clear HC15
              by_cases c26 : (l0.length : Int) > 0
              · rw [if_pos c26] at H
                have c26b0 : decide (0 < (l0.length : Int)) = true := decide_eq_true c26
                have c26b1 : decide (0 < l0.length) = true := decide_eq_true (by omega)
                clear c26
                (first | rw [c26b0] | (simp only [i64_w, i32_w]; rw [c26b0]) | skip)
                by_cases c27 : (l1.length : Int) > 0
                · rw [if_pos c27] at H
                  have c27b0 : decide (0 < (l1.length : Int)) = true := decide_eq_true c27
                  have c27b1 : decide (0 < l1.length) = true := decide_eq_true (by omega)
                  clear c27
                  obtain ⟨ji28, hji28⟩ : ∃ j_ : Int, (wrap64 ((l0.length : Int) - 1)) = j_ := ⟨_, rfl⟩
                  replace H : (if 0 ≤ (ji28) then (if (ji28) < (l0.length : Int) then (if 0 < (l1.length : Int) then (law08_RleJoins.j1 kj3 l0 t177 t180 t195 (wrap64 ((t180.length : Int) + (t183.length : Int))) (((rd_T32 l0 (ji28)).f0) == ((rd_T32 l1 0).f0) && (((rd_T32 l0 (ji28)).f1) == ((rd_T32 l1 0).f1) && ((((rd_T32 l0 (ji28)).f2).toList) == (((rd_T32 l1 0).f2).toList))))) else (none)) else (none)) else (none)) = some r := by first | (rw [hji28] at H; exact H) | (simp only [hji28] at H ⊢; exact H)
                  have hji28w : (IntKind.i64.wrap ((l0.length : Int) - 1)) = ji28 := (i64_w _).trans hji28
                  by_cases c29 : 0 ≤ (ji28)
                  · rw [if_pos c29] at H
                    have c29b0 : decide (0 ≤ (ji28)) = true := decide_eq_true c29
                    clear c29
                    by_cases c30 : (ji28) < (l0.length : Int)
                    · rw [if_pos c30] at H
                      have c30b0 : decide ((ji28) < (l0.length : Int)) = true := decide_eq_true c30
                      clear c30
                      by_cases c31 : 0 < (l1.length : Int)
                      · rw [if_pos c31] at H
                        have c31b0 : decide (0 < (l1.length : Int)) = true := decide_eq_true c31
                        have c31b1 : decide (0 < l1.length) = true := decide_eq_true (by omega)
                        clear c31
                        have H' := Aside0.mk H
                        clear H
                        have p198 : 0 ≤ ((ji28) : Int) := of_decide_eq_true (by first | (with_reducible assumption) | assumption)
                        have q198 : (ji28) < (l0.length : Int) := of_decide_eq_true (by first | (with_reducible assumption) | assumption)
                        obtain ⟨ad198, e198, hx198_0, hx198_1, hx198_2⟩ := at_T32 HR0.out (ji28) p198 q198
                        cases e198
                        replace hx198_0 := (HB.out.cell (World.block_lt_of_cell? w _ hx198_0)).trans hx198_0
                        replace hx198_1 := (HB.out.cell (World.block_lt_of_cell? w _ hx198_1)).trans hx198_1
                        replace hx198_2 := (HB.out.cell (World.block_lt_of_cell? w _ hx198_2)).trans hx198_2
                        replace p198 := eq_true p198
                        replace q198 := eq_true q198
                        have p199 : 0 ≤ (0 : Int) := (by omega)
                        have q199 : 0 < (l1.length : Int) := of_decide_eq_true (by first | (with_reducible assumption) | assumption)
                        obtain ⟨ad199, e199, hx199_0, hx199_1, hx199_2⟩ := at_T32 HR1.out 0 p199 q199
                        cases e199
                        have qi199 : (0 < l1.length) = True := eq_true (by omega)
                        (try rw [show ((0 : Int)).toNat = 0 from rfl] at hx199_0)
                        (try rw [show 0 * 3 = 0 from rfl] at hx199_0)
                        (try rw [Addr.add_zero'] at hx199_0)
                        (try rw [show ((0 : Int)).toNat = 0 from rfl] at hx199_1)
                        (try rw [show 0 * 3 = 0 from rfl] at hx199_1)
                        (try rw [Addr.add_zero'] at hx199_1)
                        (try rw [show ((0 : Int)).toNat = 0 from rfl] at hx199_2)
                        (try rw [show 0 * 3 = 0 from rfl] at hx199_2)
                        (try rw [Addr.add_zero'] at hx199_2)
                        replace hx199_0 := (HB.out.cell (World.block_lt_of_cell? w _ hx199_0)).trans hx199_0
                        replace hx199_1 := (HB.out.cell (World.block_lt_of_cell? w _ hx199_1)).trans hx199_1
                        replace hx199_2 := (HB.out.cell (World.block_lt_of_cell? w _ hx199_2)).trans hx199_2
                        replace p199 := eq_true p199
                        replace q199 := eq_true q199
                        go_wp2
                        repeat (go_quiet (fail); try go_wp2)
                        go_meet
                        case rel => exact ⟨_, ((((rd_T32 l0 (ji28)).f0) == ((rd_T32 l1 0).f0) && (((rd_T32 l0 (ji28)).f1) == ((rd_T32 l1 0).f1) && ((((rd_T32 l0 (ji28)).f2).toList) == (((rd_T32 l1 0).f2).toList))))), (by first | rfl | (simp; done) | (simp only [← hji28] <;> (first | rfl | simp)) | (simp [*]; done)), H', ⟨by have := HJ3.out; first | omega | exact Nat.le_refl _⟩, ⟨by (with_reducible repeat (first | apply Kd.R_alloc | apply Kd.R_drewN | apply Kd.R_drew)); exact Kd.R_mono HO182.out (fun _ hk => hk.2)⟩, ⟨by (with_reducible repeat (first | apply Kd.R_alloc | apply Kd.R_drewN | apply Kd.R_drew)); exact Kd.R_mono HO197.out (fun _ hk => hk.1.2)⟩, ⟨by repeat (first | (with_reducible first | exact HB.out | apply below_alloc | apply pw_below_drewN | apply below_drew1) | exact HB.out)⟩⟩
                      · rw [if_neg c31] at H
                        exact absurd H (by simp)
                    · rw [if_neg c30] at H
                      exact absurd H (by simp)
                  · rw [if_neg c29] at H
                    exact absurd H (by simp)
                · rw [if_neg c27] at H
                  have c27b0 : decide (0 < (l1.length : Int)) = false := decide_eq_false c27
                  have c27b1 : decide (0 < l1.length) = false := decide_eq_false (by omega)
                  clear c27
                  have H' := Aside0.mk H
                  clear H
                  go_wp2
                  repeat (go_quiet (fail); try go_wp2)
                  go_meet
                  case rel => exact ⟨_, (false), (by first | rfl | (simp; done) | (simp [*]; done)), H', ⟨by have := HJ3.out; first | omega | exact Nat.le_refl _⟩, ⟨by (with_reducible repeat (first | apply Kd.R_alloc | apply Kd.R_drewN | apply Kd.R_drew)); exact Kd.R_mono HO182.out (fun _ hk => hk.2)⟩, ⟨by (with_reducible repeat (first | apply Kd.R_alloc | apply Kd.R_drewN | apply Kd.R_drew)); exact Kd.R_mono HO197.out (fun _ hk => hk.1.2)⟩, ⟨by repeat (first | (with_reducible first | exact HB.out | apply below_alloc | apply pw_below_drewN | apply below_drew1) | exact HB.out)⟩⟩
              · rw [if_neg c26] at H
                have c26b0 : decide (0 < (l0.length : Int)) = false := decide_eq_false c26
                have c26b1 : decide (0 < l0.length) = false := decide_eq_false (by omega)
                clear c26
                (first | rw [c26b0] | (simp only [i64_w, i32_w]; rw [c26b0]) | skip)
                have H' := Aside0.mk H
                clear H
                go_wp2
                repeat (go_quiet (fail); try go_wp2)
                go_meet
                case rel => exact ⟨_, (false), (by first | rfl | (simp; done) | (simp [*]; done)), H', ⟨by have := HJ3.out; first | omega | exact Nat.le_refl _⟩, ⟨by (with_reducible repeat (first | apply Kd.R_alloc | apply Kd.R_drewN | apply Kd.R_drew)); exact Kd.R_mono HO182.out (fun _ hk => hk.2)⟩, ⟨by (with_reducible repeat (first | apply Kd.R_alloc | apply Kd.R_drewN | apply Kd.R_drew)); exact Kd.R_mono HO197.out (fun _ hk => hk.1.2)⟩, ⟨by repeat (first | (with_reducible first | exact HB.out | apply below_alloc | apply pw_below_drewN | apply below_drew1) | exact HB.out)⟩⟩
            case rest =>
              clear HC15
              try clear c1
              try clear p1
              try clear q1
              try clear hx1
              try clear qi1
              try clear c2
              try clear p2
              try clear c3
              try clear p6
              try clear c7
              try clear c9
              try clear c12
              try clear c13
              try clear p19
              try clear q19
              try clear hx19
              try clear qi19
              try clear c26
              try clear c26b0
              try clear c26b1
              try clear c27
              try clear c27b0
              try clear c27b1
              try clear c29
              try clear c29b0
              try clear c30
              try clear c30b0
              try clear c31
              try clear c31b0
              try clear c31b1
              try clear hx198_0
              try clear hx198_1
              try clear hx198_2
              try clear hx199_0
              try clear hx199_1
              try clear hx199_2
              try clear p198
              try clear p199
              try clear p2
              try clear q198
              try clear q199
              obtain ⟨kq, x54_14, rfl, HA, HJ14, HO_6, HO_8, HB⟩ := hcut
              cases kq with
              | zero => exact absurd HA.out (by simp [law08_RleJoins.j1])
              | succ kj14 =>
                have H := HA.out
                clear HA
                simp only [law08_RleJoins.j1] at H
                by_cases c32 : x54_14 = true
                · subst c32
                  have H1 : (if (t195.length : Int) = (wrap64 ((wrap64 ((t180.length : Int) + (t183.length : Int))) - 1)) then (if (t180.length : Int) > (l0.length : Int) then (some false) else (if t177 = true then (if (t180.length : Int) = 0 then (some true) else (if 0 < (t195.length : Int) then (if 0 < (t180.length : Int) then (if (((rd_T49 t195 0).f1.f0) == ((rd_T49 t180 0).f1.f0) && (((rd_T49 t195 0).f1.f1) == ((rd_T49 t180 0).f1.f1) && ((((rd_T49 t195 0).f1.f2).toList) == (((rd_T49 t180 0).f1.f2).toList)))) = true then (some (decide (((rd_T49 t195 0).f0) ≥ ((rd_T49 t180 0).f0)))) else (some false)) else (none)) else (none))) else (some false))) else (some false)) = some r := by rw [if_pos rfl] at H; exact H
                  clear H
                  have H := H1
                  clear H1
                  by_cases c33 : (t195.length : Int) = (wrap64 ((wrap64 ((t180.length : Int) + (t183.length : Int))) - 1))
                  · rw [if_pos c33] at H
                    have c33b0 : ((t195.length : Int) == (wrap64 ((wrap64 ((t180.length : Int) + (t183.length : Int))) - 1))) = true := beq_iff_eq.mpr c33
                    have c33b1 : ((t195.length : Int) != (wrap64 ((wrap64 ((t180.length : Int) + (t183.length : Int))) - 1))) = false := bne_eq_false_iff_eq.mpr c33
                    clear c33
                    by_cases c34 : (t180.length : Int) > (l0.length : Int)
                    · rw [if_pos c34] at H
                      have c34b0 : decide ((l0.length : Int) < (t180.length : Int)) = true := decide_eq_true c34
                      have c34b1 : decide (l0.length < t180.length) = true := decide_eq_true (Int.ofNat_lt.mp c34)
                      clear c34
                      exact absurd ((Option.some.inj H).trans hr_.out) (by decide)
                    · rw [if_neg c34] at H
                      have c34b0 : decide ((l0.length : Int) < (t180.length : Int)) = false := decide_eq_false c34
                      have c34b1 : decide (l0.length < t180.length) = false := decide_eq_false (fun h => c34 (Int.ofNat_lt.mpr h))
                      clear c34
                      by_cases c35 : t177 = true
                      · subst c35
                        have H1 : (if (t180.length : Int) = 0 then (some true) else (if 0 < (t195.length : Int) then (if 0 < (t180.length : Int) then (if (((rd_T49 t195 0).f1.f0) == ((rd_T49 t180 0).f1.f0) && (((rd_T49 t195 0).f1.f1) == ((rd_T49 t180 0).f1.f1) && ((((rd_T49 t195 0).f1.f2).toList) == (((rd_T49 t180 0).f1.f2).toList)))) = true then (some (decide (((rd_T49 t195 0).f0) ≥ ((rd_T49 t180 0).f0)))) else (some false)) else (none)) else (none))) = some r := by rw [if_pos rfl] at H; exact H
                        clear H
                        have H := H1
                        clear H1
                        by_cases c36 : (t180.length : Int) = 0
                        · rw [if_pos c36] at H
                          have c36b0 : ((t180.length : Int) == 0) = true := beq_iff_eq.mpr c36
                          have c36b1 : ((t180.length : Int) != 0) = false := bne_eq_false_iff_eq.mpr c36
                          clear c36
                          obtain rfl := Option.some.inj H
                          obtain ⟨Ao37, co37, eo37⟩ := Kd.R_slice HO_8.out
                          subst eo37
                          go_wp2
                          repeat (go_quiet (fail); try go_wp2)
                          go_ret
                          exact ⟨by first | rfl | (simp [errW_none, errW_some] <;> rfl) | (simp [*, errW_none, errW_some] <;> rfl), by repeat (first | (with_reducible first | exact HB.out | apply below_alloc | apply pw_below_drewN | apply below_drew1) | exact HB.out)⟩
                        · rw [if_neg c36] at H
                          have c36b0 : ((t180.length : Int) == 0) = false := beq_eq_false_iff_ne.mpr c36
                          have c36b1 : ((t180.length : Int) != 0) = true := bne_iff_ne.mpr c36
                          have c36b2 : ¬ (t180 = []) := fun h_ => c36 (by rw [h_]; rfl)
                          by_cases c38 : 0 < (t195.length : Int)
                          · rw [if_pos c38] at H
                            have c38b0 : decide (0 < (t195.length : Int)) = true := decide_eq_true c38
                            have c38b1 : decide (0 < t195.length) = true := decide_eq_true (by omega)
                            clear c38
                            by_cases c39 : 0 < (t180.length : Int)
                            · rw [if_pos c39] at H
                              have c39b0 : decide (0 < (t180.length : Int)) = true := decide_eq_true c39
                              have c39b1 : decide (0 < t180.length) = true := decide_eq_true (by omega)
                              clear c39
                              by_cases c40 : (((rd_T49 t195 0).f1.f0) == ((rd_T49 t180 0).f1.f0) && (((rd_T49 t195 0).f1.f1) == ((rd_T49 t180 0).f1.f1) && ((((rd_T49 t195 0).f1.f2).toList) == (((rd_T49 t180 0).f1.f2).toList)))) = true
                              · rw [if_pos c40] at H
                                have c40b0 : (((rd_T49 t195 0).f1.f0) == ((rd_T49 t180 0).f1.f0) && (((rd_T49 t195 0).f1.f1) == ((rd_T49 t180 0).f1.f1) && ((((rd_T49 t195 0).f1.f2).toList) == (((rd_T49 t180 0).f1.f2).toList)))) = true := c40
                                (try (have c40b1 : decide (((rd_T49 t195 0).f1.f0) = ((rd_T49 t180 0).f1.f0) && (((rd_T49 t195 0).f1.f1) == ((rd_T49 t180 0).f1.f1) && ((((rd_T49 t195 0).f1.f2).toList) == (((rd_T49 t180 0).f1.f2).toList)))) = true := by simpa using c40))
                                (try (have c40b2 : (((rd_T49 t195 0).f1.f0) == ((rd_T49 t180 0).f1.f0) && (((rd_T49 t195 0).f1.f1) == ((rd_T49 t180 0).f1.f1) && ((((rd_T49 t195 0).f1.f2).toList) == (((rd_T49 t180 0).f1.f2).toList)))) = true := by simpa using c40))
                                clear c40
                                obtain rfl := Option.some.inj H
                                obtain ⟨Ao41, co41, eo41⟩ := Kd.R_slice HO_8.out
                                subst eo41
                                have p200 : 0 ≤ (0 : Int) := (by omega)
                                have q200 : 0 < (t195.length : Int) := of_decide_eq_true (by first | (with_reducible assumption) | assumption)
                                obtain ⟨ad200, e200, hx200_0, hx200_1, hx200_2, hx200_3⟩ := at_T49 (Kd.R_reads' HO_8.out).2.2 0 p200 q200
                                cases e200
                                have qi200 : (0 < t195.length) = True := eq_true (by omega)
                                (try rw [show ((0 : Int)).toNat = 0 from rfl] at hx200_0)
                                (try rw [show 0 * 4 = 0 from rfl] at hx200_0)
                                (try rw [Addr.add_zero'] at hx200_0)
                                (try rw [show ((0 : Int)).toNat = 0 from rfl] at hx200_1)
                                (try rw [show 0 * 4 = 0 from rfl] at hx200_1)
                                (try rw [Addr.add_zero'] at hx200_1)
                                (try rw [show ((0 : Int)).toNat = 0 from rfl] at hx200_2)
                                (try rw [show 0 * 4 = 0 from rfl] at hx200_2)
                                (try rw [Addr.add_zero'] at hx200_2)
                                (try rw [show ((0 : Int)).toNat = 0 from rfl] at hx200_3)
                                (try rw [show 0 * 4 = 0 from rfl] at hx200_3)
                                (try rw [Addr.add_zero'] at hx200_3)
                                replace p200 := eq_true p200
                                replace q200 := eq_true q200
                                have p201 : 0 ≤ (0 : Int) := (by omega)
                                have q201 : 0 < (t180.length : Int) := of_decide_eq_true (by first | (with_reducible assumption) | assumption)
                                obtain ⟨ad201, e201, hx201_0, hx201_1, hx201_2, hx201_3⟩ := at_T49 (Kd.R_reads' HO_6.out).2.2 0 p201 q201
                                cases e201
                                have qi201 : (0 < t180.length) = True := eq_true (by omega)
                                (try rw [show ((0 : Int)).toNat = 0 from rfl] at hx201_0)
                                (try rw [show 0 * 4 = 0 from rfl] at hx201_0)
                                (try rw [Addr.add_zero'] at hx201_0)
                                (try rw [show ((0 : Int)).toNat = 0 from rfl] at hx201_1)
                                (try rw [show 0 * 4 = 0 from rfl] at hx201_1)
                                (try rw [Addr.add_zero'] at hx201_1)
                                (try rw [show ((0 : Int)).toNat = 0 from rfl] at hx201_2)
                                (try rw [show 0 * 4 = 0 from rfl] at hx201_2)
                                (try rw [Addr.add_zero'] at hx201_2)
                                (try rw [show ((0 : Int)).toNat = 0 from rfl] at hx201_3)
                                (try rw [show 0 * 4 = 0 from rfl] at hx201_3)
                                (try rw [Addr.add_zero'] at hx201_3)
                                replace p201 := eq_true p201
                                replace q201 := eq_true q201
                                have p202 : 0 ≤ (0 : Int) := (by omega)
                                have q202 : 0 < (t195.length : Int) := of_decide_eq_true (by first | (with_reducible assumption) | assumption)
                                obtain ⟨ad202, e202, hx202_0, hx202_1, hx202_2, hx202_3⟩ := at_T49 (Kd.R_reads' HO_8.out).2.2 0 p202 q202
                                obtain rfl : ad200 = ad202 := (by injection e202)
                                have qi202 : (0 < t195.length) = True := eq_true (by omega)
                                (try rw [show ((0 : Int)).toNat = 0 from rfl] at hx202_0)
                                (try rw [show 0 * 4 = 0 from rfl] at hx202_0)
                                (try rw [Addr.add_zero'] at hx202_0)
                                (try rw [show ((0 : Int)).toNat = 0 from rfl] at hx202_1)
                                (try rw [show 0 * 4 = 0 from rfl] at hx202_1)
                                (try rw [Addr.add_zero'] at hx202_1)
                                (try rw [show ((0 : Int)).toNat = 0 from rfl] at hx202_2)
                                (try rw [show 0 * 4 = 0 from rfl] at hx202_2)
                                (try rw [Addr.add_zero'] at hx202_2)
                                (try rw [show ((0 : Int)).toNat = 0 from rfl] at hx202_3)
                                (try rw [show 0 * 4 = 0 from rfl] at hx202_3)
                                (try rw [Addr.add_zero'] at hx202_3)
                                replace p202 := eq_true p202
                                replace q202 := eq_true q202
                                have p203 : 0 ≤ (0 : Int) := (by omega)
                                have q203 : 0 < (t180.length : Int) := of_decide_eq_true (by first | (with_reducible assumption) | assumption)
                                obtain ⟨ad203, e203, hx203_0, hx203_1, hx203_2, hx203_3⟩ := at_T49 (Kd.R_reads' HO_6.out).2.2 0 p203 q203
                                obtain rfl : ad201 = ad203 := (by injection e203)
                                have qi203 : (0 < t180.length) = True := eq_true (by omega)
                                (try rw [show ((0 : Int)).toNat = 0 from rfl] at hx203_0)
                                (try rw [show 0 * 4 = 0 from rfl] at hx203_0)
                                (try rw [Addr.add_zero'] at hx203_0)
                                (try rw [show ((0 : Int)).toNat = 0 from rfl] at hx203_1)
                                (try rw [show 0 * 4 = 0 from rfl] at hx203_1)
                                (try rw [Addr.add_zero'] at hx203_1)
                                (try rw [show ((0 : Int)).toNat = 0 from rfl] at hx203_2)
                                (try rw [show 0 * 4 = 0 from rfl] at hx203_2)
                                (try rw [Addr.add_zero'] at hx203_2)
                                (try rw [show ((0 : Int)).toNat = 0 from rfl] at hx203_3)
                                (try rw [show 0 * 4 = 0 from rfl] at hx203_3)
                                (try rw [Addr.add_zero'] at hx203_3)
                                replace p203 := eq_true p203
                                replace q203 := eq_true q203
                                go_wp2
                                repeat (go_quiet (fail); try go_wp2)
                                go_ret
                                exact ⟨by first | rfl | (simp [errW_none, errW_some] <;> rfl) | (simp [*, errW_none, errW_some] <;> rfl), by repeat (first | (with_reducible first | exact HB.out | apply below_alloc | apply pw_below_drewN | apply below_drew1) | exact HB.out)⟩
                              · rw [if_neg c40] at H
                                have c40b0 : (((rd_T49 t195 0).f1.f0) == ((rd_T49 t180 0).f1.f0) && (((rd_T49 t195 0).f1.f1) == ((rd_T49 t180 0).f1.f1) && ((((rd_T49 t195 0).f1.f2).toList) == (((rd_T49 t180 0).f1.f2).toList)))) = false := by simpa using c40
                                (try (have c40b1 : decide (((rd_T49 t195 0).f1.f0) = ((rd_T49 t180 0).f1.f0) && (((rd_T49 t195 0).f1.f1) == ((rd_T49 t180 0).f1.f1) && ((((rd_T49 t195 0).f1.f2).toList) == (((rd_T49 t180 0).f1.f2).toList)))) = false := by simpa using c40))
                                (try (have c40b2 : (((rd_T49 t195 0).f1.f0) == ((rd_T49 t180 0).f1.f0) && (((rd_T49 t195 0).f1.f1) == ((rd_T49 t180 0).f1.f1) && ((((rd_T49 t195 0).f1.f2).toList) == (((rd_T49 t180 0).f1.f2).toList)))) = false := by simpa using c40))
                                (try (have c40b3 : ¬ (((rd_T49 t195 0).f1.f0) = ((rd_T49 t180 0).f1.f0) && (((rd_T49 t195 0).f1.f1) == ((rd_T49 t180 0).f1.f1) && ((((rd_T49 t195 0).f1.f2).toList) == (((rd_T49 t180 0).f1.f2).toList)))) := by simpa using c40))
                                clear c40
                                exact absurd ((Option.some.inj H).trans hr_.out) (by decide)
                            · rw [if_neg c39] at H
                              exact absurd H (by simp)
                          · rw [if_neg c38] at H
                            exact absurd H (by simp)
                      · replace c35 := Bool.eq_false_iff.mpr c35
                        subst c35
                        have H1 : (some false) = some r := by rw [if_neg (show ¬ (false = true) by decide)] at H; exact H
                        clear H
                        have H := H1
                        clear H1
                        exact absurd ((Option.some.inj H).trans hr_.out) (by decide)
                  · rw [if_neg c33] at H
                    have c33b0 : ((t195.length : Int) == (wrap64 ((wrap64 ((t180.length : Int) + (t183.length : Int))) - 1))) = false := beq_eq_false_iff_ne.mpr c33
                    have c33b1 : ((t195.length : Int) != (wrap64 ((wrap64 ((t180.length : Int) + (t183.length : Int))) - 1))) = true := bne_iff_ne.mpr c33
                    exact absurd ((Option.some.inj H).trans hr_.out) (by decide)
                · replace c32 := Bool.eq_false_iff.mpr c32
                  subst c32
                  have H1 : (if (t195.length : Int) = (wrap64 ((t180.length : Int) + (t183.length : Int))) then (if (t180.length : Int) > (l0.length : Int) then (some false) else (if t177 = true then (if (t180.length : Int) = 0 then (some true) else (if 0 < (t195.length : Int) then (if 0 < (t180.length : Int) then (if (((rd_T49 t195 0).f1.f0) == ((rd_T49 t180 0).f1.f0) && (((rd_T49 t195 0).f1.f1) == ((rd_T49 t180 0).f1.f1) && ((((rd_T49 t195 0).f1.f2).toList) == (((rd_T49 t180 0).f1.f2).toList)))) = true then (some (decide (((rd_T49 t195 0).f0) ≥ ((rd_T49 t180 0).f0)))) else (some false)) else (none)) else (none))) else (some false))) else (some false)) = some r := by rw [if_neg (show ¬ (false = true) by decide)] at H; exact H
                  clear H
                  have H := H1
                  clear H1
                  by_cases c42 : (t195.length : Int) = (wrap64 ((t180.length : Int) + (t183.length : Int)))
                  · rw [if_pos c42] at H
                    have c42b0 : ((t195.length : Int) == (wrap64 ((t180.length : Int) + (t183.length : Int)))) = true := beq_iff_eq.mpr c42
                    have c42b1 : ((t195.length : Int) != (wrap64 ((t180.length : Int) + (t183.length : Int)))) = false := bne_eq_false_iff_eq.mpr c42
                    clear c42
                    by_cases c43 : (t180.length : Int) > (l0.length : Int)
                    · rw [if_pos c43] at H
                      have c43b0 : decide ((l0.length : Int) < (t180.length : Int)) = true := decide_eq_true c43
                      have c43b1 : decide (l0.length < t180.length) = true := decide_eq_true (Int.ofNat_lt.mp c43)
                      clear c43
                      exact absurd ((Option.some.inj H).trans hr_.out) (by decide)
                    · rw [if_neg c43] at H
                      have c43b0 : decide ((l0.length : Int) < (t180.length : Int)) = false := decide_eq_false c43
                      have c43b1 : decide (l0.length < t180.length) = false := decide_eq_false (fun h => c43 (Int.ofNat_lt.mpr h))
                      clear c43
                      by_cases c44 : t177 = true
                      · subst c44
                        have H1 : (if (t180.length : Int) = 0 then (some true) else (if 0 < (t195.length : Int) then (if 0 < (t180.length : Int) then (if (((rd_T49 t195 0).f1.f0) == ((rd_T49 t180 0).f1.f0) && (((rd_T49 t195 0).f1.f1) == ((rd_T49 t180 0).f1.f1) && ((((rd_T49 t195 0).f1.f2).toList) == (((rd_T49 t180 0).f1.f2).toList)))) = true then (some (decide (((rd_T49 t195 0).f0) ≥ ((rd_T49 t180 0).f0)))) else (some false)) else (none)) else (none))) = some r := by rw [if_pos rfl] at H; exact H
                        clear H
                        have H := H1
                        clear H1
                        by_cases c45 : (t180.length : Int) = 0
                        · rw [if_pos c45] at H
                          have c45b0 : ((t180.length : Int) == 0) = true := beq_iff_eq.mpr c45
                          have c45b1 : ((t180.length : Int) != 0) = false := bne_eq_false_iff_eq.mpr c45
                          clear c45
                          obtain rfl := Option.some.inj H
                          obtain ⟨Ao46, co46, eo46⟩ := Kd.R_slice HO_8.out
                          subst eo46
                          go_wp2
                          repeat (go_quiet (fail); try go_wp2)
                          go_ret
                          exact ⟨by first | rfl | (simp [errW_none, errW_some] <;> rfl) | (simp [*, errW_none, errW_some] <;> rfl), by repeat (first | (with_reducible first | exact HB.out | apply below_alloc | apply pw_below_drewN | apply below_drew1) | exact HB.out)⟩
                        · rw [if_neg c45] at H
                          have c45b0 : ((t180.length : Int) == 0) = false := beq_eq_false_iff_ne.mpr c45
                          have c45b1 : ((t180.length : Int) != 0) = true := bne_iff_ne.mpr c45
                          have c45b2 : ¬ (t180 = []) := fun h_ => c45 (by rw [h_]; rfl)
                          by_cases c47 : 0 < (t195.length : Int)
                          · rw [if_pos c47] at H
                            have c47b0 : decide (0 < (t195.length : Int)) = true := decide_eq_true c47
                            have c47b1 : decide (0 < t195.length) = true := decide_eq_true (by omega)
                            clear c47
                            by_cases c48 : 0 < (t180.length : Int)
                            · rw [if_pos c48] at H
                              have c48b0 : decide (0 < (t180.length : Int)) = true := decide_eq_true c48
                              have c48b1 : decide (0 < t180.length) = true := decide_eq_true (by omega)
                              clear c48
                              by_cases c49 : (((rd_T49 t195 0).f1.f0) == ((rd_T49 t180 0).f1.f0) && (((rd_T49 t195 0).f1.f1) == ((rd_T49 t180 0).f1.f1) && ((((rd_T49 t195 0).f1.f2).toList) == (((rd_T49 t180 0).f1.f2).toList)))) = true
                              · rw [if_pos c49] at H
                                have c49b0 : (((rd_T49 t195 0).f1.f0) == ((rd_T49 t180 0).f1.f0) && (((rd_T49 t195 0).f1.f1) == ((rd_T49 t180 0).f1.f1) && ((((rd_T49 t195 0).f1.f2).toList) == (((rd_T49 t180 0).f1.f2).toList)))) = true := c49
                                (try (have c49b1 : decide (((rd_T49 t195 0).f1.f0) = ((rd_T49 t180 0).f1.f0) && (((rd_T49 t195 0).f1.f1) == ((rd_T49 t180 0).f1.f1) && ((((rd_T49 t195 0).f1.f2).toList) == (((rd_T49 t180 0).f1.f2).toList)))) = true := by simpa using c49))
                                (try (have c49b2 : (((rd_T49 t195 0).f1.f0) == ((rd_T49 t180 0).f1.f0) && (((rd_T49 t195 0).f1.f1) == ((rd_T49 t180 0).f1.f1) && ((((rd_T49 t195 0).f1.f2).toList) == (((rd_T49 t180 0).f1.f2).toList)))) = true := by simpa using c49))
                                clear c49
                                obtain rfl := Option.some.inj H
                                obtain ⟨Ao50, co50, eo50⟩ := Kd.R_slice HO_8.out
                                subst eo50
                                have p204 : 0 ≤ (0 : Int) := (by omega)
                                have q204 : 0 < (t195.length : Int) := of_decide_eq_true (by first | (with_reducible assumption) | assumption)
                                obtain ⟨ad204, e204, hx204_0, hx204_1, hx204_2, hx204_3⟩ := at_T49 (Kd.R_reads' HO_8.out).2.2 0 p204 q204
                                cases e204
                                have qi204 : (0 < t195.length) = True := eq_true (by omega)
                                (try rw [show ((0 : Int)).toNat = 0 from rfl] at hx204_0)
                                (try rw [show 0 * 4 = 0 from rfl] at hx204_0)
                                (try rw [Addr.add_zero'] at hx204_0)
                                (try rw [show ((0 : Int)).toNat = 0 from rfl] at hx204_1)
                                (try rw [show 0 * 4 = 0 from rfl] at hx204_1)
                                (try rw [Addr.add_zero'] at hx204_1)
                                (try rw [show ((0 : Int)).toNat = 0 from rfl] at hx204_2)
                                (try rw [show 0 * 4 = 0 from rfl] at hx204_2)
                                (try rw [Addr.add_zero'] at hx204_2)
                                (try rw [show ((0 : Int)).toNat = 0 from rfl] at hx204_3)
                                (try rw [show 0 * 4 = 0 from rfl] at hx204_3)
                                (try rw [Addr.add_zero'] at hx204_3)
                                replace p204 := eq_true p204
                                replace q204 := eq_true q204
                                have p205 : 0 ≤ (0 : Int) := (by omega)
                                have q205 : 0 < (t180.length : Int) := of_decide_eq_true (by first | (with_reducible assumption) | assumption)
                                obtain ⟨ad205, e205, hx205_0, hx205_1, hx205_2, hx205_3⟩ := at_T49 (Kd.R_reads' HO_6.out).2.2 0 p205 q205
                                cases e205
                                have qi205 : (0 < t180.length) = True := eq_true (by omega)
                                (try rw [show ((0 : Int)).toNat = 0 from rfl] at hx205_0)
                                (try rw [show 0 * 4 = 0 from rfl] at hx205_0)
                                (try rw [Addr.add_zero'] at hx205_0)
                                (try rw [show ((0 : Int)).toNat = 0 from rfl] at hx205_1)
                                (try rw [show 0 * 4 = 0 from rfl] at hx205_1)
                                (try rw [Addr.add_zero'] at hx205_1)
                                (try rw [show ((0 : Int)).toNat = 0 from rfl] at hx205_2)
                                (try rw [show 0 * 4 = 0 from rfl] at hx205_2)
                                (try rw [Addr.add_zero'] at hx205_2)
                                (try rw [show ((0 : Int)).toNat = 0 from rfl] at hx205_3)
                                (try rw [show 0 * 4 = 0 from rfl] at hx205_3)
                                (try rw [Addr.add_zero'] at hx205_3)
                                replace p205 := eq_true p205
                                replace q205 := eq_true q205
                                have p206 : 0 ≤ (0 : Int) := (by omega)
                                have q206 : 0 < (t195.length : Int) := of_decide_eq_true (by first | (with_reducible assumption) | assumption)
                                obtain ⟨ad206, e206, hx206_0, hx206_1, hx206_2, hx206_3⟩ := at_T49 (Kd.R_reads' HO_8.out).2.2 0 p206 q206
                                obtain rfl : ad204 = ad206 := (by injection e206)
                                have qi206 : (0 < t195.length) = True := eq_true (by omega)
                                (try rw [show ((0 : Int)).toNat = 0 from rfl] at hx206_0)
                                (try rw [show 0 * 4 = 0 from rfl] at hx206_0)
                                (try rw [Addr.add_zero'] at hx206_0)
                                (try rw [show ((0 : Int)).toNat = 0 from rfl] at hx206_1)
                                (try rw [show 0 * 4 = 0 from rfl] at hx206_1)
                                (try rw [Addr.add_zero'] at hx206_1)
                                (try rw [show ((0 : Int)).toNat = 0 from rfl] at hx206_2)
                                (try rw [show 0 * 4 = 0 from rfl] at hx206_2)
                                (try rw [Addr.add_zero'] at hx206_2)
                                (try rw [show ((0 : Int)).toNat = 0 from rfl] at hx206_3)
                                (try rw [show 0 * 4 = 0 from rfl] at hx206_3)
                                (try rw [Addr.add_zero'] at hx206_3)
                                replace p206 := eq_true p206
                                replace q206 := eq_true q206
                                have p207 : 0 ≤ (0 : Int) := (by omega)
                                have q207 : 0 < (t180.length : Int) := of_decide_eq_true (by first | (with_reducible assumption) | assumption)
                                obtain ⟨ad207, e207, hx207_0, hx207_1, hx207_2, hx207_3⟩ := at_T49 (Kd.R_reads' HO_6.out).2.2 0 p207 q207
                                obtain rfl : ad205 = ad207 := (by injection e207)
                                have qi207 : (0 < t180.length) = True := eq_true (by omega)
                                (try rw [show ((0 : Int)).toNat = 0 from rfl] at hx207_0)
                                (try rw [show 0 * 4 = 0 from rfl] at hx207_0)
                                (try rw [Addr.add_zero'] at hx207_0)
                                (try rw [show ((0 : Int)).toNat = 0 from rfl] at hx207_1)
                                (try rw [show 0 * 4 = 0 from rfl] at hx207_1)
                                (try rw [Addr.add_zero'] at hx207_1)
                                (try rw [show ((0 : Int)).toNat = 0 from rfl] at hx207_2)
                                (try rw [show 0 * 4 = 0 from rfl] at hx207_2)
                                (try rw [Addr.add_zero'] at hx207_2)
                                (try rw [show ((0 : Int)).toNat = 0 from rfl] at hx207_3)
                                (try rw [show 0 * 4 = 0 from rfl] at hx207_3)
                                (try rw [Addr.add_zero'] at hx207_3)
                                replace p207 := eq_true p207
                                replace q207 := eq_true q207
                                go_wp2
                                repeat (go_quiet (fail); try go_wp2)
                                go_ret
                                exact ⟨by first | rfl | (simp [errW_none, errW_some] <;> rfl) | (simp [*, errW_none, errW_some] <;> rfl), by repeat (first | (with_reducible first | exact HB.out | apply below_alloc | apply pw_below_drewN | apply below_drew1) | exact HB.out)⟩
                              · rw [if_neg c49] at H
                                have c49b0 : (((rd_T49 t195 0).f1.f0) == ((rd_T49 t180 0).f1.f0) && (((rd_T49 t195 0).f1.f1) == ((rd_T49 t180 0).f1.f1) && ((((rd_T49 t195 0).f1.f2).toList) == (((rd_T49 t180 0).f1.f2).toList)))) = false := by simpa using c49
                                (try (have c49b1 : decide (((rd_T49 t195 0).f1.f0) = ((rd_T49 t180 0).f1.f0) && (((rd_T49 t195 0).f1.f1) == ((rd_T49 t180 0).f1.f1) && ((((rd_T49 t195 0).f1.f2).toList) == (((rd_T49 t180 0).f1.f2).toList)))) = false := by simpa using c49))
                                (try (have c49b2 : (((rd_T49 t195 0).f1.f0) == ((rd_T49 t180 0).f1.f0) && (((rd_T49 t195 0).f1.f1) == ((rd_T49 t180 0).f1.f1) && ((((rd_T49 t195 0).f1.f2).toList) == (((rd_T49 t180 0).f1.f2).toList)))) = false := by simpa using c49))
                                (try (have c49b3 : ¬ (((rd_T49 t195 0).f1.f0) = ((rd_T49 t180 0).f1.f0) && (((rd_T49 t195 0).f1.f1) == ((rd_T49 t180 0).f1.f1) && ((((rd_T49 t195 0).f1.f2).toList) == (((rd_T49 t180 0).f1.f2).toList)))) := by simpa using c49))
                                clear c49
                                exact absurd ((Option.some.inj H).trans hr_.out) (by decide)
                            · rw [if_neg c48] at H
                              exact absurd H (by simp)
                          · rw [if_neg c47] at H
                            exact absurd H (by simp)
                      · replace c44 := Bool.eq_false_iff.mpr c44
                        subst c44
                        have H1 : (some false) = some r := by rw [if_neg (show ¬ (false = true) by decide)] at H; exact H
                        clear H
                        have H := H1
                        clear H1
                        exact absurd ((Option.some.inj H).trans hr_.out) (by decide)
                  · rw [if_neg c42] at H
                    have c42b0 : ((t195.length : Int) == (wrap64 ((t180.length : Int) + (t183.length : Int)))) = false := beq_eq_false_iff_ne.mpr c42
                    have c42b1 : ((t195.length : Int) != (wrap64 ((t180.length : Int) + (t183.length : Int)))) = true := bne_iff_ne.mpr c42
                    exact absurd ((Option.some.inj H).trans hr_.out) (by decide)
          · rw [if_neg c13] at H
            exact absurd H (by simp)
        · rw [if_neg c12] at H
          exact absurd H (by simp)

/-- THE ONE PURE STATEMENT of law08_RleJoins: yours. -/
def law08_RleJoins.Pure : Prop := ∀ (l0 : List (S32)) (l1 : List (S32)), Hand.WfRow 32 wfS32 l0 → Hand.WfRow 32 wfS32 l1 → ∃ k, law08_RleJoins.f k l0 l1 = some true
theorem law08_RleJoins.walk (P : law08_RleJoins.Pure) (A0 : Option Addr) (c0 : Nat) (l0 : List (S32)) (A1 : Option Addr) (c1 : Nat) (l1 : List (S32)) (w : World) (w0 : l0.length ≤ c0 ∧ Kd.C k32 w A0 l0.length l0 ∧ Hand.WfRow 32 wfS32 l0) (w1 : l1.length ≤ c1 ∧ Kd.C k32 w A1 l1.length l1 ∧ Hand.WfRow 32 wfS32 l1) :
    Calls Try.prog 9 #[.slice A0 l0.length c0, .slice A1 l1.length c1] w fun e w' => e = .returned (.bool true) ∧ Below w.heap.size w w' := by
  obtain ⟨hc0, hr0, hw0⟩ := w0
  obtain ⟨hc1, hr1, hw1⟩ := w1
  obtain ⟨k, h⟩ := P l0 l1 hw0 hw1
  refine (law08_RleJoins.calls k _ _ l0 _ _ l1 true w hr0 hc0 hr1 hc1 ⟨rfl⟩ h).mono ?_
  rintro e w' ⟨rfl, hd⟩
  exact ⟨rfl, hd⟩

/-! ### ref05_Same: function 22 -/
def ref05_Same.l0 : Nat → List (S32) → List (S32) → Int → Option (Bool)
  | 0, _, _, _ => none
  | k + 1, x0, x1, x5 => if x5 < (x0.length : Int) then (if 0 ≤ x5 then (if x5 < (x1.length : Int) then (if (!(((rd_T32 x0 x5).f0) == ((rd_T32 x1 x5).f0)) || (!(((rd_T32 x0 x5).f1) == ((rd_T32 x1 x5).f1)) || (!((((rd_T32 x0 x5).f2).toList) == (((rd_T32 x1 x5).f2).toList))))) = true then (some false) else (ref05_Same.l0 k x0 x1 (wrap64 (x5 + 1)))) else (none)) else (none)) else (some true)
def ref05_Same.f (k : Nat) (l0 : List (S32)) (l1 : List (S32)) : Option (Bool) := if (l0.length : Int) = (l1.length : Int) then (ref05_Same.l0 k l0 l1 0) else (some false)
theorem ref05_Same.mono_l : ∀ k, (∀ y0 y1 y2, LeO (ref05_Same.l0 k y0 y1 y2) (ref05_Same.l0 (k + 1) y0 y1 y2))
  | 0 => fun _ _ _ r h => by simp [ref05_Same.l0] at h
  | k + 1 => by
    have ih0 := ref05_Same.mono_l k
    · intro y0 y1 y2
      unfold ref05_Same.l0
      repeat' first
      | (with_reducible exact ih0 _ _ _)
      | (with_reducible exact LeO.refl _)
      | (with_reducible exact LeO.none _)
      | (with_reducible refine LeO.ite ?_ ?_)
      | (with_reducible refine LeO.bind ?_ (fun _ => ?_))
      | exact ih0 _ _ _
      | exact LeO.none _
      | refine LeO.ite ?_ ?_
      | refine LeO.bind ?_ (fun _ => ?_)
theorem ref05_Same.mono : ∀ a0 a1 k, LeO (ref05_Same.f k a0 a1) (ref05_Same.f (k + 1) a0 a1) := by
  intro a0 a1 k
  have ih0 := ref05_Same.mono_l k
  unfold ref05_Same.f
  repeat' first
      | (with_reducible exact ih0 _ _ _)
      | (with_reducible exact LeO.refl _)
      | (with_reducible exact LeO.none _)
      | (with_reducible refine LeO.ite ?_ ?_)
      | (with_reducible refine LeO.bind ?_ (fun _ => ?_))
      | exact ih0 _ _ _
      | exact LeO.none _
      | refine LeO.ite ?_ ?_
      | refine LeO.bind ?_ (fun _ => ?_)
set_option maxHeartbeats 8000000 in
set_option maxRecDepth 100000 in
theorem ref05_Same.calls (k : Nat) (A0 : Option Addr) (c0 : Nat) (l0 : List (S32)) (A1 : Option Addr) (c1 : Nat) (l1 : List (S32)) (r : Bool) (w : World) (hr0 : Kd.C k32 w A0 l0.length l0) (hc0 : l0.length ≤ c0) (hr1 : Kd.C k32 w A1 l1.length l1) (hc1 : l1.length ≤ c1) (h : ref05_Same.f k l0 l1 = some r) :
    Calls Try.prog 22 #[.slice A0 l0.length c0, .slice A1 l1.length c1] w fun e w' => e = .returned (.bool r) ∧ Drawn0 w w' := by
  have hu32 := Try.underlying32
  have HR0 := Aside0.mk hr0
  have HC0 := Aside0.mk hc0
  clear hr0 hc0
  have HR1 := Aside0.mk hr1
  have HC1 := Aside0.mk hc1
  clear hr1 hc1
  have H : (if (l0.length : Int) = (l1.length : Int) then (ref05_Same.l0 k l0 l1 0) else (some false)) = some r := h
  clear h
  by_cases c3 : (l0.length : Int) = (l1.length : Int)
  · rw [if_pos c3] at H
    have c3b0 : ((l0.length : Int) == (l1.length : Int)) = true := beq_iff_eq.mpr c3
    have c3b1 : ((l0.length : Int) != (l1.length : Int)) = false := bne_eq_false_iff_eq.mpr c3
    have c3b2 : (l0.length == l1.length) = true := by first | simpa using c3 | (simp at c3 ⊢; omega)
    clear c3
    have H' := Aside0.mk H
    clear H
    go_enter Try.func22, Try.ntmps22
    go_wp2
    repeat (go_quiet (fail); try go_wp2)
    go_loopg [5] k (fun kq v5 w' => ∃ (x5_1 : Int), v5 = .int .i64 x5_1 ∧ Aside0 (ref05_Same.l0 kq l0 l1 x5_1 = some r) ∧ Aside0 (kq ≤ k) ∧ Drawn0 w w')
    case atStart => exact ⟨(0), (by first | rfl | (simp; done) | (simp [*]; done)), H', ⟨Nat.le_refl _⟩, by repeat (first | exact Drawn0.refl _ | apply Drawn0.step)⟩
    case round =>
      clear H'
      try clear c1
      try clear c2
      try clear p2
      try clear c3
      try clear c3b0
      try clear c3b1
      try clear c3b2
      obtain ⟨x5_1, rfl, HA, HK1, ⟨m1, rfl⟩⟩ := hrel
      cases gk with
      | zero => exact absurd HA.out (by simp [ref05_Same.l0])
      | succ k1 =>
        have H := HA.out
        clear HA
        simp only [ref05_Same.l0] at H
        by_cases c4 : x5_1 < (l0.length : Int)
        · rw [if_pos c4] at H
          have c4b0 : decide (x5_1 < (l0.length : Int)) = true := decide_eq_true c4
          clear c4
          by_cases c5 : 0 ≤ x5_1
          · rw [if_pos c5] at H
            have c5b0 : decide (0 ≤ x5_1) = true := decide_eq_true c5
            clear c5
            by_cases c6 : x5_1 < (l1.length : Int)
            · rw [if_pos c6] at H
              have c6b0 : decide (x5_1 < (l1.length : Int)) = true := decide_eq_true c6
              clear c6
              by_cases c7 : (!(((rd_T32 l0 x5_1).f0) == ((rd_T32 l1 x5_1).f0)) || (!(((rd_T32 l0 x5_1).f1) == ((rd_T32 l1 x5_1).f1)) || (!((((rd_T32 l0 x5_1).f2).toList) == (((rd_T32 l1 x5_1).f2).toList))))) = true
              · rw [if_pos c7] at H
                have c7b0 : (!(((rd_T32 l0 x5_1).f0) == ((rd_T32 l1 x5_1).f0)) || (!(((rd_T32 l0 x5_1).f1) == ((rd_T32 l1 x5_1).f1)) || (!((((rd_T32 l0 x5_1).f2).toList) == (((rd_T32 l1 x5_1).f2).toList))))) = true := c7
                clear c7
                obtain rfl := Option.some.inj H
                have p208 : 0 ≤ (x5_1 : Int) := of_decide_eq_true (by first | (with_reducible assumption) | assumption)
                have q208 : x5_1 < (l0.length : Int) := of_decide_eq_true (by first | (with_reducible assumption) | assumption)
                obtain ⟨ad208, e208, hx208_0, hx208_1, hx208_2⟩ := at_T32 HR0.out x5_1 p208 q208
                cases e208
                replace p208 := eq_true p208
                replace q208 := eq_true q208
                have p209 : 0 ≤ (x5_1 : Int) := of_decide_eq_true (by first | (with_reducible assumption) | assumption)
                have q209 : x5_1 < (l1.length : Int) := of_decide_eq_true (by first | (with_reducible assumption) | assumption)
                obtain ⟨ad209, e209, hx209_0, hx209_1, hx209_2⟩ := at_T32 HR1.out x5_1 p209 q209
                cases e209
                replace p209 := eq_true p209
                replace q209 := eq_true q209
                go_wp2
                repeat (go_quiet (fail); try go_wp2)
                go_ret
                exact ⟨by first | rfl | (simp; done) | (simp [*]; done), by repeat (first | exact Drawn0.refl _ | apply Drawn0.step)⟩
              · rw [if_neg c7] at H
                have c7b0 : (!(((rd_T32 l0 x5_1).f0) == ((rd_T32 l1 x5_1).f0)) || (!(((rd_T32 l0 x5_1).f1) == ((rd_T32 l1 x5_1).f1)) || (!((((rd_T32 l0 x5_1).f2).toList) == (((rd_T32 l1 x5_1).f2).toList))))) = false := by simpa using c7
                clear c7
                have H' := Aside0.mk H
                clear H
                have p208 : 0 ≤ (x5_1 : Int) := of_decide_eq_true (by first | (with_reducible assumption) | assumption)
                have q208 : x5_1 < (l0.length : Int) := of_decide_eq_true (by first | (with_reducible assumption) | assumption)
                obtain ⟨ad208, e208, hx208_0, hx208_1, hx208_2⟩ := at_T32 HR0.out x5_1 p208 q208
                cases e208
                replace p208 := eq_true p208
                replace q208 := eq_true q208
                have p209 : 0 ≤ (x5_1 : Int) := of_decide_eq_true (by first | (with_reducible assumption) | assumption)
                have q209 : x5_1 < (l1.length : Int) := of_decide_eq_true (by first | (with_reducible assumption) | assumption)
                obtain ⟨ad209, e209, hx209_0, hx209_1, hx209_2⟩ := at_T32 HR1.out x5_1 p209 q209
                cases e209
                replace p209 := eq_true p209
                replace q209 := eq_true q209
                go_wp2
                repeat (go_quiet (fail); try go_wp2)
                go_roundg k1
                case measure => have := HK1.out; omega
                case rel => exact ⟨(wrap64 (x5_1 + 1)), (by first | rfl | (simp; done) | (simp [*]; done)), H', ⟨by have := HK1.out; omega⟩, by repeat (first | exact Drawn0.refl _ | apply Drawn0.step)⟩
            · rw [if_neg c6] at H
              exact absurd H (by simp)
          · rw [if_neg c5] at H
            exact absurd H (by simp)
        · rw [if_neg c4] at H
          have c4b0 : decide (x5_1 < (l0.length : Int)) = false := decide_eq_false c4
          clear c4
          obtain rfl := Option.some.inj H
          go_wp2
          repeat (go_quiet (fail); try go_wp2)
          go_ret
          exact ⟨by first | rfl | (simp; done) | (simp [*]; done), by repeat (first | exact Drawn0.refl _ | apply Drawn0.step)⟩
  · rw [if_neg c3] at H
    have c3b0 : ((l0.length : Int) == (l1.length : Int)) = false := beq_eq_false_iff_ne.mpr c3
    have c3b1 : ((l0.length : Int) != (l1.length : Int)) = true := bne_iff_ne.mpr c3
    have c3b2 : (l0.length == l1.length) = false := by first | simpa using c3 | (simp at c3 ⊢; omega)
    obtain rfl := Option.some.inj H
    go_enter Try.func22, Try.ntmps22
    go_wp2
    repeat (go_quiet (fail); try go_wp2)
    go_ret
    exact ⟨by first | rfl | (simp; done) | (simp [*]; done), by repeat (first | exact Drawn0.refl _ | apply Drawn0.step)⟩

/-! ### bits_Mul32: function 78 -/
def bits_Mul32.f (a0 : Int) (a1 : Int) : Option (Int × Int) := some (((IntKind.u64.wrap ((IntKind.u64.wrap (a0)) * (IntKind.u64.wrap (a1)))) / 4294967296) % 4294967296, (IntKind.u64.wrap ((IntKind.u64.wrap (a0)) * (IntKind.u64.wrap (a1)))) % 4294967296)
set_option maxHeartbeats 8000000 in
set_option maxRecDepth 100000 in
theorem bits_Mul32.calls (a0 : Int) (a1 : Int) (r1 : Int) (r2 : Int) (w : World) (h : bits_Mul32.f a0 a1 = some (r1, r2)) :
    Calls Try.prog 78 #[.int .u32 a0, .int .u32 a1] w fun e w' => e = .returned (.tuple #[.int .u32 r1, .int .u32 r2]) ∧ Drawn0 w w' := by
  have H : (some (((IntKind.u64.wrap ((IntKind.u64.wrap (a0)) * (IntKind.u64.wrap (a1)))) / 4294967296) % 4294967296, (IntKind.u64.wrap ((IntKind.u64.wrap (a0)) * (IntKind.u64.wrap (a1)))) % 4294967296)) = some (r1, r2) := h
  clear h
  simp only [Option.some.injEq, Prod.mk.injEq] at H
  obtain ⟨rfl, rfl⟩ := H
  go_enter Try.func78, Try.ntmps78
  go_wp2
  go_ret2
  exact ⟨by first | rfl | (simp; done) | (simp [*]; done), by repeat (first | exact Drawn0.refl _ | apply Drawn0.step)⟩

/-! ### bits_Mul64: function 79 -/
def bits_Mul64.f (a0 : Int) (a1 : Int) : Option (Int × Int) := some (IntKind.u64.wrap ((IntKind.u64.wrap ((IntKind.u64.wrap ((a0 / 4294967296) * (a1 / 4294967296))) + ((IntKind.u64.wrap ((IntKind.u64.wrap ((a0 / 4294967296) * (Go.bits .and .u64 a1 4294967295))) + ((IntKind.u64.wrap ((Go.bits .and .u64 a0 4294967295) * (Go.bits .and .u64 a1 4294967295))) / 4294967296))) / 4294967296))) + ((IntKind.u64.wrap ((Go.bits .and .u64 (IntKind.u64.wrap ((IntKind.u64.wrap ((a0 / 4294967296) * (Go.bits .and .u64 a1 4294967295))) + ((IntKind.u64.wrap ((Go.bits .and .u64 a0 4294967295) * (Go.bits .and .u64 a1 4294967295))) / 4294967296))) 4294967295) + (IntKind.u64.wrap ((Go.bits .and .u64 a0 4294967295) * (a1 / 4294967296))))) / 4294967296)), IntKind.u64.wrap (a0 * a1))
set_option maxHeartbeats 8000000 in
set_option maxRecDepth 100000 in
theorem bits_Mul64.calls (a0 : Int) (a1 : Int) (r1 : Int) (r2 : Int) (w : World) (h : bits_Mul64.f a0 a1 = some (r1, r2)) :
    Calls Try.prog 79 #[.int .u64 a0, .int .u64 a1] w fun e w' => e = .returned (.tuple #[.int .u64 r1, .int .u64 r2]) ∧ Drawn0 w w' := by
  have H : (some (IntKind.u64.wrap ((IntKind.u64.wrap ((IntKind.u64.wrap ((a0 / 4294967296) * (a1 / 4294967296))) + ((IntKind.u64.wrap ((IntKind.u64.wrap ((a0 / 4294967296) * (Go.bits .and .u64 a1 4294967295))) + ((IntKind.u64.wrap ((Go.bits .and .u64 a0 4294967295) * (Go.bits .and .u64 a1 4294967295))) / 4294967296))) / 4294967296))) + ((IntKind.u64.wrap ((Go.bits .and .u64 (IntKind.u64.wrap ((IntKind.u64.wrap ((a0 / 4294967296) * (Go.bits .and .u64 a1 4294967295))) + ((IntKind.u64.wrap ((Go.bits .and .u64 a0 4294967295) * (Go.bits .and .u64 a1 4294967295))) / 4294967296))) 4294967295) + (IntKind.u64.wrap ((Go.bits .and .u64 a0 4294967295) * (a1 / 4294967296))))) / 4294967296)), IntKind.u64.wrap (a0 * a1))) = some (r1, r2) := h
  clear h
  simp only [Option.some.injEq, Prod.mk.injEq] at H
  obtain ⟨rfl, rfl⟩ := H
  go_enter Try.func79, Try.ntmps79
  go_wp2
  go_ret2
  exact ⟨by first | rfl | (simp; done) | (simp [*]; done), by repeat (first | exact Drawn0.refl _ | apply Drawn0.step)⟩

/-! ### bits_Mul: function 68 -/
def bits_Mul.f (a0 : Int) (a1 : Int) : Option (Int × Int) := (bits_Mul64.f a0 a1).bind fun bt210 => (some (bt210.1, bt210.2))
set_option maxHeartbeats 8000000 in
set_option maxRecDepth 100000 in
theorem bits_Mul.calls (a0 : Int) (a1 : Int) (r1 : Int) (r2 : Int) (w : World) (h : bits_Mul.f a0 a1 = some (r1, r2)) :
    Calls Try.prog 68 #[.int .u64 a0, .int .u64 a1] w fun e w' => e = .returned (.tuple #[.int .u64 r1, .int .u64 r2]) ∧ Drawn0 w w' := by
  have H : ((bits_Mul64.f a0 a1).bind fun bt210 => (some (bt210.1, bt210.2))) = some (r1, r2) := h
  clear h
  replace H := Option.bind_eq_some_iff.mp H
  obtain ⟨⟨t210, t211⟩, A30, H⟩ := H
  replace H : (some (t210, t211)) = some (r1, r2) := H
  have A3 := Aside0.mk A30
  clear A30
  simp only [Option.some.injEq, Prod.mk.injEq] at H
  obtain ⟨rfl, rfl⟩ := H
  go_enter Try.func68, Try.ntmps68
  go_wp2_with (first | ((with_reducible refine gate_callee (f := 79) rfl ?_); refine goesL_ (some 25) rfl rfl Try.func79 (by kernel_rfl) rfl #[.int .u64 a0, .int .u64 a1] rfl (by (try simp only [List.map_toArray, List.map_cons, List.map_nil]); first | done | rfl | (simp only [List.length_drop, List.length_take]; rfl)) ?_; (with_reducible refine (bits_Mul64.calls a0 a1 t210 t211 _ A3.out).mono ?_); rintro e w' ⟨rfl, ⟨nd, rfl⟩⟩; refine ⟨_, rfl, ?_⟩))
  go_ret2
  exact ⟨by first | rfl | (simp; done) | (simp [*]; done), by repeat (first | exact Drawn0.refl _ | apply Drawn0.step)⟩

-- NOT PRINTED: function 49 (api_Val_49)

-- NOT PRINTED: function 27 (rle_Spread)

-- NOT PRINTED: function 10 (law08_RleRuns)

-- NOT PRINTED: function 11 (law08_RleSorted)

end Go.Proofs.Ytjchjdbfmiibhaa.PRla
