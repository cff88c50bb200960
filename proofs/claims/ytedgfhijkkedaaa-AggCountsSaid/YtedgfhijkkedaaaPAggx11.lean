-- Written by this session's program wip/gprint/gprint.py, over the kit's print, with given functions; no text of print.sh's.
import Derived.Test.YtedgfhijkkedaaaPAggx0
import Derived.Test.YtedgfhijkkedaaaPAggx3
import Derived.Test.YtedgfhijkkedaaaPAggx8
import Derived.Test.YtedgfhijkkedaaaPAggx10
namespace Go.Proofs.Ytedgfhijkkedaaa.PAgg
open Go.RowKit Go.Proofs.YtedgfhijkkedaaaW.PrintWords Go.Proofs.YtedgfhijkkedaaaW.PrintLast Go.Proofs.YtedgfhijkkedaaaW.PrintMore
attribute [local go_sem] max2_int min2_int max_two min_two max_three min_three max_four min_four   -- for this text's walks alone
set_option linter.unusedVariables false
set_option linter.unusedSimpArgs false

/-! ### law20_AggCounts: function 5 -/
mutual
def law20_AggCounts.l0 : Nat → Bool → Int → List (List (S39)) → List (List (S39)) → Int → Option (Bool)
  | 0, _, _, _, _, _ => none
  | k + 1, x5, x6, x7, x8, x9 => if x9 < (x8.length : Int) then (if 0 ≤ x9 then (if ((rd_L3 x8 x9).length : Int) ≥ x6 then (if x7.length < 5864062014805 then (law20_AggCounts.l0 k x5 x6 (x7 ++ [rd_L3 x8 x9]) x8 (wrap64 (x9 + 1))) else (none)) else (law20_AggCounts.l0 k x5 x6 x7 x8 (wrap64 (x9 + 1)))) else (none)) else ((agg_Group.f k x7 x6 (([(⟨1, 0⟩ : S36)] : List (S36)))).bind fun bt201 => (if bt201.2 = 0 then (law20_AggCounts.l1 k x5 x6 x7 bt201.1 0 0) else (some false)))
def law20_AggCounts.l1 : Nat → Bool → Int → List (List (S39)) → List (List (S39)) → Int → Int → Option (Bool)
  | 0, _, _, _, _, _, _ => none
  | k + 1, x5, x6, x7, x10, x12, x13 => if x13 < (x10.length : Int) then (if 0 ≤ x13 then (if ((rd_L3 x10 x13).length : Int) = (wrap64 (x6 + 1)) then (if 0 ≤ x6 then (if x6 < ((rd_L3 x10 x13).length : Int) then (law20_AggCounts.j2 k x5 x6 x7 x10 x12 x13 (((rd_T39 (rd_L3 x10 x13) x6).f0) != 1)) else (none)) else (none)) else (law20_AggCounts.j2 k x5 x6 x7 x10 x12 x13 true)) else (none)) else (if x5 = true then (if x12 = (x7.length : Int) then (if x6 > 0 then (some true) else (some ((x10.length : Int) == 1))) else (some false)) else (some false))
def law20_AggCounts.j2 : Nat → Bool → Int → List (List (S39)) → List (List (S39)) → Int → Int → Bool → Option (Bool)
  | 0, _, _, _, _, _, _, _ => none
  | k + 1, x5, x6, x7, x10, x12, x13, x75 => if x75 = true then (some false) else (if 0 ≤ x13 then (if x13 < (x10.length : Int) then (if 0 ≤ x6 then (if x6 < ((rd_L3 x10 x13).length : Int) then (law20_AggCounts.l2 k x5 x6 x7 x10 (wrap64 (x12 + ((rd_T39 (rd_L3 x10 x13) x6).f1))) x13 0) else (none)) else (none)) else (none)) else (none))
def law20_AggCounts.l2 : Nat → Bool → Int → List (List (S39)) → List (List (S39)) → Int → Int → Int → Option (Bool)
  | 0, _, _, _, _, _, _, _ => none
  | k + 1, x5, x6, x7, x10, x12, x13, x14 => if x14 < x13 then (if 0 ≤ x13 then (if x13 < (x10.length : Int) then (if 0 ≤ x6 then (if x6 ≤ ((rd_L3 x10 x13).length : Int) then (if 0 ≤ x14 then (if x14 < (x10.length : Int) then (if x6 ≤ ((rd_L3 x10 x14).length : Int) then ((ref05_Same.f k ((rd_L3 x10 x13).take (x6 : Int).toNat) ((rd_L3 x10 x14).take (x6 : Int).toNat)).bind fun t222 => (if t222 = true then (some false) else (law20_AggCounts.l2 k x5 x6 x7 x10 x12 x13 (wrap64 (x14 + 1))))) else (none)) else (none)) else (none)) else (none)) else (none)) else (none)) else (none)) else (law20_AggCounts.l1 k x5 x6 x7 x10 x12 (wrap64 (x13 + 1)))
end
def law20_AggCounts.f (k : Nat) (l0 : List (List (S39))) (a1 : Int) : Option (Bool) := (law20_shown.f).bind fun t189 => ((law20_few.f k l0).bind fun t190 => (law20_AggCounts.l0 k t189 (wrap64 (Int.tmod a1 4)) ([] : List (List (S39))) t190 0))
theorem law20_AggCounts.mono_l : ∀ k, (∀ y0 y1 y2 y3 y4, LeO (law20_AggCounts.l0 k y0 y1 y2 y3 y4) (law20_AggCounts.l0 (k + 1) y0 y1 y2 y3 y4)) ∧ (∀ y0 y1 y2 y3 y4 y5, LeO (law20_AggCounts.l1 k y0 y1 y2 y3 y4 y5) (law20_AggCounts.l1 (k + 1) y0 y1 y2 y3 y4 y5)) ∧ (∀ y0 y1 y2 y3 y4 y5 y6, LeO (law20_AggCounts.j2 k y0 y1 y2 y3 y4 y5 y6) (law20_AggCounts.j2 (k + 1) y0 y1 y2 y3 y4 y5 y6)) ∧ (∀ y0 y1 y2 y3 y4 y5 y6, LeO (law20_AggCounts.l2 k y0 y1 y2 y3 y4 y5 y6) (law20_AggCounts.l2 (k + 1) y0 y1 y2 y3 y4 y5 y6))
  | 0 => ⟨fun _ _ _ _ _ r h => by simp [law20_AggCounts.l0] at h, fun _ _ _ _ _ _ r h => by simp [law20_AggCounts.l1] at h, fun _ _ _ _ _ _ _ r h => by simp [law20_AggCounts.j2] at h, fun _ _ _ _ _ _ _ r h => by simp [law20_AggCounts.l2] at h⟩
  | k + 1 => by
    obtain ⟨ih0, ih1, ih2, ih3⟩ := law20_AggCounts.mono_l k
    refine ⟨?_, ?_, ?_, ?_⟩
    · intro y0 y1 y2 y3 y4
      unfold law20_AggCounts.l0
      repeat' first
      | (with_reducible exact ih0 _ _ _ _ _)
      | (with_reducible exact ih1 _ _ _ _ _ _)
      | (with_reducible exact ih2 _ _ _ _ _ _ _)
      | (with_reducible exact ih3 _ _ _ _ _ _ _)
      | (with_reducible exact agg_Group.mono _ _ _ _)
      | (with_reducible exact law20_few.mono _ _)
      | (with_reducible exact ref05_Same.mono _ _ _)
      | (with_reducible exact LeO.refl _)
      | (with_reducible exact LeO.none _)
      | (with_reducible refine LeO.ite ?_ ?_)
      | (with_reducible refine LeO.bind ?_ (fun _ => ?_))
      | exact ih0 _ _ _ _ _
      | exact ih1 _ _ _ _ _ _
      | exact ih2 _ _ _ _ _ _ _
      | exact ih3 _ _ _ _ _ _ _
      | exact agg_Group.mono _ _ _ _
      | exact law20_few.mono _ _
      | exact ref05_Same.mono _ _ _
      | exact LeO.none _
      | refine LeO.ite ?_ ?_
      | refine LeO.bind ?_ (fun _ => ?_)
    · intro y0 y1 y2 y3 y4 y5
      unfold law20_AggCounts.l1
      repeat' first
      | (with_reducible exact ih0 _ _ _ _ _)
      | (with_reducible exact ih1 _ _ _ _ _ _)
      | (with_reducible exact ih2 _ _ _ _ _ _ _)
      | (with_reducible exact ih3 _ _ _ _ _ _ _)
      | (with_reducible exact agg_Group.mono _ _ _ _)
      | (with_reducible exact law20_few.mono _ _)
      | (with_reducible exact ref05_Same.mono _ _ _)
      | (with_reducible exact LeO.refl _)
      | (with_reducible exact LeO.none _)
      | (with_reducible refine LeO.ite ?_ ?_)
      | (with_reducible refine LeO.bind ?_ (fun _ => ?_))
      | exact ih0 _ _ _ _ _
      | exact ih1 _ _ _ _ _ _
      | exact ih2 _ _ _ _ _ _ _
      | exact ih3 _ _ _ _ _ _ _
      | exact agg_Group.mono _ _ _ _
      | exact law20_few.mono _ _
      | exact ref05_Same.mono _ _ _
      | exact LeO.none _
      | refine LeO.ite ?_ ?_
      | refine LeO.bind ?_ (fun _ => ?_)
    · intro y0 y1 y2 y3 y4 y5 y6
      unfold law20_AggCounts.j2
      repeat' first
      | (with_reducible exact ih0 _ _ _ _ _)
      | (with_reducible exact ih1 _ _ _ _ _ _)
      | (with_reducible exact ih2 _ _ _ _ _ _ _)
      | (with_reducible exact ih3 _ _ _ _ _ _ _)
      | (with_reducible exact agg_Group.mono _ _ _ _)
      | (with_reducible exact law20_few.mono _ _)
      | (with_reducible exact ref05_Same.mono _ _ _)
      | (with_reducible exact LeO.refl _)
      | (with_reducible exact LeO.none _)
      | (with_reducible refine LeO.ite ?_ ?_)
      | (with_reducible refine LeO.bind ?_ (fun _ => ?_))
      | exact ih0 _ _ _ _ _
      | exact ih1 _ _ _ _ _ _
      | exact ih2 _ _ _ _ _ _ _
      | exact ih3 _ _ _ _ _ _ _
      | exact agg_Group.mono _ _ _ _
      | exact law20_few.mono _ _
      | exact ref05_Same.mono _ _ _
      | exact LeO.none _
      | refine LeO.ite ?_ ?_
      | refine LeO.bind ?_ (fun _ => ?_)
    · intro y0 y1 y2 y3 y4 y5 y6
      unfold law20_AggCounts.l2
      repeat' first
      | (with_reducible exact ih0 _ _ _ _ _)
      | (with_reducible exact ih1 _ _ _ _ _ _)
      | (with_reducible exact ih2 _ _ _ _ _ _ _)
      | (with_reducible exact ih3 _ _ _ _ _ _ _)
      | (with_reducible exact agg_Group.mono _ _ _ _)
      | (with_reducible exact law20_few.mono _ _)
      | (with_reducible exact ref05_Same.mono _ _ _)
      | (with_reducible exact LeO.refl _)
      | (with_reducible exact LeO.none _)
      | (with_reducible refine LeO.ite ?_ ?_)
      | (with_reducible refine LeO.bind ?_ (fun _ => ?_))
      | exact ih0 _ _ _ _ _
      | exact ih1 _ _ _ _ _ _
      | exact ih2 _ _ _ _ _ _ _
      | exact ih3 _ _ _ _ _ _ _
      | exact agg_Group.mono _ _ _ _
      | exact law20_few.mono _ _
      | exact ref05_Same.mono _ _ _
      | exact LeO.none _
      | refine LeO.ite ?_ ?_
      | refine LeO.bind ?_ (fun _ => ?_)
theorem law20_AggCounts.mono : ∀ a0 a1 k, LeO (law20_AggCounts.f k a0 a1) (law20_AggCounts.f (k + 1) a0 a1) := by
  intro a0 a1 k
  obtain ⟨ih0, ih1, ih2, ih3⟩ := law20_AggCounts.mono_l k
  unfold law20_AggCounts.f
  repeat' first
      | (with_reducible exact ih0 _ _ _ _ _)
      | (with_reducible exact ih1 _ _ _ _ _ _)
      | (with_reducible exact ih2 _ _ _ _ _ _ _)
      | (with_reducible exact ih3 _ _ _ _ _ _ _)
      | (with_reducible exact agg_Group.mono _ _ _ _)
      | (with_reducible exact law20_few.mono _ _)
      | (with_reducible exact ref05_Same.mono _ _ _)
      | (with_reducible exact LeO.refl _)
      | (with_reducible exact LeO.none _)
      | (with_reducible refine LeO.ite ?_ ?_)
      | (with_reducible refine LeO.bind ?_ (fun _ => ?_))
      | exact ih0 _ _ _ _ _
      | exact ih1 _ _ _ _ _ _
      | exact ih2 _ _ _ _ _ _ _
      | exact ih3 _ _ _ _ _ _ _
      | exact agg_Group.mono _ _ _ _
      | exact law20_few.mono _ _
      | exact ref05_Same.mono _ _ _
      | exact LeO.none _
      | refine LeO.ite ?_ ?_
      | refine LeO.bind ?_ (fun _ => ?_)
set_option maxHeartbeats 8000000 in
set_option maxRecDepth 100000 in
theorem law20_AggCounts.calls (k : Nat) (A0 : Option Addr) (c0 : Nat) (l0 : List (List (S39))) (a1 : Int) (r : Bool) (w : World) (hr0 : Kd.C (Kd.slice 39 k39) w A0 l0.length l0) (hc0 : l0.length ≤ c0) (hr_ : Aside0 (r = true)) (h : law20_AggCounts.f k l0 a1 = some r) :
    Calls Try.prog 5 #[.slice A0 l0.length c0, .int .u8 a1] w fun e w' => e = .returned (.bool r) ∧ Below w.heap.size w w' := by
  have hu36 := Try.underlying36
  have HR0 := Aside0.mk hr0
  have HC0 := Aside0.mk hc0
  clear hr0 hc0
  have HB := Aside0.mk (Below.refl w.heap.size w)
  have H : ((law20_shown.f).bind fun t189 => ((law20_few.f k l0).bind fun t190 => (law20_AggCounts.l0 k t189 (wrap64 (Int.tmod a1 4)) ([] : List (List (S39))) t190 0))) = some r := h
  clear h
  replace H := Option.bind_eq_some_iff.mp H
  obtain ⟨t189, A30, H⟩ := H
  replace H : ((law20_few.f k l0).bind fun t190 => (law20_AggCounts.l0 k t189 (wrap64 (Int.tmod a1 4)) ([] : List (List (S39))) t190 0)) = some r := H
  have A3 := Aside0.mk A30
  clear A30
  replace H := Option.bind_eq_some_iff.mp H
  obtain ⟨t190, A40, H⟩ := H
  replace H : (law20_AggCounts.l0 k t189 (wrap64 (Int.tmod a1 4)) ([] : List (List (S39))) t190 0) = some r := H
  have A4 := Aside0.mk A40
  clear A40
  have H' := Aside0.mk H
  clear H
  go_enter Try.func5, Try.ntmps5
  go_wp2_with (first | (go_at_call 9; (with_reducible refine (law20_shown.calls  t189 _ A3.out).mono ?_); rintro e w5 ⟨rfl, hb⟩; have n0_ := Aside0.mk (below_step (by repeat (first | (with_reducible first | exact HB.out | apply below_alloc | apply pw_below_drewN | apply below_drew1) | exact HB.out)) hb); clear HB; have HB := n0_; clear n0_; (try clear hb); (try clear hb2); (try clear hk); (try clear hi)) | (go_at_call 11; (with_reducible refine (law20_few.calls k (fun k_ => k_ < w.heap.size) _ _ l0 t190 _ ?side1 A4.out).mono ?_); (case side1 => exact Kd.V_mk HC0.out (Kd.F_below (Kd.C_F (Kd.heap_slice 39 k39_heap) HR0.out) (by repeat (first | (with_reducible first | exact HB.out | apply below_alloc | apply pw_below_drewN | apply below_drew1) | exact HB.out)))); rintro e w6 ⟨v191, rfl, ho0, hb⟩; have n0_ := Aside0.mk (Kd.N_lower (Kd.N_mono (ok' := fun k_ => True) ho0 (fun k_ hk_ => trivial)) (below_size (by repeat (first | (with_reducible first | exact HB.out | apply below_alloc | apply pw_below_drewN | apply below_drew1) | exact HB.out)))); have n1_ := Aside0.mk (below_step (by repeat (first | (with_reducible first | exact HB.out | apply below_alloc | apply pw_below_drewN | apply below_drew1) | exact HB.out)) hb); clear HB; have HO192 := n0_; have HB := n1_; clear n0_ n1_; (try clear hb); (try clear hb2); (try clear hk); (try clear hi); (try clear ho0)))
  repeat (go_quiet (first | (go_at_call 9; (with_reducible refine (law20_shown.calls  t189 _ A3.out).mono ?_); rintro e w5 ⟨rfl, hb⟩; have n0_ := Aside0.mk (below_step (by repeat (first | (with_reducible first | exact HB.out | apply below_alloc | apply pw_below_drewN | apply below_drew1) | exact HB.out)) hb); clear HB; have HB := n0_; clear n0_; (try clear hb); (try clear hb2); (try clear hk); (try clear hi)) | (go_at_call 11; (with_reducible refine (law20_few.calls k (fun k_ => k_ < w.heap.size) _ _ l0 t190 _ ?side1 A4.out).mono ?_); (case side1 => exact Kd.V_mk HC0.out (Kd.F_below (Kd.C_F (Kd.heap_slice 39 k39_heap) HR0.out) (by repeat (first | (with_reducible first | exact HB.out | apply below_alloc | apply pw_below_drewN | apply below_drew1) | exact HB.out)))); rintro e w6 ⟨v191, rfl, ho0, hb⟩; have n0_ := Aside0.mk (Kd.N_lower (Kd.N_mono (ok' := fun k_ => True) ho0 (fun k_ hk_ => trivial)) (below_size (by repeat (first | (with_reducible first | exact HB.out | apply below_alloc | apply pw_below_drewN | apply below_drew1) | exact HB.out)))); have n1_ := Aside0.mk (below_step (by repeat (first | (with_reducible first | exact HB.out | apply below_alloc | apply pw_below_drewN | apply below_drew1) | exact HB.out)) hb); clear HB; have HO192 := n0_; have HB := n1_; clear n0_ n1_; (try clear hb); (try clear hb2); (try clear hk); (try clear hi); (try clear ho0))); try go_wp2_with (first | (go_at_call 9; (with_reducible refine (law20_shown.calls  t189 _ A3.out).mono ?_); rintro e w5 ⟨rfl, hb⟩; have n0_ := Aside0.mk (below_step (by repeat (first | (with_reducible first | exact HB.out | apply below_alloc | apply pw_below_drewN | apply below_drew1) | exact HB.out)) hb); clear HB; have HB := n0_; clear n0_; (try clear hb); (try clear hb2); (try clear hk); (try clear hi)) | (go_at_call 11; (with_reducible refine (law20_few.calls k (fun k_ => k_ < w.heap.size) _ _ l0 t190 _ ?side1 A4.out).mono ?_); (case side1 => exact Kd.V_mk HC0.out (Kd.F_below (Kd.C_F (Kd.heap_slice 39 k39_heap) HR0.out) (by repeat (first | (with_reducible first | exact HB.out | apply below_alloc | apply pw_below_drewN | apply below_drew1) | exact HB.out)))); rintro e w6 ⟨v191, rfl, ho0, hb⟩; have n0_ := Aside0.mk (Kd.N_lower (Kd.N_mono (ok' := fun k_ => True) ho0 (fun k_ hk_ => trivial)) (below_size (by repeat (first | (with_reducible first | exact HB.out | apply below_alloc | apply pw_below_drewN | apply below_drew1) | exact HB.out)))); have n1_ := Aside0.mk (below_step (by repeat (first | (with_reducible first | exact HB.out | apply below_alloc | apply pw_below_drewN | apply below_drew1) | exact HB.out)) hb); clear HB; have HO192 := n0_; have HB := n1_; clear n0_ n1_; (try clear hb); (try clear hb2); (try clear hk); (try clear hi); (try clear ho0))))
  go_loopg [7, 9] k (fun kq v7 v9 w' => ∃ (x7_1 : List (List (S39))) (x9_1 : Int), v9 = .int .i64 x9_1 ∧ Aside0 (law20_AggCounts.l0 kq t189 (wrap64 (Int.tmod a1 4)) x7_1 t190 x9_1 = some r) ∧ Aside0 (kq ≤ k) ∧ Aside0 (Kd.N (Kd.slice 39 k39) 32 w' w.heap.size (fun k_ => some k_ ≠ (v191 : Value).ownBlock) v7 x7_1) ∧ Aside0 (Kd.N (Kd.slice 39 k39) 32 w' w.heap.size (fun k_ => some k_ ≠ (v7 : Value).ownBlock) v191 t190) ∧ Aside0 (Below w.heap.size w w'))
  case atStart => exact ⟨(([] : List (List (S39)))), (0), (by first | rfl | (simp; done) | (simp [*]; done)), H', ⟨Nat.le_refl _⟩, ⟨by first | exact Kd.S_nil _ _ _ _ _ | exact Kd.N_nil _ _ _ _ _ | exact Kd.V_nil _ _ _ _ _ | exact Kd.Q_nil _ _ _ _ _ | exact Kd.R_nil _ _ _ _ _⟩, ⟨by (with_reducible repeat (first | apply Kd.N_alloc | apply Kd.N_drewN | apply Kd.N_drew)); exact Kd.N_mono HO192.out (fun _ hk => (by simp [Value.ownBlock]))⟩, ⟨by repeat (first | (with_reducible first | exact HB.out | apply below_alloc | apply pw_below_drewN | apply below_drew1) | exact HB.out)⟩⟩
  case round =>
    clear H'
    try clear p2
    try clear c5
    try clear p6
    obtain ⟨x7_1, x9_1, rfl, HA, HK1, HO_7, HO_8, HB⟩ := hrel
    cases gk with
    | zero => exact absurd HA.out (by simp [law20_AggCounts.l0])
    | succ k1 =>
      have H := HA.out
      clear HA
      simp only [law20_AggCounts.l0] at H
      by_cases c7 : x9_1 < (t190.length : Int)
      · rw [if_pos c7] at H
        have c7b0 : decide (x9_1 < (t190.length : Int)) = true := decide_eq_true c7
        clear c7
        by_cases c8 : 0 ≤ x9_1
        · rw [if_pos c8] at H
          have c8b0 : decide (0 ≤ x9_1) = true := decide_eq_true c8
          clear c8
          by_cases c9 : ((rd_L3 t190 x9_1).length : Int) ≥ (wrap64 (Int.tmod a1 4))
          · rw [if_pos c9] at H
            have c9b0 : decide ((wrap64 (Int.tmod a1 4)) ≤ ((rd_L3 t190 x9_1).length : Int)) = true := decide_eq_true c9
            clear c9
            by_cases c10 : x7_1.length < 5864062014805
            · rw [if_pos c10] at H
              have LMc10 := Aside0.mk c10
              clear c10
              obtain ⟨y195, hy195⟩ : ∃ y_ : List (List (S39)), y_ = (x7_1 ++ [rd_L3 t190 x9_1]) := ⟨_, rfl⟩
              replace H : (law20_AggCounts.l0 k1 t189 (wrap64 (Int.tmod a1 4)) y195 t190 (wrap64 (x9_1 + 1))) = some r := by first | (rw [hy195]; with_reducible exact H) | (have H2_ := (Option.bind_some _ _).symm.trans H; rw [hy195]; with_reducible exact H2_) | (have H2_ := (Option.bind_some _ _).symm.trans H; with_reducible exact H2_) | with_reducible exact H | (rw [hy195]; exact H) | exact H
              have Ny195 := Aside0.mk hy195
              clear hy195
              have H' := Aside0.mk H
              clear H
              obtain ⟨Ao11, co11, eo11⟩ := Kd.N_slice HO_8.out
              subst eo11
              have p193 : 0 ≤ (x9_1 : Int) := of_decide_eq_true (by first | (with_reducible assumption) | assumption)
              have q193 : x9_1 < (t190.length : Int) := of_decide_eq_true (by first | (with_reducible assumption) | assumption)
              obtain ⟨ad193, A193_0, c193_0, e193, hx193_0, hl193_0, hi193_0⟩ := at_L3 (Kd.N_reads' HO_8.out).2.2 x9_1 p193 q193
              cases e193
              obtain ⟨ce193, hce193, hMe193, hcc193⟩ := Kd.N_get HO_8.out [] x9_1 p193 (by first | exact q193 | exact of_decide_eq_true (by first | (with_reducible assumption) | assumption) | (have e_ := (Kd.N_reads' HO_8.out).1; omega))
              obtain ⟨ua193_0, uc193_0, rfl, ul193_0, ge193_0⟩ := Kd.FK_slice_open hMe193
              have hv193_0 := hcc193 0 _ rfl
              rw [Nat.add_zero, show ((Kd.slice 39 k39)).sz = 1 from rfl, Nat.mul_one] at hv193_0
              replace hv193_0 := Option.some.inj (hv193_0.symm.trans hx193_0)
              injection hv193_0 with hva_ hvn_ hvc_
              rw [hva_] at ge193_0
              rw [hvc_] at ul193_0
              have HL193_0 := Aside0.mk (show Kd.V k39 39 _ w.heap.size _ _ (rd_L3 t190 x9_1) from Kd.V_mk ul193_0 ge193_0)
              clear hva_ hvn_ hvc_ ge193_0 ul193_0
              clear hcc193 hce193
              have HR193_0 := Aside0.mk hi193_0
              have HC193_0 := Aside0.mk hl193_0
              clear hi193_0 hl193_0
              replace p193 := eq_true p193
              replace q193 := eq_true q193
              have p194 : 0 ≤ (x9_1 : Int) := of_decide_eq_true (by first | (with_reducible assumption) | assumption)
              have q194 : x9_1 < (t190.length : Int) := of_decide_eq_true (by first | (with_reducible assumption) | assumption)
              obtain ⟨ad194, A194_0, c194_0, e194, hx194_0, hl194_0, hi194_0⟩ := at_L3 (Kd.N_reads' HO_8.out).2.2 x9_1 p194 q194
              obtain rfl : ad193 = ad194 := (by injection e194)
              obtain ⟨ce194, hce194, hMe194, hcc194⟩ := Kd.N_get HO_8.out [] x9_1 p194 (by first | exact q194 | exact of_decide_eq_true (by first | (with_reducible assumption) | assumption) | (have e_ := (Kd.N_reads' HO_8.out).1; omega))
              obtain ⟨ua194_0, uc194_0, rfl, ul194_0, ge194_0⟩ := Kd.FK_slice_open hMe194
              have hv194_0 := hcc194 0 _ rfl
              rw [Nat.add_zero, show ((Kd.slice 39 k39)).sz = 1 from rfl, Nat.mul_one] at hv194_0
              replace hv194_0 := Option.some.inj (hv194_0.symm.trans hx194_0)
              injection hv194_0 with hva_ hvn_ hvc_
              rw [hva_] at ge194_0
              rw [hvc_] at ul194_0
              have HL194_0 := Aside0.mk (show Kd.V k39 39 _ w.heap.size _ _ (rd_L3 t190 x9_1) from Kd.V_mk ul194_0 ge194_0)
              clear hva_ hvn_ hvc_ ge194_0 ul194_0
              clear hcc194 hce194
              have HR194_0 := Aside0.mk hi194_0
              have HC194_0 := Aside0.mk hl194_0
              clear hi194_0 hl194_0
              replace p194 := eq_true p194
              replace q194 := eq_true q194
              have ea_ := Option.some.inj (hx193_0.symm.trans hx194_0)
              injection ea_ with ea_ en_ ec_
              subst ea_
              subst ec_
              clear en_
              go_wp2_with (first | ((with_reducible refine gate_builtin (b := .append) (xs := #[.tmp 34, .tmp 39]) rfl ?_); (try (refine gate_guard (by rfl) ?_; dsimp only)); at_builtin; refine Kd.N_append (Kd.slice 39 k39) (w0 := w) w.heap.size rfl (.tmp 34) (.tmp 39) 30 32 (.slice none 0 0) 24 rfl Try.underlying30 info32 rfl (by decide) (by omega) u7 x7_1 (rd_L3 t190 x9_1) [.slice A193_0 (rd_L3 t190 x9_1).length c193_0] (fun k_ => some k_ ≠ (.slice (some ad193) t190.length co11 : Value).ownBlock) (fun k_ => ((fun k_ => some k_ ≠ (.slice (some ad193) t190.length co11 : Value).ownBlock)) k_ ∧ some k_ ≠ (u7 : Value).ownBlock) rfl rfl ?aP (fun _ hk => hk) ?aF ?aO ?aB ?aS ?aL ?_; (case aP => exact (Kd.FK_slice_mk (Kd.V_reads' (Kd.V_mono (ok' := (fun k_ => ((fun k_ => some k_ ≠ (.slice (some ad193) t190.length co11 : Value).ownBlock)) k_ ∧ some k_ ≠ (u7 : Value).ownBlock)) (HL194_0.out) (fun k_ hk => ⟨hk.2, hk.1⟩))).2.1 (Kd.V_F (Kd.V_mono (ok' := (fun k_ => ((fun k_ => some k_ ≠ (.slice (some ad193) t190.length co11 : Value).ownBlock)) k_ ∧ some k_ ≠ (u7 : Value).ownBlock)) (HL194_0.out) (fun k_ hk => ⟨hk.2, hk.1⟩))))); (case aB => exact (by repeat (first | (with_reducible first | exact HB.out | apply below_alloc | apply pw_below_drewN | apply below_drew1) | exact HB.out))); (case aF => exact (fun k_ hk => Kd.fresh' (Kd.N_lt (by (with_reducible repeat (first | apply Kd.N_alloc | apply Kd.N_drewN | apply Kd.N_drew)); exact HO_8.out)) k_ hk)); (case aO => exact (by (with_reducible repeat (first | apply Kd.N_alloc | apply Kd.N_drewN | apply Kd.N_drew)); exact HO_7.out)); (case aS => exact (below_size (by repeat (first | (with_reducible first | exact HB.out | apply below_alloc | apply pw_below_drewN | apply below_drew1) | exact HB.out)))); (case aL => have := LMc10.out; omega); intro v196 w12 ho hb hg hat; rw [← Ny195.out] at ho; have n0_ := Aside0.mk (Kd.N_afterv (ok := (fun _ => True)) (by (with_reducible repeat (first | apply Kd.N_alloc | apply Kd.N_drewN | apply Kd.N_drew)); exact Kd.N_mono HO_8.out (fun _ hk => ⟨trivial, hk⟩)) hg hat); have n1_ := Aside0.mk (Kd.V_afterv (ok := (fun k_ => some k_ ≠ (.slice (some ad193) t190.length co11 : Value).ownBlock)) (by (with_reducible repeat (first | apply Kd.V_alloc | apply Kd.V_drewN | apply Kd.V_drew)); exact Kd.V_mono HL193_0.out (fun _ hk => ⟨hk.2, hk.1⟩)) hg hat); have n2_ := Aside0.mk (Kd.V_afterv (ok := (fun k_ => some k_ ≠ (.slice (some ad193) t190.length co11 : Value).ownBlock)) (by (with_reducible repeat (first | apply Kd.V_alloc | apply Kd.V_drewN | apply Kd.V_drew)); exact Kd.V_mono HL194_0.out (fun _ hk => ⟨hk.2, hk.1⟩)) hg hat); have n3_ := Aside0.mk (hb); have n4_ := Aside0.mk (ho); clear HO_8; clear HL193_0; clear HL194_0; clear HB; clear HO_7; have HO_8 := n0_; have HL193_0 := n1_; have HL194_0 := n2_; have HB := n3_; have HO197 := n4_; clear n0_ n1_ n2_ n3_ n4_; clear ho hb hg hat))
              repeat (go_quiet (first | ((with_reducible refine gate_builtin (b := .append) (xs := #[.tmp 34, .tmp 39]) rfl ?_); (try (refine gate_guard (by rfl) ?_; dsimp only)); at_builtin; refine Kd.N_append (Kd.slice 39 k39) (w0 := w) w.heap.size rfl (.tmp 34) (.tmp 39) 30 32 (.slice none 0 0) 24 rfl Try.underlying30 info32 rfl (by decide) (by omega) u7 x7_1 (rd_L3 t190 x9_1) [.slice A193_0 (rd_L3 t190 x9_1).length c193_0] (fun k_ => some k_ ≠ (.slice (some ad193) t190.length co11 : Value).ownBlock) (fun k_ => ((fun k_ => some k_ ≠ (.slice (some ad193) t190.length co11 : Value).ownBlock)) k_ ∧ some k_ ≠ (u7 : Value).ownBlock) rfl rfl ?aP (fun _ hk => hk) ?aF ?aO ?aB ?aS ?aL ?_; (case aP => exact (Kd.FK_slice_mk (Kd.V_reads' (Kd.V_mono (ok' := (fun k_ => ((fun k_ => some k_ ≠ (.slice (some ad193) t190.length co11 : Value).ownBlock)) k_ ∧ some k_ ≠ (u7 : Value).ownBlock)) (HL194_0.out) (fun k_ hk => ⟨hk.2, hk.1⟩))).2.1 (Kd.V_F (Kd.V_mono (ok' := (fun k_ => ((fun k_ => some k_ ≠ (.slice (some ad193) t190.length co11 : Value).ownBlock)) k_ ∧ some k_ ≠ (u7 : Value).ownBlock)) (HL194_0.out) (fun k_ hk => ⟨hk.2, hk.1⟩))))); (case aB => exact (by repeat (first | (with_reducible first | exact HB.out | apply below_alloc | apply pw_below_drewN | apply below_drew1) | exact HB.out))); (case aF => exact (fun k_ hk => Kd.fresh' (Kd.N_lt (by (with_reducible repeat (first | apply Kd.N_alloc | apply Kd.N_drewN | apply Kd.N_drew)); exact HO_8.out)) k_ hk)); (case aO => exact (by (with_reducible repeat (first | apply Kd.N_alloc | apply Kd.N_drewN | apply Kd.N_drew)); exact HO_7.out)); (case aS => exact (below_size (by repeat (first | (with_reducible first | exact HB.out | apply below_alloc | apply pw_below_drewN | apply below_drew1) | exact HB.out)))); (case aL => have := LMc10.out; omega); intro v196 w12 ho hb hg hat; rw [← Ny195.out] at ho; have n0_ := Aside0.mk (Kd.N_afterv (ok := (fun _ => True)) (by (with_reducible repeat (first | apply Kd.N_alloc | apply Kd.N_drewN | apply Kd.N_drew)); exact Kd.N_mono HO_8.out (fun _ hk => ⟨trivial, hk⟩)) hg hat); have n1_ := Aside0.mk (Kd.V_afterv (ok := (fun k_ => some k_ ≠ (.slice (some ad193) t190.length co11 : Value).ownBlock)) (by (with_reducible repeat (first | apply Kd.V_alloc | apply Kd.V_drewN | apply Kd.V_drew)); exact Kd.V_mono HL193_0.out (fun _ hk => ⟨hk.2, hk.1⟩)) hg hat); have n2_ := Aside0.mk (Kd.V_afterv (ok := (fun k_ => some k_ ≠ (.slice (some ad193) t190.length co11 : Value).ownBlock)) (by (with_reducible repeat (first | apply Kd.V_alloc | apply Kd.V_drewN | apply Kd.V_drew)); exact Kd.V_mono HL194_0.out (fun _ hk => ⟨hk.2, hk.1⟩)) hg hat); have n3_ := Aside0.mk (hb); have n4_ := Aside0.mk (ho); clear HO_8; clear HL193_0; clear HL194_0; clear HB; clear HO_7; have HO_8 := n0_; have HL193_0 := n1_; have HL194_0 := n2_; have HB := n3_; have HO197 := n4_; clear n0_ n1_ n2_ n3_ n4_; clear ho hb hg hat)); try go_wp2_with (first | ((with_reducible refine gate_builtin (b := .append) (xs := #[.tmp 34, .tmp 39]) rfl ?_); (try (refine gate_guard (by rfl) ?_; dsimp only)); at_builtin; refine Kd.N_append (Kd.slice 39 k39) (w0 := w) w.heap.size rfl (.tmp 34) (.tmp 39) 30 32 (.slice none 0 0) 24 rfl Try.underlying30 info32 rfl (by decide) (by omega) u7 x7_1 (rd_L3 t190 x9_1) [.slice A193_0 (rd_L3 t190 x9_1).length c193_0] (fun k_ => some k_ ≠ (.slice (some ad193) t190.length co11 : Value).ownBlock) (fun k_ => ((fun k_ => some k_ ≠ (.slice (some ad193) t190.length co11 : Value).ownBlock)) k_ ∧ some k_ ≠ (u7 : Value).ownBlock) rfl rfl ?aP (fun _ hk => hk) ?aF ?aO ?aB ?aS ?aL ?_; (case aP => exact (Kd.FK_slice_mk (Kd.V_reads' (Kd.V_mono (ok' := (fun k_ => ((fun k_ => some k_ ≠ (.slice (some ad193) t190.length co11 : Value).ownBlock)) k_ ∧ some k_ ≠ (u7 : Value).ownBlock)) (HL194_0.out) (fun k_ hk => ⟨hk.2, hk.1⟩))).2.1 (Kd.V_F (Kd.V_mono (ok' := (fun k_ => ((fun k_ => some k_ ≠ (.slice (some ad193) t190.length co11 : Value).ownBlock)) k_ ∧ some k_ ≠ (u7 : Value).ownBlock)) (HL194_0.out) (fun k_ hk => ⟨hk.2, hk.1⟩))))); (case aB => exact (by repeat (first | (with_reducible first | exact HB.out | apply below_alloc | apply pw_below_drewN | apply below_drew1) | exact HB.out))); (case aF => exact (fun k_ hk => Kd.fresh' (Kd.N_lt (by (with_reducible repeat (first | apply Kd.N_alloc | apply Kd.N_drewN | apply Kd.N_drew)); exact HO_8.out)) k_ hk)); (case aO => exact (by (with_reducible repeat (first | apply Kd.N_alloc | apply Kd.N_drewN | apply Kd.N_drew)); exact HO_7.out)); (case aS => exact (below_size (by repeat (first | (with_reducible first | exact HB.out | apply below_alloc | apply pw_below_drewN | apply below_drew1) | exact HB.out)))); (case aL => have := LMc10.out; omega); intro v196 w12 ho hb hg hat; rw [← Ny195.out] at ho; have n0_ := Aside0.mk (Kd.N_afterv (ok := (fun _ => True)) (by (with_reducible repeat (first | apply Kd.N_alloc | apply Kd.N_drewN | apply Kd.N_drew)); exact Kd.N_mono HO_8.out (fun _ hk => ⟨trivial, hk⟩)) hg hat); have n1_ := Aside0.mk (Kd.V_afterv (ok := (fun k_ => some k_ ≠ (.slice (some ad193) t190.length co11 : Value).ownBlock)) (by (with_reducible repeat (first | apply Kd.V_alloc | apply Kd.V_drewN | apply Kd.V_drew)); exact Kd.V_mono HL193_0.out (fun _ hk => ⟨hk.2, hk.1⟩)) hg hat); have n2_ := Aside0.mk (Kd.V_afterv (ok := (fun k_ => some k_ ≠ (.slice (some ad193) t190.length co11 : Value).ownBlock)) (by (with_reducible repeat (first | apply Kd.V_alloc | apply Kd.V_drewN | apply Kd.V_drew)); exact Kd.V_mono HL194_0.out (fun _ hk => ⟨hk.2, hk.1⟩)) hg hat); have n3_ := Aside0.mk (hb); have n4_ := Aside0.mk (ho); clear HO_8; clear HL193_0; clear HL194_0; clear HB; clear HO_7; have HO_8 := n0_; have HL193_0 := n1_; have HL194_0 := n2_; have HB := n3_; have HO197 := n4_; clear n0_ n1_ n2_ n3_ n4_; clear ho hb hg hat)))
              go_roundg k1
              case measure => have := HK1.out; omega
              case rel => exact ⟨(y195), (wrap64 (x9_1 + 1)), (by first | rfl | (simp; done) | (simp [*]; done)), H', ⟨by have := HK1.out; omega⟩, ⟨by (with_reducible repeat (first | apply Kd.N_alloc | apply Kd.N_drewN | apply Kd.N_drew)); exact HO197.out⟩, ⟨by (with_reducible repeat (first | apply Kd.N_alloc | apply Kd.N_drewN | apply Kd.N_drew)); exact Kd.N_mono HO_8.out (fun _ hk => hk.2)⟩, ⟨by repeat (first | (with_reducible first | exact HB.out | apply below_alloc | apply pw_below_drewN | apply below_drew1) | exact HB.out)⟩⟩
            · rw [if_neg c10] at H
              exact absurd H (by simp)
          · rw [if_neg c9] at H
            have c9b0 : decide ((wrap64 (Int.tmod a1 4)) ≤ ((rd_L3 t190 x9_1).length : Int)) = false := decide_eq_false c9
            (try (have c9b0q_hl193_0 := c9b0; rw [hl193_0] at c9b0q_hl193_0))
            (try (have c9b0q_hl194_0 := c9b0; rw [hl194_0] at c9b0q_hl194_0))
            clear c9
            have H' := Aside0.mk H
            clear H
            obtain ⟨Ao13, co13, eo13⟩ := Kd.N_slice HO_8.out
            subst eo13
            have p193 : 0 ≤ (x9_1 : Int) := of_decide_eq_true (by first | (with_reducible assumption) | assumption)
            have q193 : x9_1 < (t190.length : Int) := of_decide_eq_true (by first | (with_reducible assumption) | assumption)
            obtain ⟨ad193, A193_0, c193_0, e193, hx193_0, hl193_0, hi193_0⟩ := at_L3 (Kd.N_reads' HO_8.out).2.2 x9_1 p193 q193
            cases e193
            obtain ⟨ce193, hce193, hMe193, hcc193⟩ := Kd.N_get HO_8.out [] x9_1 p193 (by first | exact q193 | exact of_decide_eq_true (by first | (with_reducible assumption) | assumption) | (have e_ := (Kd.N_reads' HO_8.out).1; omega))
            obtain ⟨ua193_0, uc193_0, rfl, ul193_0, ge193_0⟩ := Kd.FK_slice_open hMe193
            have hv193_0 := hcc193 0 _ rfl
            rw [Nat.add_zero, show ((Kd.slice 39 k39)).sz = 1 from rfl, Nat.mul_one] at hv193_0
            replace hv193_0 := Option.some.inj (hv193_0.symm.trans hx193_0)
            injection hv193_0 with hva_ hvn_ hvc_
            rw [hva_] at ge193_0
            rw [hvc_] at ul193_0
            have HL193_0 := Aside0.mk (show Kd.V k39 39 _ w.heap.size _ _ (rd_L3 t190 x9_1) from Kd.V_mk ul193_0 ge193_0)
            clear hva_ hvn_ hvc_ ge193_0 ul193_0
            clear hcc193 hce193
            have HR193_0 := Aside0.mk hi193_0
            have HC193_0 := Aside0.mk hl193_0
            clear hi193_0 hl193_0
            replace p193 := eq_true p193
            replace q193 := eq_true q193
            go_wp2
            repeat (go_quiet (fail); try go_wp2)
            go_roundg k1
            case measure => have := HK1.out; omega
            case rel => exact ⟨(x7_1), (wrap64 (x9_1 + 1)), (by first | rfl | (simp; done) | (simp [*]; done)), H', ⟨by have := HK1.out; omega⟩, ⟨by (with_reducible repeat (first | apply Kd.N_alloc | apply Kd.N_drewN | apply Kd.N_drew)); exact HO_7.out⟩, ⟨by (with_reducible repeat (first | apply Kd.N_alloc | apply Kd.N_drewN | apply Kd.N_drew)); exact HO_8.out⟩, ⟨by repeat (first | (with_reducible first | exact HB.out | apply below_alloc | apply pw_below_drewN | apply below_drew1) | exact HB.out)⟩⟩
        · rw [if_neg c8] at H
          exact absurd H (by simp)
      · rw [if_neg c7] at H
        have c7b0 : decide (x9_1 < (t190.length : Int)) = false := decide_eq_false c7
        (try (have c7b0q_hl193_0 := c7b0; rw [hl193_0] at c7b0q_hl193_0))
        (try (have c7b0q_hl194_0 := c7b0; rw [hl194_0] at c7b0q_hl194_0))
        clear c7
        obtain ⟨y198, hy198⟩ : ∃ y_ : List (S36), y_ = (([(⟨1, 0⟩ : S36)] : List (S36))) := ⟨_, rfl⟩
        replace H : ((agg_Group.f k1 x7_1 (wrap64 (Int.tmod a1 4)) y198).bind fun bt201 => (if bt201.2 = 0 then (law20_AggCounts.l1 k1 t189 (wrap64 (Int.tmod a1 4)) x7_1 bt201.1 0 0) else (some false))) = some r := by first | (rw [hy198]; with_reducible exact H) | (have H2_ := (Option.bind_some _ _).symm.trans H; rw [hy198]; with_reducible exact H2_) | (have H2_ := (Option.bind_some _ _).symm.trans H; with_reducible exact H2_) | with_reducible exact H | (rw [hy198]; exact H) | exact H
        have Ny198 := Aside0.mk hy198
        clear hy198
        replace H := Option.bind_eq_some_iff.mp H
        obtain ⟨⟨t201, t202⟩, A140, H⟩ := H
        replace H : (if t202 = 0 then (law20_AggCounts.l1 k1 t189 (wrap64 (Int.tmod a1 4)) x7_1 t201 0 0) else (some false)) = some r := H
        have A14 := Aside0.mk A140
        clear A140
        by_cases c15 : t202 = 0
        · rw [if_pos c15] at H
          have c15b0 : (t202 == 0) = true := beq_iff_eq.mpr c15
          have c15b1 : (t202 != 0) = false := bne_eq_false_iff_eq.mpr c15
          clear c15
          have H' := Aside0.mk H
          clear H
          obtain ⟨Ao16, co16, eo16⟩ := Kd.N_slice HO_8.out
          subst eo16
          go_wp2_with (first | ((with_reducible refine gate_dst (N := 45) rfl ?_); (try (refine gate_guard (by rfl) ?_; dsimp only)); refine Kd.R_lit k36 _ 36 ?hg (N := 45) ?hd (xs := ([(⟨1, 0⟩ : S36)] : List (S36))) (inner := [.int .i64 1, .int .i64 0]) (ok := fun _ => True) (okp := fun _ => True) ?hr ?hp (fun _ hk => hk) trivial (Below.refl _ _) (Nat.le_refl _) (by simp) ?_; (case hd => rfl); (case hg => rfl); (case hr => first | (go_simp; done) | (go_simp; rfl)); (case hp => exact (Reps.c2 (show Kd.M k36 _ _ _ (⟨1, 0⟩ : S36) [.int .i64 1, .int .i64 0] from (k36_mkM _ _ _ (⟨1, 0⟩ : S36) )) (Reps.none _ _))); intro v199 w17 ho18 hb hg_ hnew_; clear hg_ hnew_; (first | rw [← Ny198.out] at ho18 | (simp only [Int.reduceToNat] at ho18; rw [← Ny198.out] at ho18)); have n0_ := Aside0.mk (Kd.N_elder' (by (with_reducible repeat (first | apply Kd.N_alloc | apply Kd.N_drewN | apply Kd.N_drew)); exact HO_7.out) (Kd.R_base ho18) hb); have n1_ := Aside0.mk (Kd.N_elder' (by (with_reducible repeat (first | apply Kd.N_alloc | apply Kd.N_drewN | apply Kd.N_drew)); exact HO_8.out) (Kd.R_base ho18) hb); have n2_ := Aside0.mk (Kd.R_lower ho18 (below_size (by repeat (first | (with_reducible first | exact HB.out | apply below_alloc | apply pw_below_drewN | apply below_drew1) | exact HB.out)))); have n3_ := Aside0.mk (below_step (by repeat (first | (with_reducible first | exact HB.out | apply below_alloc | apply pw_below_drewN | apply below_drew1) | exact HB.out)) hb); clear HO_7; clear HO_8; clear HB; have HO_7 := n0_; have HO_8 := n1_; have HO200 := n2_; have HB := n3_; clear n0_ n1_ n2_ n3_; clear hb ho18; obtain ⟨Ao19, co19, eo19⟩ := Kd.N_slice HO_7.out; subst eo19; obtain ⟨Ao20, co20, eo20⟩ := Kd.R_slice HO200.out; subst eo20) | (go_at_call 12; (with_reducible refine (agg_Group.calls k1 _ _ x7_1 (wrap64 (Int.tmod a1 4)) _ _ y198 t201 t202 _ ?side1 ?side2 ?side3 ?side4 A14.out).mono ?_); (case side1 => repeat (first | exact (Kd.N_reads' HO_7.out).2.2 | (with_reducible refine Kd.C_alloc ?_ _) | (with_reducible refine Kd.C_drewN ?_ _) | (with_reducible refine Kd.C_drew ?_))); (case side2 => exact (Kd.N_reads' HO_7.out).2.1); (case side3 => repeat (first | exact (Kd.R_reads' HO200.out).2.2 | (with_reducible refine Kd.C_alloc ?_ _) | (with_reducible refine Kd.C_drewN ?_ _) | (with_reducible refine Kd.C_drew ?_))); (case side4 => exact (Kd.R_reads' HO200.out).2.1); rintro e w21 ⟨v203, rfl, ho0, hb⟩; have n0_ := Aside0.mk (Kd.N_elder' (by (with_reducible repeat (first | apply Kd.N_alloc | apply Kd.N_drewN | apply Kd.N_drew)); exact HO_7.out) (Kd.S_base ho0) hb); have n1_ := Aside0.mk (Kd.N_elder' (by (with_reducible repeat (first | apply Kd.N_alloc | apply Kd.N_drewN | apply Kd.N_drew)); exact HO_8.out) (Kd.S_base ho0) hb); have n2_ := Aside0.mk (Kd.R_below (by (with_reducible repeat (first | apply Kd.R_alloc | apply Kd.R_drewN | apply Kd.R_drew)); exact HO200.out) hb); have n3_ := Aside0.mk (Kd.N_lower (Kd.N_mono (ok' := fun k_ => some k_ ≠ (.slice Ao19 x7_1.length co19 : Value).ownBlock ∧ some k_ ≠ (.slice Ao16 t190.length co16 : Value).ownBlock ∧ some k_ ≠ (.slice Ao20 y198.length co20 : Value).ownBlock) (Kd.S_N (Kd.S_bound ho0)) (fun k_ hk_ => ⟨(Kd.fresh' (Kd.N_lt (by (with_reducible repeat (first | apply Kd.N_alloc | apply Kd.N_drewN | apply Kd.N_drew)); exact HO_7.out)) k_ hk_.2.1), (Kd.fresh' (Kd.N_lt (by (with_reducible repeat (first | apply Kd.N_alloc | apply Kd.N_drewN | apply Kd.N_drew)); exact HO_8.out)) k_ hk_.2.1), (Kd.fresh' (Kd.R_lt (by (with_reducible repeat (first | apply Kd.R_alloc | apply Kd.R_drewN | apply Kd.R_drew)); exact HO200.out)) k_ hk_.2.1)⟩)) (below_size (by repeat (first | (with_reducible first | exact HB.out | apply below_alloc | apply pw_below_drewN | apply below_drew1) | exact HB.out)))); have n4_ := Aside0.mk (below_step (by repeat (first | (with_reducible first | exact HB.out | apply below_alloc | apply pw_below_drewN | apply below_drew1) | exact HB.out)) hb); clear HO_7; clear HO_8; clear HO200; clear HB; have HO_7 := n0_; have HO_8 := n1_; have HO200 := n2_; have HO204 := n3_; have HB := n4_; clear n0_ n1_ n2_ n3_ n4_; (try clear hb); (try clear hb2); (try clear hk); (try clear hi); (try clear ho0)))
          repeat (go_quiet (first | ((with_reducible refine gate_dst (N := 45) rfl ?_); (try (refine gate_guard (by rfl) ?_; dsimp only)); refine Kd.R_lit k36 _ 36 ?hg (N := 45) ?hd (xs := ([(⟨1, 0⟩ : S36)] : List (S36))) (inner := [.int .i64 1, .int .i64 0]) (ok := fun _ => True) (okp := fun _ => True) ?hr ?hp (fun _ hk => hk) trivial (Below.refl _ _) (Nat.le_refl _) (by simp) ?_; (case hd => rfl); (case hg => rfl); (case hr => first | (go_simp; done) | (go_simp; rfl)); (case hp => exact (Reps.c2 (show Kd.M k36 _ _ _ (⟨1, 0⟩ : S36) [.int .i64 1, .int .i64 0] from (k36_mkM _ _ _ (⟨1, 0⟩ : S36) )) (Reps.none _ _))); intro v199 w17 ho18 hb hg_ hnew_; clear hg_ hnew_; (first | rw [← Ny198.out] at ho18 | (simp only [Int.reduceToNat] at ho18; rw [← Ny198.out] at ho18)); have n0_ := Aside0.mk (Kd.N_elder' (by (with_reducible repeat (first | apply Kd.N_alloc | apply Kd.N_drewN | apply Kd.N_drew)); exact HO_7.out) (Kd.R_base ho18) hb); have n1_ := Aside0.mk (Kd.N_elder' (by (with_reducible repeat (first | apply Kd.N_alloc | apply Kd.N_drewN | apply Kd.N_drew)); exact HO_8.out) (Kd.R_base ho18) hb); have n2_ := Aside0.mk (Kd.R_lower ho18 (below_size (by repeat (first | (with_reducible first | exact HB.out | apply below_alloc | apply pw_below_drewN | apply below_drew1) | exact HB.out)))); have n3_ := Aside0.mk (below_step (by repeat (first | (with_reducible first | exact HB.out | apply below_alloc | apply pw_below_drewN | apply below_drew1) | exact HB.out)) hb); clear HO_7; clear HO_8; clear HB; have HO_7 := n0_; have HO_8 := n1_; have HO200 := n2_; have HB := n3_; clear n0_ n1_ n2_ n3_; clear hb ho18; obtain ⟨Ao19, co19, eo19⟩ := Kd.N_slice HO_7.out; subst eo19; obtain ⟨Ao20, co20, eo20⟩ := Kd.R_slice HO200.out; subst eo20) | (go_at_call 12; (with_reducible refine (agg_Group.calls k1 _ _ x7_1 (wrap64 (Int.tmod a1 4)) _ _ y198 t201 t202 _ ?side1 ?side2 ?side3 ?side4 A14.out).mono ?_); (case side1 => repeat (first | exact (Kd.N_reads' HO_7.out).2.2 | (with_reducible refine Kd.C_alloc ?_ _) | (with_reducible refine Kd.C_drewN ?_ _) | (with_reducible refine Kd.C_drew ?_))); (case side2 => exact (Kd.N_reads' HO_7.out).2.1); (case side3 => repeat (first | exact (Kd.R_reads' HO200.out).2.2 | (with_reducible refine Kd.C_alloc ?_ _) | (with_reducible refine Kd.C_drewN ?_ _) | (with_reducible refine Kd.C_drew ?_))); (case side4 => exact (Kd.R_reads' HO200.out).2.1); rintro e w21 ⟨v203, rfl, ho0, hb⟩; have n0_ := Aside0.mk (Kd.N_elder' (by (with_reducible repeat (first | apply Kd.N_alloc | apply Kd.N_drewN | apply Kd.N_drew)); exact HO_7.out) (Kd.S_base ho0) hb); have n1_ := Aside0.mk (Kd.N_elder' (by (with_reducible repeat (first | apply Kd.N_alloc | apply Kd.N_drewN | apply Kd.N_drew)); exact HO_8.out) (Kd.S_base ho0) hb); have n2_ := Aside0.mk (Kd.R_below (by (with_reducible repeat (first | apply Kd.R_alloc | apply Kd.R_drewN | apply Kd.R_drew)); exact HO200.out) hb); have n3_ := Aside0.mk (Kd.N_lower (Kd.N_mono (ok' := fun k_ => some k_ ≠ (.slice Ao19 x7_1.length co19 : Value).ownBlock ∧ some k_ ≠ (.slice Ao16 t190.length co16 : Value).ownBlock ∧ some k_ ≠ (.slice Ao20 y198.length co20 : Value).ownBlock) (Kd.S_N (Kd.S_bound ho0)) (fun k_ hk_ => ⟨(Kd.fresh' (Kd.N_lt (by (with_reducible repeat (first | apply Kd.N_alloc | apply Kd.N_drewN | apply Kd.N_drew)); exact HO_7.out)) k_ hk_.2.1), (Kd.fresh' (Kd.N_lt (by (with_reducible repeat (first | apply Kd.N_alloc | apply Kd.N_drewN | apply Kd.N_drew)); exact HO_8.out)) k_ hk_.2.1), (Kd.fresh' (Kd.R_lt (by (with_reducible repeat (first | apply Kd.R_alloc | apply Kd.R_drewN | apply Kd.R_drew)); exact HO200.out)) k_ hk_.2.1)⟩)) (below_size (by repeat (first | (with_reducible first | exact HB.out | apply below_alloc | apply pw_below_drewN | apply below_drew1) | exact HB.out)))); have n4_ := Aside0.mk (below_step (by repeat (first | (with_reducible first | exact HB.out | apply below_alloc | apply pw_below_drewN | apply below_drew1) | exact HB.out)) hb); clear HO_7; clear HO_8; clear HO200; clear HB; have HO_7 := n0_; have HO_8 := n1_; have HO200 := n2_; have HO204 := n3_; have HB := n4_; clear n0_ n1_ n2_ n3_ n4_; (try clear hb); (try clear hb2); (try clear hk); (try clear hi); (try clear ho0))); try go_wp2_with (first | ((with_reducible refine gate_dst (N := 45) rfl ?_); (try (refine gate_guard (by rfl) ?_; dsimp only)); refine Kd.R_lit k36 _ 36 ?hg (N := 45) ?hd (xs := ([(⟨1, 0⟩ : S36)] : List (S36))) (inner := [.int .i64 1, .int .i64 0]) (ok := fun _ => True) (okp := fun _ => True) ?hr ?hp (fun _ hk => hk) trivial (Below.refl _ _) (Nat.le_refl _) (by simp) ?_; (case hd => rfl); (case hg => rfl); (case hr => first | (go_simp; done) | (go_simp; rfl)); (case hp => exact (Reps.c2 (show Kd.M k36 _ _ _ (⟨1, 0⟩ : S36) [.int .i64 1, .int .i64 0] from (k36_mkM _ _ _ (⟨1, 0⟩ : S36) )) (Reps.none _ _))); intro v199 w17 ho18 hb hg_ hnew_; clear hg_ hnew_; (first | rw [← Ny198.out] at ho18 | (simp only [Int.reduceToNat] at ho18; rw [← Ny198.out] at ho18)); have n0_ := Aside0.mk (Kd.N_elder' (by (with_reducible repeat (first | apply Kd.N_alloc | apply Kd.N_drewN | apply Kd.N_drew)); exact HO_7.out) (Kd.R_base ho18) hb); have n1_ := Aside0.mk (Kd.N_elder' (by (with_reducible repeat (first | apply Kd.N_alloc | apply Kd.N_drewN | apply Kd.N_drew)); exact HO_8.out) (Kd.R_base ho18) hb); have n2_ := Aside0.mk (Kd.R_lower ho18 (below_size (by repeat (first | (with_reducible first | exact HB.out | apply below_alloc | apply pw_below_drewN | apply below_drew1) | exact HB.out)))); have n3_ := Aside0.mk (below_step (by repeat (first | (with_reducible first | exact HB.out | apply below_alloc | apply pw_below_drewN | apply below_drew1) | exact HB.out)) hb); clear HO_7; clear HO_8; clear HB; have HO_7 := n0_; have HO_8 := n1_; have HO200 := n2_; have HB := n3_; clear n0_ n1_ n2_ n3_; clear hb ho18; obtain ⟨Ao19, co19, eo19⟩ := Kd.N_slice HO_7.out; subst eo19; obtain ⟨Ao20, co20, eo20⟩ := Kd.R_slice HO200.out; subst eo20) | (go_at_call 12; (with_reducible refine (agg_Group.calls k1 _ _ x7_1 (wrap64 (Int.tmod a1 4)) _ _ y198 t201 t202 _ ?side1 ?side2 ?side3 ?side4 A14.out).mono ?_); (case side1 => repeat (first | exact (Kd.N_reads' HO_7.out).2.2 | (with_reducible refine Kd.C_alloc ?_ _) | (with_reducible refine Kd.C_drewN ?_ _) | (with_reducible refine Kd.C_drew ?_))); (case side2 => exact (Kd.N_reads' HO_7.out).2.1); (case side3 => repeat (first | exact (Kd.R_reads' HO200.out).2.2 | (with_reducible refine Kd.C_alloc ?_ _) | (with_reducible refine Kd.C_drewN ?_ _) | (with_reducible refine Kd.C_drew ?_))); (case side4 => exact (Kd.R_reads' HO200.out).2.1); rintro e w21 ⟨v203, rfl, ho0, hb⟩; have n0_ := Aside0.mk (Kd.N_elder' (by (with_reducible repeat (first | apply Kd.N_alloc | apply Kd.N_drewN | apply Kd.N_drew)); exact HO_7.out) (Kd.S_base ho0) hb); have n1_ := Aside0.mk (Kd.N_elder' (by (with_reducible repeat (first | apply Kd.N_alloc | apply Kd.N_drewN | apply Kd.N_drew)); exact HO_8.out) (Kd.S_base ho0) hb); have n2_ := Aside0.mk (Kd.R_below (by (with_reducible repeat (first | apply Kd.R_alloc | apply Kd.R_drewN | apply Kd.R_drew)); exact HO200.out) hb); have n3_ := Aside0.mk (Kd.N_lower (Kd.N_mono (ok' := fun k_ => some k_ ≠ (.slice Ao19 x7_1.length co19 : Value).ownBlock ∧ some k_ ≠ (.slice Ao16 t190.length co16 : Value).ownBlock ∧ some k_ ≠ (.slice Ao20 y198.length co20 : Value).ownBlock) (Kd.S_N (Kd.S_bound ho0)) (fun k_ hk_ => ⟨(Kd.fresh' (Kd.N_lt (by (with_reducible repeat (first | apply Kd.N_alloc | apply Kd.N_drewN | apply Kd.N_drew)); exact HO_7.out)) k_ hk_.2.1), (Kd.fresh' (Kd.N_lt (by (with_reducible repeat (first | apply Kd.N_alloc | apply Kd.N_drewN | apply Kd.N_drew)); exact HO_8.out)) k_ hk_.2.1), (Kd.fresh' (Kd.R_lt (by (with_reducible repeat (first | apply Kd.R_alloc | apply Kd.R_drewN | apply Kd.R_drew)); exact HO200.out)) k_ hk_.2.1)⟩)) (below_size (by repeat (first | (with_reducible first | exact HB.out | apply below_alloc | apply pw_below_drewN | apply below_drew1) | exact HB.out)))); have n4_ := Aside0.mk (below_step (by repeat (first | (with_reducible first | exact HB.out | apply below_alloc | apply pw_below_drewN | apply below_drew1) | exact HB.out)) hb); clear HO_7; clear HO_8; clear HO200; clear HB; have HO_7 := n0_; have HO_8 := n1_; have HO200 := n2_; have HO204 := n3_; have HB := n4_; clear n0_ n1_ n2_ n3_ n4_; (try clear hb); (try clear hb2); (try clear hk); (try clear hi); (try clear ho0))))
          go_loopg [12, 13] k1 (fun kq v12 v13 w' => ∃ (x12_2 : Int) (x13_2 : Int), v12 = .int .i64 x12_2 ∧ v13 = .int .i64 x13_2 ∧ Aside0 (law20_AggCounts.l1 kq t189 (wrap64 (Int.tmod a1 4)) x7_1 t201 x12_2 x13_2 = some r) ∧ Aside0 (kq ≤ k1) ∧ Aside0 (Kd.N (Kd.slice 39 k39) 32 w' w.heap.size (fun k_ => some k_ ≠ (v203 : Value).ownBlock) (.slice Ao19 x7_1.length co19) x7_1) ∧ Aside0 (Kd.N (Kd.slice 39 k39) 32 w' w.heap.size (fun k_ => some k_ ≠ ((.slice Ao19 x7_1.length co19) : Value).ownBlock) v203 t201) ∧ Aside0 (Below w.heap.size w w'))
          case atStart => exact ⟨(0), (0), (by first | rfl | (simp; done) | (simp [*]; done)), (by first | rfl | (simp; done) | (simp [*]; done)), H', ⟨Nat.le_refl _⟩, ⟨by (with_reducible repeat (first | apply Kd.N_alloc | apply Kd.N_drewN | apply Kd.N_drew)); exact Kd.N_mono HO_7.out (fun _ hk => hk.2)⟩, ⟨by (with_reducible repeat (first | apply Kd.N_alloc | apply Kd.N_drewN | apply Kd.N_drew)); exact Kd.N_mono HO204.out (fun _ hk => hk.1)⟩, ⟨by repeat (first | (with_reducible first | exact HB.out | apply below_alloc | apply pw_below_drewN | apply below_drew1) | exact HB.out)⟩⟩
          case round =>
            clear H'
            try clear c1
            try clear p1
            try clear q1
            try clear hx1
            try clear c2
            try clear p2
            try clear c5
            try clear p6
            try clear c7
            try clear c7b0
            try clear c8
            try clear c8b0
            try clear c9
            try clear c9b0
            try clear c10
            try clear c15
            try clear c15b0
            try clear c15b1
            try clear c19
            try clear p19
            try clear q19
            try clear hx19
            try clear hx193_0
            try clear hx194_0
            try clear p193
            try clear p194
            try clear p2
            try clear p6
            try clear q193
            try clear q194
            obtain ⟨x12_2, x13_2, rfl, rfl, HA, HK2, HO_7, HO_10, HB⟩ := hrel
            cases gk with
            | zero => exact absurd HA.out (by simp [law20_AggCounts.l1])
            | succ k2 =>
              have H := HA.out
              clear HA
              simp only [law20_AggCounts.l1] at H
              by_cases c22 : x13_2 < (t201.length : Int)
              · rw [if_pos c22] at H
                have c22b0 : decide (x13_2 < (t201.length : Int)) = true := decide_eq_true c22
                (try (have c22b0q_hl193_0 := c22b0; rw [hl193_0] at c22b0q_hl193_0))
                (try (have c22b0q_hl194_0 := c22b0; rw [hl194_0] at c22b0q_hl194_0))
                clear c22
                have HC23 := Aside0.mk H
                clear H
                obtain ⟨Ao24, co24, eo24⟩ := Kd.N_slice HO_10.out
                subst eo24
                go_upto_region 17 with (fail)
                repeat (go_quiet (fail); go_upto_region 17 with (fail))
                go_cut [75] (fun v75 wc => ∃ (kq : Nat) (x75_22 : Bool), v75 = .bool x75_22 ∧ Aside0 (law20_AggCounts.j2 kq t189 (wrap64 (Int.tmod a1 4)) x7_1 t201 x12_2 x13_2 x75_22 = some r) ∧ Aside0 (kq ≤ k2) ∧ Aside0 (Kd.N (Kd.slice 39 k39) 32 wc w.heap.size (fun k_ => some k_ ≠ ((.slice Ao24 t201.length co24) : Value).ownBlock) (.slice Ao19 x7_1.length co19) x7_1) ∧ Aside0 (Kd.N (Kd.slice 39 k39) 32 wc w.heap.size (fun k_ => some k_ ≠ ((.slice Ao19 x7_1.length co19) : Value).ownBlock) (.slice Ao24 t201.length co24) t201) ∧ Aside0 (Below w.heap.size w wc))
                case first =>
                  have H := HC23.out
                  clear HC23
                  by_cases c25 : 0 ≤ x13_2
                  · rw [if_pos c25] at H
                    have c25b0 : decide (0 ≤ x13_2) = true := decide_eq_true c25
                    clear c25
                    (first | rw [c25b0] | (simp only [i64_w, i32_w]; rw [c25b0]) | skip)
                    by_cases c26 : ((rd_L3 t201 x13_2).length : Int) = (wrap64 ((wrap64 (Int.tmod a1 4)) + 1))
                    · rw [if_pos c26] at H
                      have c26b0 : (((rd_L3 t201 x13_2).length : Int) == (wrap64 ((wrap64 (Int.tmod a1 4)) + 1))) = true := beq_iff_eq.mpr c26
                      (try (have c26b0q_hl193_0 := c26b0; rw [hl193_0] at c26b0q_hl193_0))
                      (try (have c26b0q_hl194_0 := c26b0; rw [hl194_0] at c26b0q_hl194_0))
                      have c26b1 : (((rd_L3 t201 x13_2).length : Int) != (wrap64 ((wrap64 (Int.tmod a1 4)) + 1))) = false := bne_eq_false_iff_eq.mpr c26
                      (try (have c26b1q_hl193_0 := c26b1; rw [hl193_0] at c26b1q_hl193_0))
                      (try (have c26b1q_hl194_0 := c26b1; rw [hl194_0] at c26b1q_hl194_0))
                      clear c26
                      obtain ⟨ji27, hji27⟩ : ∃ j_ : Int, (wrap64 (Int.tmod a1 4)) = j_ := ⟨_, rfl⟩
                      replace H : (if 0 ≤ (ji27) then (if (ji27) < ((rd_L3 t201 x13_2).length : Int) then (law20_AggCounts.j2 k2 t189 (ji27) x7_1 t201 x12_2 x13_2 (((rd_T39 (rd_L3 t201 x13_2) (ji27)).f0) != 1)) else (none)) else (none)) = some r := by first | (rw [hji27] at H; exact H) | (simp only [hji27] at H ⊢; exact H)
                      (try rw [hji27] at c26b0)
                      (try rw [hji27] at c26b1)
                      have hji27w : (IntKind.i64.wrap (Int.tmod a1 4)) = ji27 := (i64_w _).trans hji27
                      by_cases c28 : 0 ≤ (ji27)
                      · rw [if_pos c28] at H
                        have c28b0 : decide (0 ≤ (ji27)) = true := decide_eq_true c28
                        clear c28
                        by_cases c29 : (ji27) < ((rd_L3 t201 x13_2).length : Int)
                        · rw [if_pos c29] at H
                          have c29b0 : decide ((ji27) < ((rd_L3 t201 x13_2).length : Int)) = true := decide_eq_true c29
                          (try (have c29b0q_hl193_0 := c29b0; rw [hl193_0] at c29b0q_hl193_0))
                          (try (have c29b0q_hl194_0 := c29b0; rw [hl194_0] at c29b0q_hl194_0))
                          clear c29
                          have H' := Aside0.mk H
                          clear H
                          have p205 : 0 ≤ (x13_2 : Int) := of_decide_eq_true (by first | (with_reducible assumption) | assumption)
                          have q205 : x13_2 < (t201.length : Int) := of_decide_eq_true (by first | (with_reducible assumption) | assumption)
                          obtain ⟨ad205, A205_0, c205_0, e205, hx205_0, hl205_0, hi205_0⟩ := at_L3 (Kd.N_reads' HO_10.out).2.2 x13_2 p205 q205
                          cases e205
                          obtain ⟨ce205, hce205, hMe205, hcc205⟩ := Kd.N_get HO_10.out [] x13_2 p205 (by first | exact q205 | exact of_decide_eq_true (by first | (with_reducible assumption) | assumption) | (have e_ := (Kd.N_reads' HO_10.out).1; omega))
                          obtain ⟨ua205_0, uc205_0, rfl, ul205_0, ge205_0⟩ := Kd.FK_slice_open hMe205
                          have hv205_0 := hcc205 0 _ rfl
                          rw [Nat.add_zero, show ((Kd.slice 39 k39)).sz = 1 from rfl, Nat.mul_one] at hv205_0
                          replace hv205_0 := Option.some.inj (hv205_0.symm.trans hx205_0)
                          injection hv205_0 with hva_ hvn_ hvc_
                          rw [hva_] at ge205_0
                          rw [hvc_] at ul205_0
                          have HL205_0 := Aside0.mk (show Kd.V k39 39 _ w.heap.size _ _ (rd_L3 t201 x13_2) from Kd.V_mk ul205_0 ge205_0)
                          clear hva_ hvn_ hvc_ ge205_0 ul205_0
                          clear hcc205 hce205
                          have HR205_0 := Aside0.mk hi205_0
                          have HC205_0 := Aside0.mk hl205_0
                          clear hi205_0 hl205_0
                          replace p205 := eq_true p205
                          replace q205 := eq_true q205
                          have p206 : 0 ≤ (x13_2 : Int) := of_decide_eq_true (by first | (with_reducible assumption) | assumption)
                          have q206 : x13_2 < (t201.length : Int) := of_decide_eq_true (by first | (with_reducible assumption) | assumption)
                          obtain ⟨ad206, A206_0, c206_0, e206, hx206_0, hl206_0, hi206_0⟩ := at_L3 (Kd.N_reads' HO_10.out).2.2 x13_2 p206 q206
                          obtain rfl : ad205 = ad206 := (by injection e206)
                          obtain ⟨ce206, hce206, hMe206, hcc206⟩ := Kd.N_get HO_10.out [] x13_2 p206 (by first | exact q206 | exact of_decide_eq_true (by first | (with_reducible assumption) | assumption) | (have e_ := (Kd.N_reads' HO_10.out).1; omega))
                          obtain ⟨ua206_0, uc206_0, rfl, ul206_0, ge206_0⟩ := Kd.FK_slice_open hMe206
                          have hv206_0 := hcc206 0 _ rfl
                          rw [Nat.add_zero, show ((Kd.slice 39 k39)).sz = 1 from rfl, Nat.mul_one] at hv206_0
                          replace hv206_0 := Option.some.inj (hv206_0.symm.trans hx206_0)
                          injection hv206_0 with hva_ hvn_ hvc_
                          rw [hva_] at ge206_0
                          rw [hvc_] at ul206_0
                          have HL206_0 := Aside0.mk (show Kd.V k39 39 _ w.heap.size _ _ (rd_L3 t201 x13_2) from Kd.V_mk ul206_0 ge206_0)
                          clear hva_ hvn_ hvc_ ge206_0 ul206_0
                          clear hcc206 hce206
                          have HR206_0 := Aside0.mk hi206_0
                          have HC206_0 := Aside0.mk hl206_0
                          clear hi206_0 hl206_0
                          replace p206 := eq_true p206
                          replace q206 := eq_true q206
                          have ea_ := Option.some.inj (hx205_0.symm.trans hx206_0)
                          injection ea_ with ea_ en_ ec_
                          subst ea_
                          subst ec_
                          clear en_
                          have p207 : 0 ≤ ((ji27) : Int) := of_decide_eq_true (by first | (with_reducible assumption) | assumption)
                          have q207 : (ji27) < ((rd_L3 t201 x13_2).length : Int) := of_decide_eq_true (by first | (with_reducible assumption) | assumption)
                          obtain ⟨ad207, e207, hx207_0, hx207_1, hx207_2⟩ := at_T39 (by repeat (first | (with_reducible exact HR206_0.out) | (with_reducible refine Kd.C_alloc ?_ _) | (with_reducible refine Kd.C_drewN ?_ _) | (with_reducible refine Kd.C_drew ?_) | exact HR206_0.out)) (ji27) p207 q207
                          cases e207
                          replace p207 := eq_true p207
                          replace q207 := eq_true q207
                          go_wp2
                          repeat (go_quiet (fail); try go_wp2)
                          subst hji27
                          go_meet
                          case rel => exact ⟨_, ((((rd_T39 (rd_L3 t201 x13_2) (wrap64 (Int.tmod a1 4))).f0) != 1)), (by first | rfl | (simp; done) | (simp only [← hji27] <;> (first | rfl | simp)) | (simp [*]; done)), H', ⟨by have := HK1.out; have := HK2.out; first | omega | exact Nat.le_refl _⟩, ⟨by (with_reducible repeat (first | apply Kd.N_alloc | apply Kd.N_drewN | apply Kd.N_drew)); exact HO_7.out⟩, ⟨by (with_reducible repeat (first | apply Kd.N_alloc | apply Kd.N_drewN | apply Kd.N_drew)); exact HO_10.out⟩, ⟨by repeat (first | (with_reducible first | exact HB.out | apply below_alloc | apply pw_below_drewN | apply below_drew1) | exact HB.out)⟩⟩
                        · rw [if_neg c29] at H
                          exact absurd H (by simp)
                      · rw [if_neg c28] at H
                        exact absurd H (by simp)
                    · rw [if_neg c26] at H
                      have c26b0 : (((rd_L3 t201 x13_2).length : Int) == (wrap64 ((wrap64 (Int.tmod a1 4)) + 1))) = false := beq_eq_false_iff_ne.mpr c26
                      (try (have c26b0q_hl193_0 := c26b0; rw [hl193_0] at c26b0q_hl193_0))
                      (try (have c26b0q_hl194_0 := c26b0; rw [hl194_0] at c26b0q_hl194_0))
                      (try (have c26b0q_hl205_0 := c26b0; rw [hl205_0] at c26b0q_hl205_0))
                      (try (have c26b0q_hl206_0 := c26b0; rw [hl206_0] at c26b0q_hl206_0))
                      have c26b1 : (((rd_L3 t201 x13_2).length : Int) != (wrap64 ((wrap64 (Int.tmod a1 4)) + 1))) = true := bne_iff_ne.mpr c26
                      (try (have c26b1q_hl193_0 := c26b1; rw [hl193_0] at c26b1q_hl193_0))
                      (try (have c26b1q_hl194_0 := c26b1; rw [hl194_0] at c26b1q_hl194_0))
                      (try (have c26b1q_hl205_0 := c26b1; rw [hl205_0] at c26b1q_hl205_0))
                      (try (have c26b1q_hl206_0 := c26b1; rw [hl206_0] at c26b1q_hl206_0))
                      have H' := Aside0.mk H
                      clear H
                      have p205 : 0 ≤ (x13_2 : Int) := of_decide_eq_true (by first | (with_reducible assumption) | assumption)
                      have q205 : x13_2 < (t201.length : Int) := of_decide_eq_true (by first | (with_reducible assumption) | assumption)
                      obtain ⟨ad205, A205_0, c205_0, e205, hx205_0, hl205_0, hi205_0⟩ := at_L3 (Kd.N_reads' HO_10.out).2.2 x13_2 p205 q205
                      cases e205
                      obtain ⟨ce205, hce205, hMe205, hcc205⟩ := Kd.N_get HO_10.out [] x13_2 p205 (by first | exact q205 | exact of_decide_eq_true (by first | (with_reducible assumption) | assumption) | (have e_ := (Kd.N_reads' HO_10.out).1; omega))
                      obtain ⟨ua205_0, uc205_0, rfl, ul205_0, ge205_0⟩ := Kd.FK_slice_open hMe205
                      have hv205_0 := hcc205 0 _ rfl
                      rw [Nat.add_zero, show ((Kd.slice 39 k39)).sz = 1 from rfl, Nat.mul_one] at hv205_0
                      replace hv205_0 := Option.some.inj (hv205_0.symm.trans hx205_0)
                      injection hv205_0 with hva_ hvn_ hvc_
                      rw [hva_] at ge205_0
                      rw [hvc_] at ul205_0
                      have HL205_0 := Aside0.mk (show Kd.V k39 39 _ w.heap.size _ _ (rd_L3 t201 x13_2) from Kd.V_mk ul205_0 ge205_0)
                      clear hva_ hvn_ hvc_ ge205_0 ul205_0
                      clear hcc205 hce205
                      have HR205_0 := Aside0.mk hi205_0
                      have HC205_0 := Aside0.mk hl205_0
                      clear hi205_0 hl205_0
                      replace p205 := eq_true p205
                      replace q205 := eq_true q205
                      go_wp2
                      repeat (go_quiet (fail); try go_wp2)
                      go_meet
                      case rel => exact ⟨_, (true), (by first | rfl | (simp; done) | (simp [*]; done)), H', ⟨by have := HK1.out; have := HK2.out; first | omega | exact Nat.le_refl _⟩, ⟨by (with_reducible repeat (first | apply Kd.N_alloc | apply Kd.N_drewN | apply Kd.N_drew)); exact HO_7.out⟩, ⟨by (with_reducible repeat (first | apply Kd.N_alloc | apply Kd.N_drewN | apply Kd.N_drew)); exact HO_10.out⟩, ⟨by repeat (first | (with_reducible first | exact HB.out | apply below_alloc | apply pw_below_drewN | apply below_drew1) | exact HB.out)⟩⟩
                  · rw [if_neg c25] at H
                    exact absurd H (by simp)
                case rest =>
                  clear HC23
                  try clear c1
                  try clear p1
                  try clear q1
                  try clear hx1
                  try clear c2
                  try clear p2
                  try clear q2
                  try clear hx2
                  try clear c5
                  try clear p6
                  try clear c7
                  try clear c7b0
                  try clear c8
                  try clear c8b0
                  try clear c9
                  try clear c9b0
                  try clear c10
                  try clear c15
                  try clear c15b0
                  try clear c15b1
                  try clear c19
                  try clear p19
                  try clear q19
                  try clear hx19
                  try clear c20
                  try clear p20
                  try clear q20
                  try clear hx20
                  try clear c22
                  try clear c22b0
                  try clear c25
                  try clear c25b0
                  try clear c26
                  try clear c26b0
                  try clear c26b1
                  try clear c28
                  try clear c28b0
                  try clear c29
                  try clear c29b0
                  try clear hx193_0
                  try clear hx194_0
                  try clear hx205_0
                  try clear hx206_0
                  try clear hx207_0
                  try clear hx207_1
                  try clear hx207_2
                  try clear p1
                  try clear p19
                  try clear p193
                  try clear p194
                  try clear p2
                  try clear p205
                  try clear p206
                  try clear p207
                  try clear p6
                  try clear q1
                  try clear q19
                  try clear q193
                  try clear q194
                  try clear q205
                  try clear q206
                  try clear q207
                  obtain ⟨kq, x75_22, rfl, HA, HJ22, HO_7, HO_10, HB⟩ := hcut
                  cases kq with
                  | zero => exact absurd HA.out (by simp [law20_AggCounts.j2])
                  | succ kj22 =>
                    have H := HA.out
                    clear HA
                    simp only [law20_AggCounts.j2] at H
                    by_cases c30 : x75_22 = true
                    · subst c30
                      have H1 : (some false) = some r := by rw [if_pos rfl] at H; exact H
                      clear H
                      have H := H1
                      clear H1
                      exact absurd ((Option.some.inj H).trans hr_.out) (by decide)
                    · replace c30 := Bool.eq_false_iff.mpr c30
                      subst c30
                      have H1 : (if 0 ≤ x13_2 then (if x13_2 < (t201.length : Int) then (if 0 ≤ (wrap64 (Int.tmod a1 4)) then (if (wrap64 (Int.tmod a1 4)) < ((rd_L3 t201 x13_2).length : Int) then (law20_AggCounts.l2 kj22 t189 (wrap64 (Int.tmod a1 4)) x7_1 t201 (wrap64 (x12_2 + ((rd_T39 (rd_L3 t201 x13_2) (wrap64 (Int.tmod a1 4))).f1))) x13_2 0) else (none)) else (none)) else (none)) else (none)) = some r := by rw [if_neg (show ¬ (false = true) by decide)] at H; exact H
                      clear H
                      have H := H1
                      clear H1
                      by_cases c31 : 0 ≤ x13_2
                      · rw [if_pos c31] at H
                        have c31b0 : decide (0 ≤ x13_2) = true := decide_eq_true c31
                        clear c31
                        by_cases c32 : x13_2 < (t201.length : Int)
                        · rw [if_pos c32] at H
                          have c32b0 : decide (x13_2 < (t201.length : Int)) = true := decide_eq_true c32
                          (try (have c32b0q_hl193_0 := c32b0; rw [hl193_0] at c32b0q_hl193_0))
                          (try (have c32b0q_hl194_0 := c32b0; rw [hl194_0] at c32b0q_hl194_0))
                          (try (have c32b0q_hl205_0 := c32b0; rw [hl205_0] at c32b0q_hl205_0))
                          (try (have c32b0q_hl206_0 := c32b0; rw [hl206_0] at c32b0q_hl206_0))
                          clear c32
                          obtain ⟨ji33, hji33⟩ : ∃ j_ : Int, (wrap64 (Int.tmod a1 4)) = j_ := ⟨_, rfl⟩
                          replace H : (if 0 ≤ (ji33) then (if (ji33) < ((rd_L3 t201 x13_2).length : Int) then (law20_AggCounts.l2 kj22 t189 (ji33) x7_1 t201 (wrap64 (x12_2 + ((rd_T39 (rd_L3 t201 x13_2) (ji33)).f1))) x13_2 0) else (none)) else (none)) = some r := by first | (rw [hji33] at H; exact H) | (simp only [hji33] at H ⊢; exact H)
                          have hji33w : (IntKind.i64.wrap (Int.tmod a1 4)) = ji33 := (i64_w _).trans hji33
                          by_cases c34 : 0 ≤ (ji33)
                          · rw [if_pos c34] at H
                            have c34b0 : decide (0 ≤ (ji33)) = true := decide_eq_true c34
                            clear c34
                            by_cases c35 : (ji33) < ((rd_L3 t201 x13_2).length : Int)
                            · rw [if_pos c35] at H
                              have c35b0 : decide ((ji33) < ((rd_L3 t201 x13_2).length : Int)) = true := decide_eq_true c35
                              (try (have c35b0q_hl193_0 := c35b0; rw [hl193_0] at c35b0q_hl193_0))
                              (try (have c35b0q_hl194_0 := c35b0; rw [hl194_0] at c35b0q_hl194_0))
                              (try (have c35b0q_hl205_0 := c35b0; rw [hl205_0] at c35b0q_hl205_0))
                              (try (have c35b0q_hl206_0 := c35b0; rw [hl206_0] at c35b0q_hl206_0))
                              clear c35
                              have H' := Aside0.mk H
                              clear H
                              have p208 : 0 ≤ (x13_2 : Int) := of_decide_eq_true (by first | (with_reducible assumption) | assumption)
                              have q208 : x13_2 < (t201.length : Int) := of_decide_eq_true (by first | (with_reducible assumption) | assumption)
                              obtain ⟨ad208, A208_0, c208_0, e208, hx208_0, hl208_0, hi208_0⟩ := at_L3 (Kd.N_reads' HO_10.out).2.2 x13_2 p208 q208
                              cases e208
                              obtain ⟨ce208, hce208, hMe208, hcc208⟩ := Kd.N_get HO_10.out [] x13_2 p208 (by first | exact q208 | exact of_decide_eq_true (by first | (with_reducible assumption) | assumption) | (have e_ := (Kd.N_reads' HO_10.out).1; omega))
                              obtain ⟨ua208_0, uc208_0, rfl, ul208_0, ge208_0⟩ := Kd.FK_slice_open hMe208
                              have hv208_0 := hcc208 0 _ rfl
                              rw [Nat.add_zero, show ((Kd.slice 39 k39)).sz = 1 from rfl, Nat.mul_one] at hv208_0
                              replace hv208_0 := Option.some.inj (hv208_0.symm.trans hx208_0)
                              injection hv208_0 with hva_ hvn_ hvc_
                              rw [hva_] at ge208_0
                              rw [hvc_] at ul208_0
                              have HL208_0 := Aside0.mk (show Kd.V k39 39 _ w.heap.size _ _ (rd_L3 t201 x13_2) from Kd.V_mk ul208_0 ge208_0)
                              clear hva_ hvn_ hvc_ ge208_0 ul208_0
                              clear hcc208 hce208
                              have HR208_0 := Aside0.mk hi208_0
                              have HC208_0 := Aside0.mk hl208_0
                              clear hi208_0 hl208_0
                              replace p208 := eq_true p208
                              replace q208 := eq_true q208
                              have p209 : 0 ≤ ((ji33) : Int) := of_decide_eq_true (by first | (with_reducible assumption) | assumption)
                              have q209 : (ji33) < ((rd_L3 t201 x13_2).length : Int) := of_decide_eq_true (by first | (with_reducible assumption) | assumption)
                              obtain ⟨ad209, e209, hx209_0, hx209_1, hx209_2⟩ := at_T39 (by repeat (first | (with_reducible exact HR208_0.out) | (with_reducible refine Kd.C_alloc ?_ _) | (with_reducible refine Kd.C_drewN ?_ _) | (with_reducible refine Kd.C_drew ?_) | exact HR208_0.out)) (ji33) p209 q209
                              cases e209
                              replace p209 := eq_true p209
                              replace q209 := eq_true q209
                              go_wp2
                              repeat (go_quiet (fail); try go_wp2)
                              subst hji33
                              go_loopg [14] kj22 (fun kq v14 w' => ∃ (x14_4 : Int), v14 = .int .i64 x14_4 ∧ Aside0 (law20_AggCounts.l2 kq t189 (wrap64 (Int.tmod a1 4)) x7_1 t201 (wrap64 (x12_2 + ((rd_T39 (rd_L3 t201 x13_2) (wrap64 (Int.tmod a1 4))).f1))) x13_2 x14_4 = some r) ∧ Aside0 (kq ≤ kj22) ∧ Aside0 (Kd.N (Kd.slice 39 k39) 32 w' w.heap.size (fun k_ => some k_ ≠ ((.slice (some ad208) t201.length co24) : Value).ownBlock) (.slice Ao19 x7_1.length co19) x7_1) ∧ Aside0 (Kd.N (Kd.slice 39 k39) 32 w' w.heap.size (fun k_ => some k_ ≠ ((.slice Ao19 x7_1.length co19) : Value).ownBlock) (.slice (some ad208) t201.length co24) t201) ∧ Aside0 (Kd.C k39 w' (some ad209) (rd_L3 t201 x13_2).length (rd_L3 t201 x13_2)) ∧ Aside0 (Below w.heap.size w w'))
                              case atStart => exact ⟨(0), (by first | rfl | (simp; done) | (simp [*]; done)), H', ⟨Nat.le_refl _⟩, ⟨by (with_reducible repeat (first | apply Kd.N_alloc | apply Kd.N_drewN | apply Kd.N_drew)); exact HO_7.out⟩, ⟨by (with_reducible repeat (first | apply Kd.N_alloc | apply Kd.N_drewN | apply Kd.N_drew)); exact HO_10.out⟩, ⟨by repeat (first | (with_reducible exact HR208_0.out) | (with_reducible refine Kd.C_alloc ?_ _) | (with_reducible refine Kd.C_drewN ?_ _) | (with_reducible refine Kd.C_drew ?_) | exact HR208_0.out)⟩, ⟨by repeat (first | (with_reducible first | exact HB.out | apply below_alloc | apply pw_below_drewN | apply below_drew1) | exact HB.out)⟩⟩
                              case round =>
                                clear H'
                                try clear c1
                                try clear p1
                                try clear q1
                                try clear hx1
                                try clear c2
                                try clear p2
                                try clear q2
                                try clear hx2
                                try clear c3
                                try clear c5
                                try clear p6
                                try clear c7
                                try clear c7b0
                                try clear c8
                                try clear c8b0
                                try clear c9
                                try clear c9b0
                                try clear c10
                                try clear c15
                                try clear c15b0
                                try clear c15b1
                                try clear c19
                                try clear p19
                                try clear q19
                                try clear hx19
                                try clear c20
                                try clear p20
                                try clear q20
                                try clear hx20
                                try clear c22
                                try clear c22b0
                                try clear c25
                                try clear c25b0
                                try clear c26
                                try clear c26b0
                                try clear c26b1
                                try clear c28
                                try clear c28b0
                                try clear c29
                                try clear c29b0
                                try clear c30
                                try clear c31
                                try clear c31b0
                                try clear c32
                                try clear c32b0
                                try clear c34
                                try clear c34b0
                                try clear c35
                                try clear c35b0
                                try clear hx193_0
                                try clear hx194_0
                                try clear hx205_0
                                try clear hx206_0
                                try clear hx207_0
                                try clear hx207_1
                                try clear hx207_2
                                try clear hx208_0
                                try clear hx209_0
                                try clear hx209_1
                                try clear hx209_2
                                try clear p1
                                try clear p19
                                try clear p193
                                try clear p194
                                try clear p2
                                try clear p20
                                try clear p205
                                try clear p206
                                try clear p207
                                try clear p208
                                try clear p209
                                try clear p6
                                try clear q1
                                try clear q19
                                try clear q193
                                try clear q194
                                try clear q2
                                try clear q20
                                try clear q205
                                try clear q206
                                try clear q207
                                try clear q208
                                try clear q209
                                obtain ⟨x14_4, rfl, HA, HK4, HO_7, HO_10, HR208_0, HB⟩ := hrel
                                cases gk with
                                | zero => exact absurd HA.out (by simp [law20_AggCounts.l2])
                                | succ k4 =>
                                  have H := HA.out
                                  clear HA
                                  simp only [law20_AggCounts.l2] at H
                                  by_cases c36 : x14_4 < x13_2
                                  · rw [if_pos c36] at H
                                    have c36b0 : decide (x14_4 < x13_2) = true := decide_eq_true c36
                                    clear c36
                                    by_cases c37 : 0 ≤ x13_2
                                    · rw [if_pos c37] at H
                                      have c37b0 : decide (0 ≤ x13_2) = true := decide_eq_true c37
                                      clear c37
                                      by_cases c38 : x13_2 < (t201.length : Int)
                                      · rw [if_pos c38] at H
                                        have c38b0 : decide (x13_2 < (t201.length : Int)) = true := decide_eq_true c38
                                        (try (have c38b0q_hl193_0 := c38b0; rw [hl193_0] at c38b0q_hl193_0))
                                        (try (have c38b0q_hl194_0 := c38b0; rw [hl194_0] at c38b0q_hl194_0))
                                        (try (have c38b0q_hl205_0 := c38b0; rw [hl205_0] at c38b0q_hl205_0))
                                        (try (have c38b0q_hl206_0 := c38b0; rw [hl206_0] at c38b0q_hl206_0))
                                        (try (have c38b0q_hl208_0 := c38b0; rw [hl208_0] at c38b0q_hl208_0))
                                        clear c38
                                        by_cases c39 : 0 ≤ (wrap64 (Int.tmod a1 4))
                                        · rw [if_pos c39] at H
                                          have c39b0 := eq_true c39
                                          have c39b1 : decide (0 ≤ (wrap64 (Int.tmod a1 4))) = true := decide_eq_true c39
                                          clear c39
                                          by_cases c40 : (wrap64 (Int.tmod a1 4)) ≤ ((rd_L3 t201 x13_2).length : Int)
                                          · rw [if_pos c40] at H
                                            have c40b0 := eq_true c40
                                            have c40b1 : decide ((wrap64 (Int.tmod a1 4)) ≤ ((rd_L3 t201 x13_2).length : Int)) = true := decide_eq_true c40
                                            (try (have c40b1q_hl193_0 := c40b1; rw [hl193_0] at c40b1q_hl193_0))
                                            (try (have c40b1q_hl194_0 := c40b1; rw [hl194_0] at c40b1q_hl194_0))
                                            (try (have c40b1q_hl205_0 := c40b1; rw [hl205_0] at c40b1q_hl205_0))
                                            (try (have c40b1q_hl206_0 := c40b1; rw [hl206_0] at c40b1q_hl206_0))
                                            (try (have c40b1q_hl208_0 := c40b1; rw [hl208_0] at c40b1q_hl208_0))
                                            clear c40
                                            obtain ⟨y211, hy211⟩ : ∃ y_ : List (S39), y_ = ((rd_L3 t201 x13_2).take ((wrap64 (Int.tmod a1 4)) : Int).toNat) := ⟨_, rfl⟩
                                            replace H : (if 0 ≤ x14_4 then (if x14_4 < (t201.length : Int) then (if (wrap64 (Int.tmod a1 4)) ≤ ((rd_L3 t201 x14_4).length : Int) then ((ref05_Same.f k4 y211 ((rd_L3 t201 x14_4).take ((wrap64 (Int.tmod a1 4)) : Int).toNat)).bind fun t222 => (if t222 = true then (some false) else (law20_AggCounts.l2 k4 t189 (wrap64 (Int.tmod a1 4)) x7_1 t201 (wrap64 (x12_2 + ((rd_T39 (rd_L3 t201 x13_2) (wrap64 (Int.tmod a1 4))).f1))) x13_2 (wrap64 (x14_4 + 1))))) else (none)) else (none)) else (none)) = some r := by first | (rw [hy211]; with_reducible exact H) | (have H2_ := (Option.bind_some _ _).symm.trans H; rw [hy211]; with_reducible exact H2_) | (have H2_ := (Option.bind_some _ _).symm.trans H; with_reducible exact H2_) | with_reducible exact H | (rw [hy211]; exact H) | exact H
                                            have Ny211 := Aside0.mk hy211
                                            clear hy211
                                            by_cases c41 : 0 ≤ x14_4
                                            · rw [if_pos c41] at H
                                              have c41b0 : decide (0 ≤ x14_4) = true := decide_eq_true c41
                                              clear c41
                                              by_cases c42 : x14_4 < (t201.length : Int)
                                              · rw [if_pos c42] at H
                                                have c42b0 : decide (x14_4 < (t201.length : Int)) = true := decide_eq_true c42
                                                (try (have c42b0q_hl193_0 := c42b0; rw [hl193_0] at c42b0q_hl193_0))
                                                (try (have c42b0q_hl194_0 := c42b0; rw [hl194_0] at c42b0q_hl194_0))
                                                (try (have c42b0q_hl205_0 := c42b0; rw [hl205_0] at c42b0q_hl205_0))
                                                (try (have c42b0q_hl206_0 := c42b0; rw [hl206_0] at c42b0q_hl206_0))
                                                (try (have c42b0q_hl208_0 := c42b0; rw [hl208_0] at c42b0q_hl208_0))
                                                clear c42
                                                have c43b0 := eq_true (of_decide_eq_true (by first | (with_reducible assumption) | assumption) : 0 ≤ (wrap64 (Int.tmod a1 4)))
                                                by_cases c44 : (wrap64 (Int.tmod a1 4)) ≤ ((rd_L3 t201 x14_4).length : Int)
                                                · rw [if_pos c44] at H
                                                  have c44b0 := eq_true c44
                                                  have c44b1 : decide ((wrap64 (Int.tmod a1 4)) ≤ ((rd_L3 t201 x14_4).length : Int)) = true := decide_eq_true c44
                                                  (try (have c44b1q_hl193_0 := c44b1; rw [hl193_0] at c44b1q_hl193_0))
                                                  (try (have c44b1q_hl194_0 := c44b1; rw [hl194_0] at c44b1q_hl194_0))
                                                  (try (have c44b1q_hl205_0 := c44b1; rw [hl205_0] at c44b1q_hl205_0))
                                                  (try (have c44b1q_hl206_0 := c44b1; rw [hl206_0] at c44b1q_hl206_0))
                                                  (try (have c44b1q_hl208_0 := c44b1; rw [hl208_0] at c44b1q_hl208_0))
                                                  clear c44
                                                  obtain ⟨y217, hy217⟩ : ∃ y_ : List (S39), y_ = ((rd_L3 t201 x14_4).take ((wrap64 (Int.tmod a1 4)) : Int).toNat) := ⟨_, rfl⟩
                                                  replace H : ((ref05_Same.f k4 y211 y217).bind fun t222 => (if t222 = true then (some false) else (law20_AggCounts.l2 k4 t189 (wrap64 (Int.tmod a1 4)) x7_1 t201 (wrap64 (x12_2 + ((rd_T39 (rd_L3 t201 x13_2) (wrap64 (Int.tmod a1 4))).f1))) x13_2 (wrap64 (x14_4 + 1))))) = some r := by first | (rw [hy217]; with_reducible exact H) | (have H2_ := (Option.bind_some _ _).symm.trans H; rw [hy217]; with_reducible exact H2_) | (have H2_ := (Option.bind_some _ _).symm.trans H; with_reducible exact H2_) | with_reducible exact H | (rw [hy217]; exact H) | exact H
                                                  have Ny217 := Aside0.mk hy217
                                                  clear hy217
                                                  replace H := Option.bind_eq_some_iff.mp H
                                                  obtain ⟨t222, A450, H⟩ := H
                                                  replace H : (if t222 = true then (some false) else (law20_AggCounts.l2 k4 t189 (wrap64 (Int.tmod a1 4)) x7_1 t201 (wrap64 (x12_2 + ((rd_T39 (rd_L3 t201 x13_2) (wrap64 (Int.tmod a1 4))).f1))) x13_2 (wrap64 (x14_4 + 1)))) = some r := H
                                                  have A45 := Aside0.mk A450
                                                  clear A450
                                                  by_cases c46 : t222 = true
                                                  · subst c46
                                                    have H1 : (some false) = some r := by rw [if_pos rfl] at H; exact H
                                                    clear H
                                                    have H := H1
                                                    clear H1
                                                    exact absurd ((Option.some.inj H).trans hr_.out) (by decide)
                                                  · replace c46 := Bool.eq_false_iff.mpr c46
                                                    subst c46
                                                    have H1 : (law20_AggCounts.l2 k4 t189 (wrap64 (Int.tmod a1 4)) x7_1 t201 (wrap64 (x12_2 + ((rd_T39 (rd_L3 t201 x13_2) (wrap64 (Int.tmod a1 4))).f1))) x13_2 (wrap64 (x14_4 + 1))) = some r := by rw [if_neg (show ¬ (false = true) by decide)] at H; exact H
                                                    clear H
                                                    have H := H1
                                                    clear H1
                                                    have H' := Aside0.mk H
                                                    clear H
                                                    have p210 : 0 ≤ (x13_2 : Int) := of_decide_eq_true (by first | (with_reducible assumption) | assumption)
                                                    have q210 : x13_2 < (t201.length : Int) := of_decide_eq_true (by first | (with_reducible assumption) | assumption)
                                                    obtain ⟨ad210, A210_0, c210_0, e210, hx210_0, hl210_0, hi210_0⟩ := at_L3 (Kd.N_reads' HO_10.out).2.2 x13_2 p210 q210
                                                    obtain rfl : ad208 = ad210 := (by injection e210)
                                                    obtain ⟨ce210, hce210, hMe210, hcc210⟩ := Kd.N_get HO_10.out [] x13_2 p210 (by first | exact q210 | exact of_decide_eq_true (by first | (with_reducible assumption) | assumption) | (have e_ := (Kd.N_reads' HO_10.out).1; omega))
                                                    obtain ⟨ua210_0, uc210_0, rfl, ul210_0, ge210_0⟩ := Kd.FK_slice_open hMe210
                                                    have hv210_0 := hcc210 0 _ rfl
                                                    rw [Nat.add_zero, show ((Kd.slice 39 k39)).sz = 1 from rfl, Nat.mul_one] at hv210_0
                                                    replace hv210_0 := Option.some.inj (hv210_0.symm.trans hx210_0)
                                                    injection hv210_0 with hva_ hvn_ hvc_
                                                    rw [hva_] at ge210_0
                                                    rw [hvc_] at ul210_0
                                                    have HL210_0 := Aside0.mk (show Kd.V k39 39 _ w.heap.size _ _ (rd_L3 t201 x13_2) from Kd.V_mk ul210_0 ge210_0)
                                                    clear hva_ hvn_ hvc_ ge210_0 ul210_0
                                                    clear hcc210 hce210
                                                    have HR210_0 := Aside0.mk hi210_0
                                                    have HC210_0 := Aside0.mk hl210_0
                                                    clear hi210_0 hl210_0
                                                    replace p210 := eq_true p210
                                                    replace q210 := eq_true q210
                                                    have q47 : ((wrap64 (Int.tmod a1 4)) : Int) ≤ (((rd_L3 t201 x13_2).length : Int) : Int) := of_decide_eq_true (by first | (with_reducible assumption) | assumption)
                                                    obtain ⟨i047, hi047, _, hsz47, _⟩ := info_parts info39
                                                    have hroom47 : (rd_L3 t201 x13_2).length ≤ c210_0 := HC210_0.out
                                                    have hC47 : Kd.F k39 _ _ A210_0 (rd_L3 t201 x13_2).length (rd_L3 t201 x13_2) := (Kd.V_at (base := w.heap.size) HL210_0.out).2.2
                                                    have hcut47 := cut_to (P := Try.prog) 32 39 .i64 Try.underlying32 hi047 A210_0 (rd_L3 t201 x13_2).length c210_0 (wrap64 (Int.tmod a1 4)) (of_decide_eq_true (by first | (with_reducible assumption) | assumption)) q47 hroom47
                                                    have hr47 := Kd.F_take (m := ((wrap64 (Int.tmod a1 4)) : Int).toNat) hC47 (by omega)
                                                    have hy47 : y211.length = ((wrap64 (Int.tmod a1 4)) : Int).toNat := (by rw [Ny211.out, List.length_take]; omega)
                                                    rw [← Ny211.out] at hr47
                                                    rw [← hy47] at hcut47
                                                    have HO215 := Aside0.mk (show Kd.V k39 39 _ w.heap.size _ (.slice A210_0 y211.length c210_0) y211 from Kd.V_mk (by omega) hr47)
                                                    have HC215 := Aside0.mk (show y211.length ≤ c210_0 from by omega)
                                                    clear hr47 hC47 hroom47 hi047 hsz47
                                                    have KY47 := Aside0.mk hy47
                                                    clear hy47
                                                    replace q47 := eq_true q47
                                                    have p216 : 0 ≤ (x14_4 : Int) := of_decide_eq_true (by first | (with_reducible assumption) | assumption)
                                                    have q216 : x14_4 < (t201.length : Int) := of_decide_eq_true (by first | (with_reducible assumption) | assumption)
                                                    obtain ⟨ad216, A216_0, c216_0, e216, hx216_0, hl216_0, hi216_0⟩ := at_L3 (Kd.N_reads' HO_10.out).2.2 x14_4 p216 q216
                                                    obtain rfl : ad208 = ad216 := (by injection e216)
                                                    obtain ⟨ce216, hce216, hMe216, hcc216⟩ := Kd.N_get HO_10.out [] x14_4 p216 (by first | exact q216 | exact of_decide_eq_true (by first | (with_reducible assumption) | assumption) | (have e_ := (Kd.N_reads' HO_10.out).1; omega))
                                                    obtain ⟨ua216_0, uc216_0, rfl, ul216_0, ge216_0⟩ := Kd.FK_slice_open hMe216
                                                    have hv216_0 := hcc216 0 _ rfl
                                                    rw [Nat.add_zero, show ((Kd.slice 39 k39)).sz = 1 from rfl, Nat.mul_one] at hv216_0
                                                    replace hv216_0 := Option.some.inj (hv216_0.symm.trans hx216_0)
                                                    injection hv216_0 with hva_ hvn_ hvc_
                                                    rw [hva_] at ge216_0
                                                    rw [hvc_] at ul216_0
                                                    have HL216_0 := Aside0.mk (show Kd.V k39 39 _ w.heap.size _ _ (rd_L3 t201 x14_4) from Kd.V_mk ul216_0 ge216_0)
                                                    clear hva_ hvn_ hvc_ ge216_0 ul216_0
                                                    clear hcc216 hce216
                                                    have HR216_0 := Aside0.mk hi216_0
                                                    have HC216_0 := Aside0.mk hl216_0
                                                    clear hi216_0 hl216_0
                                                    replace p216 := eq_true p216
                                                    replace q216 := eq_true q216
                                                    have q48 : ((wrap64 (Int.tmod a1 4)) : Int) ≤ (((rd_L3 t201 x14_4).length : Int) : Int) := of_decide_eq_true (by first | (with_reducible assumption) | assumption)
                                                    obtain ⟨i048, hi048, _, hsz48, _⟩ := info_parts info39
                                                    have hroom48 : (rd_L3 t201 x14_4).length ≤ c216_0 := HC216_0.out
                                                    have hC48 : Kd.F k39 _ _ A216_0 (rd_L3 t201 x14_4).length (rd_L3 t201 x14_4) := (Kd.V_at (base := w.heap.size) HL216_0.out).2.2
                                                    have hcut48 := cut_to (P := Try.prog) 32 39 .i64 Try.underlying32 hi048 A216_0 (rd_L3 t201 x14_4).length c216_0 (wrap64 (Int.tmod a1 4)) (of_decide_eq_true (by first | (with_reducible assumption) | assumption)) q48 hroom48
                                                    have hr48 := Kd.F_take (m := ((wrap64 (Int.tmod a1 4)) : Int).toNat) hC48 (by omega)
                                                    have hy48 : y217.length = ((wrap64 (Int.tmod a1 4)) : Int).toNat := (by rw [Ny217.out, List.length_take]; omega)
                                                    rw [← Ny217.out] at hr48
                                                    rw [← hy48] at hcut48
                                                    have HO221 := Aside0.mk (show Kd.V k39 39 _ w.heap.size _ (.slice A216_0 y217.length c216_0) y217 from Kd.V_mk (by omega) hr48)
                                                    have HC221 := Aside0.mk (show y217.length ≤ c216_0 from by omega)
                                                    clear hr48 hC48 hroom48 hi048 hsz48
                                                    have KY48 := Aside0.mk hy48
                                                    clear hy48
                                                    replace q48 := eq_true q48
                                                    go_wp2_with (first | (go_at_call 13; (with_reducible refine (ref05_Same.calls k4 _ _ y211 _ _ y217 false _ ?side1 ?side2 ?side3 ?side4 A45.out).mono ?_); (case side1 => repeat (first | exact (Kd.V_reads' HO215.out).2.2 | (with_reducible refine Kd.C_alloc ?_ _) | (with_reducible refine Kd.C_drewN ?_ _) | (with_reducible refine Kd.C_drew ?_))); (case side2 => exact (Kd.V_reads' HO215.out).2.1); (case side3 => repeat (first | exact (Kd.V_reads' HO221.out).2.2 | (with_reducible refine Kd.C_alloc ?_ _) | (with_reducible refine Kd.C_drewN ?_ _) | (with_reducible refine Kd.C_drew ?_))); (case side4 => exact (Kd.V_reads' HO221.out).2.1); rintro e w' ⟨rfl, ⟨nd, rfl⟩⟩; (try first | exact ⟨rfl, _, World.drewN_drewN _ _ _⟩ | exact ⟨rfl, _, Eq.trans (World.drewN_drewN _ _ _) (congrArg (World.drewN _) (Nat.add_assoc _ _ _))⟩)))
                                                    repeat (go_quiet (first | (go_at_call 13; (with_reducible refine (ref05_Same.calls k4 _ _ y211 _ _ y217 false _ ?side1 ?side2 ?side3 ?side4 A45.out).mono ?_); (case side1 => repeat (first | exact (Kd.V_reads' HO215.out).2.2 | (with_reducible refine Kd.C_alloc ?_ _) | (with_reducible refine Kd.C_drewN ?_ _) | (with_reducible refine Kd.C_drew ?_))); (case side2 => exact (Kd.V_reads' HO215.out).2.1); (case side3 => repeat (first | exact (Kd.V_reads' HO221.out).2.2 | (with_reducible refine Kd.C_alloc ?_ _) | (with_reducible refine Kd.C_drewN ?_ _) | (with_reducible refine Kd.C_drew ?_))); (case side4 => exact (Kd.V_reads' HO221.out).2.1); rintro e w' ⟨rfl, ⟨nd, rfl⟩⟩; (try first | exact ⟨rfl, _, World.drewN_drewN _ _ _⟩ | exact ⟨rfl, _, Eq.trans (World.drewN_drewN _ _ _) (congrArg (World.drewN _) (Nat.add_assoc _ _ _))⟩))); try go_wp2_with (first | (go_at_call 13; (with_reducible refine (ref05_Same.calls k4 _ _ y211 _ _ y217 false _ ?side1 ?side2 ?side3 ?side4 A45.out).mono ?_); (case side1 => repeat (first | exact (Kd.V_reads' HO215.out).2.2 | (with_reducible refine Kd.C_alloc ?_ _) | (with_reducible refine Kd.C_drewN ?_ _) | (with_reducible refine Kd.C_drew ?_))); (case side2 => exact (Kd.V_reads' HO215.out).2.1); (case side3 => repeat (first | exact (Kd.V_reads' HO221.out).2.2 | (with_reducible refine Kd.C_alloc ?_ _) | (with_reducible refine Kd.C_drewN ?_ _) | (with_reducible refine Kd.C_drew ?_))); (case side4 => exact (Kd.V_reads' HO221.out).2.1); rintro e w' ⟨rfl, ⟨nd, rfl⟩⟩; (try first | exact ⟨rfl, _, World.drewN_drewN _ _ _⟩ | exact ⟨rfl, _, Eq.trans (World.drewN_drewN _ _ _) (congrArg (World.drewN _) (Nat.add_assoc _ _ _))⟩))))
                                                    go_roundg k4
                                                    case measure => have := HK1.out; have := HK2.out; have := HJ22.out; have := HK4.out; omega
                                                    case rel => exact ⟨(wrap64 (x14_4 + 1)), (by first | rfl | (simp; done) | (simp [*]; done)), H', ⟨by have := HK1.out; have := HK2.out; have := HJ22.out; have := HK4.out; omega⟩, ⟨by (with_reducible repeat (first | apply Kd.N_alloc | apply Kd.N_drewN | apply Kd.N_drew)); exact HO_7.out⟩, ⟨by (with_reducible repeat (first | apply Kd.N_alloc | apply Kd.N_drewN | apply Kd.N_drew)); exact HO_10.out⟩, ⟨by repeat (first | (with_reducible exact HR208_0.out) | (with_reducible refine Kd.C_alloc ?_ _) | (with_reducible refine Kd.C_drewN ?_ _) | (with_reducible refine Kd.C_drew ?_) | exact HR208_0.out)⟩, ⟨by repeat (first | (with_reducible first | exact HB.out | apply below_alloc | apply pw_below_drewN | apply below_drew1) | exact HB.out)⟩⟩
                                                · rw [if_neg c44] at H
                                                  exact absurd H (by simp)
                                              · rw [if_neg c42] at H
                                                exact absurd H (by simp)
                                            · rw [if_neg c41] at H
                                              exact absurd H (by simp)
                                          · rw [if_neg c40] at H
                                            exact absurd H (by simp)
                                        · rw [if_neg c39] at H
                                          exact absurd H (by simp)
                                      · rw [if_neg c38] at H
                                        exact absurd H (by simp)
                                    · rw [if_neg c37] at H
                                      exact absurd H (by simp)
                                  · rw [if_neg c36] at H
                                    have c36b0 : decide (x14_4 < x13_2) = false := decide_eq_false c36
                                    clear c36
                                    have H' := Aside0.mk H
                                    clear H
                                    go_wp2
                                    repeat (go_quiet (fail); try go_wp2)
                                    go_roundg k4
                                    case measure => have := HK1.out; have := HK2.out; have := HJ22.out; have := HK4.out; omega
                                    case rel => exact ⟨((wrap64 (x12_2 + ((rd_T39 (rd_L3 t201 x13_2) (wrap64 (Int.tmod a1 4))).f1)))), (wrap64 (x13_2 + 1)), (by first | rfl | (simp; done) | (simp only [← hji33] <;> (first | rfl | simp)) | (simp [*]; done)), (by first | rfl | (simp; done) | (simp [*]; done)), H', ⟨by have := HK1.out; have := HK2.out; have := HJ22.out; have := HK4.out; omega⟩, ⟨by (with_reducible repeat (first | apply Kd.N_alloc | apply Kd.N_drewN | apply Kd.N_drew)); exact HO_7.out⟩, ⟨by (with_reducible repeat (first | apply Kd.N_alloc | apply Kd.N_drewN | apply Kd.N_drew)); exact HO_10.out⟩, ⟨by repeat (first | (with_reducible first | exact HB.out | apply below_alloc | apply pw_below_drewN | apply below_drew1) | exact HB.out)⟩⟩
                            · rw [if_neg c35] at H
                              exact absurd H (by simp)
                          · rw [if_neg c34] at H
                            exact absurd H (by simp)
                        · rw [if_neg c32] at H
                          exact absurd H (by simp)
                      · rw [if_neg c31] at H
                        exact absurd H (by simp)
              · rw [if_neg c22] at H
                have c22b0 : decide (x13_2 < (t201.length : Int)) = false := decide_eq_false c22
                (try (have c22b0q_hl193_0 := c22b0; rw [hl193_0] at c22b0q_hl193_0))
                (try (have c22b0q_hl194_0 := c22b0; rw [hl194_0] at c22b0q_hl194_0))
                (try (have c22b0q_hl205_0 := c22b0; rw [hl205_0] at c22b0q_hl205_0))
                (try (have c22b0q_hl206_0 := c22b0; rw [hl206_0] at c22b0q_hl206_0))
                (try (have c22b0q_hl208_0 := c22b0; rw [hl208_0] at c22b0q_hl208_0))
                (try (have c22b0q_hl210_0 := c22b0; rw [hl210_0] at c22b0q_hl210_0))
                (try (have c22b0q_hl216_0 := c22b0; rw [hl216_0] at c22b0q_hl216_0))
                clear c22
                by_cases c49 : t189 = true
                · subst c49
                  have H1 : (if x12_2 = (x7_1.length : Int) then (if (wrap64 (Int.tmod a1 4)) > 0 then (some true) else (some ((t201.length : Int) == 1))) else (some false)) = some r := by rw [if_pos rfl] at H; exact H
                  clear H
                  have H := H1
                  clear H1
                  by_cases c50 : x12_2 = (x7_1.length : Int)
                  · rw [if_pos c50] at H
                    have c50b0 : (x12_2 == (x7_1.length : Int)) = true := beq_iff_eq.mpr c50
                    (try (have c50b0q_hl193_0 := c50b0; rw [hl193_0] at c50b0q_hl193_0))
                    (try (have c50b0q_hl194_0 := c50b0; rw [hl194_0] at c50b0q_hl194_0))
                    (try (have c50b0q_hl205_0 := c50b0; rw [hl205_0] at c50b0q_hl205_0))
                    (try (have c50b0q_hl206_0 := c50b0; rw [hl206_0] at c50b0q_hl206_0))
                    (try (have c50b0q_hl208_0 := c50b0; rw [hl208_0] at c50b0q_hl208_0))
                    (try (have c50b0q_hl210_0 := c50b0; rw [hl210_0] at c50b0q_hl210_0))
                    (try (have c50b0q_hl216_0 := c50b0; rw [hl216_0] at c50b0q_hl216_0))
                    have c50b1 : (x12_2 != (x7_1.length : Int)) = false := bne_eq_false_iff_eq.mpr c50
                    (try (have c50b1q_hl193_0 := c50b1; rw [hl193_0] at c50b1q_hl193_0))
                    (try (have c50b1q_hl194_0 := c50b1; rw [hl194_0] at c50b1q_hl194_0))
                    (try (have c50b1q_hl205_0 := c50b1; rw [hl205_0] at c50b1q_hl205_0))
                    (try (have c50b1q_hl206_0 := c50b1; rw [hl206_0] at c50b1q_hl206_0))
                    (try (have c50b1q_hl208_0 := c50b1; rw [hl208_0] at c50b1q_hl208_0))
                    (try (have c50b1q_hl210_0 := c50b1; rw [hl210_0] at c50b1q_hl210_0))
                    (try (have c50b1q_hl216_0 := c50b1; rw [hl216_0] at c50b1q_hl216_0))
                    clear c50
                    by_cases c51 : (wrap64 (Int.tmod a1 4)) > 0
                    · rw [if_pos c51] at H
                      have c51b0 : decide (0 < (wrap64 (Int.tmod a1 4))) = true := decide_eq_true c51
                      clear c51
                      obtain rfl := Option.some.inj H
                      obtain ⟨Ao52, co52, eo52⟩ := Kd.N_slice HO_10.out
                      subst eo52
                      go_wp2
                      repeat (go_quiet (fail); try go_wp2)
                      go_ret
                      exact ⟨by first | rfl | (simp [errW_none, errW_some] <;> rfl) | (simp [*, errW_none, errW_some] <;> rfl), by repeat (first | (with_reducible first | exact HB.out | apply below_alloc | apply pw_below_drewN | apply below_drew1) | exact HB.out)⟩
                    · rw [if_neg c51] at H
                      have c51b0 : decide (0 < (wrap64 (Int.tmod a1 4))) = false := decide_eq_false c51
                      clear c51
                      obtain rfl := Option.some.inj H
                      obtain ⟨Ao53, co53, eo53⟩ := Kd.N_slice HO_10.out
                      subst eo53
                      go_wp2
                      repeat (go_quiet (fail); try go_wp2)
                      go_ret
                      exact ⟨by first | rfl | (simp [errW_none, errW_some] <;> rfl) | (simp [*, errW_none, errW_some] <;> rfl), by repeat (first | (with_reducible first | exact HB.out | apply below_alloc | apply pw_below_drewN | apply below_drew1) | exact HB.out)⟩
                  · rw [if_neg c50] at H
                    have c50b0 : (x12_2 == (x7_1.length : Int)) = false := beq_eq_false_iff_ne.mpr c50
                    (try (have c50b0q_hl193_0 := c50b0; rw [hl193_0] at c50b0q_hl193_0))
                    (try (have c50b0q_hl194_0 := c50b0; rw [hl194_0] at c50b0q_hl194_0))
                    (try (have c50b0q_hl205_0 := c50b0; rw [hl205_0] at c50b0q_hl205_0))
                    (try (have c50b0q_hl206_0 := c50b0; rw [hl206_0] at c50b0q_hl206_0))
                    (try (have c50b0q_hl208_0 := c50b0; rw [hl208_0] at c50b0q_hl208_0))
                    (try (have c50b0q_hl210_0 := c50b0; rw [hl210_0] at c50b0q_hl210_0))
                    (try (have c50b0q_hl216_0 := c50b0; rw [hl216_0] at c50b0q_hl216_0))
                    have c50b1 : (x12_2 != (x7_1.length : Int)) = true := bne_iff_ne.mpr c50
                    (try (have c50b1q_hl193_0 := c50b1; rw [hl193_0] at c50b1q_hl193_0))
                    (try (have c50b1q_hl194_0 := c50b1; rw [hl194_0] at c50b1q_hl194_0))
                    (try (have c50b1q_hl205_0 := c50b1; rw [hl205_0] at c50b1q_hl205_0))
                    (try (have c50b1q_hl206_0 := c50b1; rw [hl206_0] at c50b1q_hl206_0))
                    (try (have c50b1q_hl208_0 := c50b1; rw [hl208_0] at c50b1q_hl208_0))
                    (try (have c50b1q_hl210_0 := c50b1; rw [hl210_0] at c50b1q_hl210_0))
                    (try (have c50b1q_hl216_0 := c50b1; rw [hl216_0] at c50b1q_hl216_0))
                    exact absurd ((Option.some.inj H).trans hr_.out) (by decide)
                · replace c49 := Bool.eq_false_iff.mpr c49
                  subst c49
                  have H1 : (some false) = some r := by rw [if_neg (show ¬ (false = true) by decide)] at H; exact H
                  clear H
                  have H := H1
                  clear H1
                  exact absurd ((Option.some.inj H).trans hr_.out) (by decide)
        · rw [if_neg c15] at H
          have c15b0 : (t202 == 0) = false := beq_eq_false_iff_ne.mpr c15
          have c15b1 : (t202 != 0) = true := bne_iff_ne.mpr c15
          exact absurd ((Option.some.inj H).trans hr_.out) (by decide)

/-- THE ONE PURE STATEMENT of law20_AggCounts: yours. -/
def law20_AggCounts.Pure : Prop := ∀ (l0 : List (List (S39))) (a1 : Int), Hand.WfRow 24 (Hand.WfRow 32 wfS39) l0 → (Lit.int .u8 a1).wf = true → ∃ k, law20_AggCounts.f k l0 a1 = some true
theorem law20_AggCounts.walk (P : law20_AggCounts.Pure) (A0 : Option Addr) (c0 : Nat) (l0 : List (List (S39))) (a1 : Int) (w : World) (w0 : l0.length ≤ c0 ∧ Kd.C (Kd.slice 39 k39) w A0 l0.length l0 ∧ Hand.WfRow 24 (Hand.WfRow 32 wfS39) l0) (w1 : (Lit.int .u8 a1).wf = true) :
    Calls Try.prog 5 #[.slice A0 l0.length c0, .int .u8 a1] w fun e w' => e = .returned (.bool true) ∧ Below w.heap.size w w' := by
  obtain ⟨hc0, hr0, hw0⟩ := w0
  obtain ⟨k, h⟩ := P l0 a1 hw0 w1
  refine (law20_AggCounts.calls k _ _ l0 a1 true w hr0 hc0 ⟨rfl⟩ h).mono ?_
  rintro e w' ⟨rfl, hd⟩
  exact ⟨rfl, hd⟩

end Go.Proofs.Ytedgfhijkkedaaa.PAgg
