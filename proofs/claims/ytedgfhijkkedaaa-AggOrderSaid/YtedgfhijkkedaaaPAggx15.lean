-- Written by this session's program wip/gprint/gprint.py, over the kit's print, with given functions; no text of print.sh's.
import Derived.Test.YtedgfhijkkedaaaPAggx0
import Derived.Test.YtedgfhijkkedaaaPAggx3
import Derived.Test.YtedgfhijkkedaaaPAggx8
import Derived.Test.YtedgfhijkkedaaaPAggx10
import Derived.Test.YtedgfhijkkedaaaPAggx14
namespace Go.Proofs.Ytedgfhijkkedaaa.PAgg
open Go.RowKit Go.Proofs.YtedgfhijkkedaaaW.PrintWords Go.Proofs.YtedgfhijkkedaaaW.PrintLast Go.Proofs.YtedgfhijkkedaaaW.PrintMore
attribute [local go_sem] max2_int min2_int max_two min_two max_three min_three max_four min_four   -- for this text's walks alone
set_option linter.unusedVariables false
set_option linter.unusedSimpArgs false

/-! ### law20_AggOrder: function 6 -/
mutual
def law20_AggOrder.l0 : Nat → List (S36) → Bool → Int → List (List (S39)) → List (List (S39)) → List (List (S39)) → Int → Option (Bool)
  | 0, _, _, _, _, _, _, _ => none
  | k + 1, x2, x7, x8, x9, x10, x11, x12 => if x12 < (x11.length : Int) then (if 0 ≤ x12 then (law20_AggOrder.l1 k x2 x7 x8 x9 x10 x11 x12 (decide (((rd_L3 x11 x12).length : Int) ≥ x8)) 0) else (none)) else (if (x2.length : Int) > 20 then (some x7) else ((agg_Group.f k x9 x8 x2).bind fun bt305 => ((agg_Group.f k x10 x8 x2).bind fun bt309 => (if x7 = true then (if bt305.2 = bt309.2 then ((ref16_Bag.f k bt305.1 bt309.1).bind fun t313 => (some t313)) else (some false)) else (some false)))))
def law20_AggOrder.l1 : Nat → List (S36) → Bool → Int → List (List (S39)) → List (List (S39)) → List (List (S39)) → Int → Bool → Int → Option (Bool)
  | 0, _, _, _, _, _, _, _, _, _ => none
  | k + 1, x2, x7, x8, x9, x10, x11, x12, x13, x14 => if 0 ≤ x12 then (if x12 < (x11.length : Int) then (if x14 < ((rd_L3 x11 x12).length : Int) then (if x13 = true then (if 0 ≤ x14 then ((ref05_May.f ((rd_T39 (rd_L3 x11 x12) x14).f0) ((rd_T39 (rd_L3 x11 x12) x14).f1) ((rd_T39 (rd_L3 x11 x12) x14).f2)).bind fun t293 => (law20_AggOrder.l1 k x2 x7 x8 x9 x10 x11 x12 t293 (wrap64 (x14 + 1)))) else (none)) else (law20_AggOrder.l1 k x2 x7 x8 x9 x10 x11 x12 false (wrap64 (x14 + 1)))) else (if x13 = true then (if x9.length < 5864062014805 then ((some (([rd_L3 x11 x12] : List (List (S39))) : List (List (S39)))).bind fun y299 => (if y299.length + x10.length < 5864062014805 then (law20_AggOrder.l0 k x2 x7 x8 (x9 ++ [rd_L3 x11 x12]) (y299 ++ x10) x11 (wrap64 (x12 + 1))) else (none))) else (none)) else (law20_AggOrder.l0 k x2 x7 x8 x9 x10 x11 (wrap64 (x12 + 1))))) else (none)) else (none)
end
def law20_AggOrder.f (k : Nat) (l0 : List (List (S39))) (a1 : Int) (l2 : List (S36)) : Option (Bool) := (law20_shown.f).bind fun t285 => ((law20_few.f k l0).bind fun t286 => (law20_AggOrder.l0 k l2 t285 (wrap64 (Int.tmod a1 4)) ([] : List (List (S39))) ([] : List (List (S39))) t286 0))
theorem law20_AggOrder.mono_l : ∀ k, (∀ y0 y1 y2 y3 y4 y5 y6, LeO (law20_AggOrder.l0 k y0 y1 y2 y3 y4 y5 y6) (law20_AggOrder.l0 (k + 1) y0 y1 y2 y3 y4 y5 y6)) ∧ (∀ y0 y1 y2 y3 y4 y5 y6 y7 y8, LeO (law20_AggOrder.l1 k y0 y1 y2 y3 y4 y5 y6 y7 y8) (law20_AggOrder.l1 (k + 1) y0 y1 y2 y3 y4 y5 y6 y7 y8))
  | 0 => ⟨fun _ _ _ _ _ _ _ r h => by simp [law20_AggOrder.l0] at h, fun _ _ _ _ _ _ _ _ _ r h => by simp [law20_AggOrder.l1] at h⟩
  | k + 1 => by
    obtain ⟨ih0, ih1⟩ := law20_AggOrder.mono_l k
    refine ⟨?_, ?_⟩
    · intro y0 y1 y2 y3 y4 y5 y6
      unfold law20_AggOrder.l0
      repeat' first
      | (with_reducible exact ih0 _ _ _ _ _ _ _)
      | (with_reducible exact ih1 _ _ _ _ _ _ _ _ _)
      | (with_reducible exact agg_Group.mono _ _ _ _)
      | (with_reducible exact law20_few.mono _ _)
      | (with_reducible exact ref16_Bag.mono _ _ _)
      | (with_reducible exact LeO.refl _)
      | (with_reducible exact LeO.none _)
      | (with_reducible refine LeO.ite ?_ ?_)
      | (with_reducible refine LeO.bind ?_ (fun _ => ?_))
      | exact ih0 _ _ _ _ _ _ _
      | exact ih1 _ _ _ _ _ _ _ _ _
      | exact agg_Group.mono _ _ _ _
      | exact law20_few.mono _ _
      | exact ref16_Bag.mono _ _ _
      | exact LeO.none _
      | refine LeO.ite ?_ ?_
      | refine LeO.bind ?_ (fun _ => ?_)
    · intro y0 y1 y2 y3 y4 y5 y6 y7 y8
      unfold law20_AggOrder.l1
      repeat' first
      | (with_reducible exact ih0 _ _ _ _ _ _ _)
      | (with_reducible exact ih1 _ _ _ _ _ _ _ _ _)
      | (with_reducible exact agg_Group.mono _ _ _ _)
      | (with_reducible exact law20_few.mono _ _)
      | (with_reducible exact ref16_Bag.mono _ _ _)
      | (with_reducible exact LeO.refl _)
      | (with_reducible exact LeO.none _)
      | (with_reducible refine LeO.ite ?_ ?_)
      | (with_reducible refine LeO.bind ?_ (fun _ => ?_))
      | exact ih0 _ _ _ _ _ _ _
      | exact ih1 _ _ _ _ _ _ _ _ _
      | exact agg_Group.mono _ _ _ _
      | exact law20_few.mono _ _
      | exact ref16_Bag.mono _ _ _
      | exact LeO.none _
      | refine LeO.ite ?_ ?_
      | refine LeO.bind ?_ (fun _ => ?_)
theorem law20_AggOrder.mono : ∀ a0 a1 a2 k, LeO (law20_AggOrder.f k a0 a1 a2) (law20_AggOrder.f (k + 1) a0 a1 a2) := by
  intro a0 a1 a2 k
  obtain ⟨ih0, ih1⟩ := law20_AggOrder.mono_l k
  unfold law20_AggOrder.f
  repeat' first
      | (with_reducible exact ih0 _ _ _ _ _ _ _)
      | (with_reducible exact ih1 _ _ _ _ _ _ _ _ _)
      | (with_reducible exact agg_Group.mono _ _ _ _)
      | (with_reducible exact law20_few.mono _ _)
      | (with_reducible exact ref16_Bag.mono _ _ _)
      | (with_reducible exact LeO.refl _)
      | (with_reducible exact LeO.none _)
      | (with_reducible refine LeO.ite ?_ ?_)
      | (with_reducible refine LeO.bind ?_ (fun _ => ?_))
      | exact ih0 _ _ _ _ _ _ _
      | exact ih1 _ _ _ _ _ _ _ _ _
      | exact agg_Group.mono _ _ _ _
      | exact law20_few.mono _ _
      | exact ref16_Bag.mono _ _ _
      | exact LeO.none _
      | refine LeO.ite ?_ ?_
      | refine LeO.bind ?_ (fun _ => ?_)
set_option maxHeartbeats 8000000 in
set_option maxRecDepth 100000 in
theorem law20_AggOrder.calls (k : Nat) (A0 : Option Addr) (c0 : Nat) (l0 : List (List (S39))) (a1 : Int) (A2 : Option Addr) (c2 : Nat) (l2 : List (S36)) (r : Bool) (w : World) (hr0 : Kd.C (Kd.slice 39 k39) w A0 l0.length l0) (hc0 : l0.length ≤ c0) (hr2 : Kd.C k36 w A2 l2.length l2) (hc2 : l2.length ≤ c2) (hr_ : Aside0 (r = true)) (h : law20_AggOrder.f k l0 a1 l2 = some r) :
    Calls Try.prog 6 #[.slice A0 l0.length c0, .int .u8 a1, .slice A2 l2.length c2] w fun e w' => e = .returned (.bool r) ∧ Below w.heap.size w w' := by
  have hu39 := Try.underlying39
  have HR0 := Aside0.mk hr0
  have HC0 := Aside0.mk hc0
  clear hr0 hc0
  have HR2 := Aside0.mk hr2
  have HC2 := Aside0.mk hc2
  clear hr2 hc2
  have HB := Aside0.mk (Below.refl w.heap.size w)
  have H : ((law20_shown.f).bind fun t285 => ((law20_few.f k l0).bind fun t286 => (law20_AggOrder.l0 k l2 t285 (wrap64 (Int.tmod a1 4)) ([] : List (List (S39))) ([] : List (List (S39))) t286 0))) = some r := h
  clear h
  replace H := Option.bind_eq_some_iff.mp H
  obtain ⟨t285, A40, H⟩ := H
  replace H : ((law20_few.f k l0).bind fun t286 => (law20_AggOrder.l0 k l2 t285 (wrap64 (Int.tmod a1 4)) ([] : List (List (S39))) ([] : List (List (S39))) t286 0)) = some r := H
  have A4 := Aside0.mk A40
  clear A40
  replace H := Option.bind_eq_some_iff.mp H
  obtain ⟨t286, A50, H⟩ := H
  replace H : (law20_AggOrder.l0 k l2 t285 (wrap64 (Int.tmod a1 4)) ([] : List (List (S39))) ([] : List (List (S39))) t286 0) = some r := H
  have A5 := Aside0.mk A50
  clear A50
  have H' := Aside0.mk H
  clear H
  go_enter Try.func6, Try.ntmps6
  go_wp2_with (first | ((with_reducible refine gate_callee (f := 9) rfl ?_); refine goesL_ (some 19) rfl rfl Try.func9 (by kernel_rfl) rfl #[] rfl (by (try simp only [List.map_toArray, List.map_cons, List.map_nil]); first | done | rfl | (simp only [List.length_drop, List.length_take]; rfl)) ?_; (with_reducible refine (law20_shown.calls  t285 _ A4.out).mono ?_); rintro e w6 ⟨rfl, hb⟩; refine ⟨_, rfl, ?_⟩; have n0_ := Aside0.mk (below_step (by repeat (first | (with_reducible first | exact HB.out | apply below_alloc | apply pw_below_drewN | apply below_drew1) | exact HB.out)) hb); clear HB; have HB := n0_; clear n0_; (try clear hb); (try clear hb2); (try clear hk); (try clear hi)) | ((with_reducible refine gate_callee (f := 11) rfl ?_); refine goesL_ (some 24) rfl rfl Try.func11 (by kernel_rfl) rfl #[.slice A0 l0.length c0] rfl (by (try simp only [List.map_toArray, List.map_cons, List.map_nil]); first | done | rfl | (simp only [List.length_drop, List.length_take]; rfl)) ?_; (with_reducible refine (law20_few.calls k (fun k_ => k_ < w.heap.size) _ _ l0 t286 _ ?side1 A5.out).mono ?_); (case side1 => exact Kd.V_mk HC0.out (Kd.F_below (Kd.C_F (Kd.heap_slice 39 k39_heap) HR0.out) (by repeat (first | (with_reducible first | exact HB.out | apply below_alloc | apply pw_below_drewN | apply below_drew1) | exact HB.out)))); rintro e w7 ⟨v287, rfl, ho0, hb⟩; refine ⟨_, rfl, ?_⟩; have n0_ := Aside0.mk (Kd.N_lower (Kd.N_mono (ok' := fun k_ => True) ho0 (fun k_ hk_ => trivial)) (below_size (by repeat (first | (with_reducible first | exact HB.out | apply below_alloc | apply pw_below_drewN | apply below_drew1) | exact HB.out)))); have n1_ := Aside0.mk (below_step (by repeat (first | (with_reducible first | exact HB.out | apply below_alloc | apply pw_below_drewN | apply below_drew1) | exact HB.out)) hb); clear HB; have HO288 := n0_; have HB := n1_; clear n0_ n1_; (try clear hb); (try clear hb2); (try clear hk); (try clear hi); (try clear ho0)))
  go_loopg [9, 10, 12] k (fun kq v9 v10 v12 w' => ∃ (x9_1 : List (List (S39))) (x10_1 : List (List (S39))) (x12_1 : Int), v12 = .int .i64 x12_1 ∧ Aside0 (law20_AggOrder.l0 kq l2 t285 (wrap64 (Int.tmod a1 4)) x9_1 x10_1 t286 x12_1 = some r) ∧ Aside0 (kq ≤ k) ∧ Aside0 (Kd.N (Kd.slice 39 k39) 32 w' w.heap.size (fun k_ => some k_ ≠ (v10 : Value).ownBlock ∧ some k_ ≠ (v287 : Value).ownBlock) v9 x9_1) ∧ Aside0 (Kd.N (Kd.slice 39 k39) 32 w' w.heap.size (fun k_ => some k_ ≠ (v9 : Value).ownBlock ∧ some k_ ≠ (v287 : Value).ownBlock) v10 x10_1) ∧ Aside0 (Kd.N (Kd.slice 39 k39) 32 w' w.heap.size (fun k_ => some k_ ≠ (v9 : Value).ownBlock ∧ some k_ ≠ (v10 : Value).ownBlock) v287 t286) ∧ Aside0 (Below w.heap.size w w'))
  case atStart => exact ⟨(([] : List (List (S39)))), (([] : List (List (S39)))), (0), (by first | rfl | (simp; done) | (simp [*]; done)), H', ⟨Nat.le_refl _⟩, ⟨by first | exact Kd.S_nil _ _ _ _ _ | exact Kd.N_nil _ _ _ _ _ | exact Kd.V_nil _ _ _ _ _ | exact Kd.Q_nil _ _ _ _ _ | exact Kd.R_nil _ _ _ _ _⟩, ⟨by first | exact Kd.S_nil _ _ _ _ _ | exact Kd.N_nil _ _ _ _ _ | exact Kd.V_nil _ _ _ _ _ | exact Kd.Q_nil _ _ _ _ _ | exact Kd.R_nil _ _ _ _ _⟩, ⟨by (with_reducible repeat (first | apply Kd.N_alloc | apply Kd.N_drewN | apply Kd.N_drew)); exact Kd.N_mono HO288.out (fun _ hk => ⟨(by simp [Value.ownBlock]), (by simp [Value.ownBlock])⟩)⟩, ⟨by repeat (first | (with_reducible first | exact HB.out | apply below_alloc | apply pw_below_drewN | apply below_drew1) | exact HB.out)⟩⟩
  case round =>
    clear H'
    try clear c1
    try clear c2
    try clear p2
    try clear c6
    try clear p6
    obtain ⟨x9_1, x10_1, x12_1, rfl, HA, HK1, HO_9, HO_10, HO_11, HB⟩ := hrel
    cases gk with
    | zero => exact absurd HA.out (by simp [law20_AggOrder.l0])
    | succ k1 =>
      have H := HA.out
      clear HA
      simp only [law20_AggOrder.l0] at H
      by_cases c8 : x12_1 < (t286.length : Int)
      · rw [if_pos c8] at H
        have c8b0 : decide (x12_1 < (t286.length : Int)) = true := decide_eq_true c8
        clear c8
        by_cases c9 : 0 ≤ x12_1
        · rw [if_pos c9] at H
          have c9b0 : decide (0 ≤ x12_1) = true := decide_eq_true c9
          clear c9
          have H' := Aside0.mk H
          clear H
          obtain ⟨Ao10, co10, eo10⟩ := Kd.N_slice HO_11.out
          subst eo10
          have p289 : 0 ≤ (x12_1 : Int) := of_decide_eq_true (by first | (with_reducible assumption) | assumption)
          have q289 : x12_1 < (t286.length : Int) := of_decide_eq_true (by first | (with_reducible assumption) | assumption)
          obtain ⟨ad289, A289_0, c289_0, e289, hx289_0, hl289_0, hi289_0⟩ := at_L3 (Kd.N_reads' HO_11.out).2.2 x12_1 p289 q289
          cases e289
          obtain ⟨ce289, hce289, hMe289, hcc289⟩ := Kd.N_get HO_11.out [] x12_1 p289 (by first | exact q289 | exact of_decide_eq_true (by first | (with_reducible assumption) | assumption) | (have e_ := (Kd.N_reads' HO_11.out).1; omega))
          obtain ⟨ua289_0, uc289_0, rfl, ul289_0, ge289_0⟩ := Kd.FK_slice_open hMe289
          have hv289_0 := hcc289 0 _ rfl
          rw [Nat.add_zero, show ((Kd.slice 39 k39)).sz = 1 from rfl, Nat.mul_one] at hv289_0
          replace hv289_0 := Option.some.inj (hv289_0.symm.trans hx289_0)
          injection hv289_0 with hva_ hvn_ hvc_
          rw [hva_] at ge289_0
          rw [hvc_] at ul289_0
          have HL289_0 := Aside0.mk (show Kd.V k39 39 _ w.heap.size _ _ (rd_L3 t286 x12_1) from Kd.V_mk ul289_0 ge289_0)
          clear hva_ hvn_ hvc_ ge289_0 ul289_0
          clear hcc289 hce289
          have HR289_0 := Aside0.mk hi289_0
          have HC289_0 := Aside0.mk hl289_0
          clear hi289_0 hl289_0
          replace p289 := eq_true p289
          replace q289 := eq_true q289
          go_wp2
          go_loopg [13, 14] k1 (fun kq v13 v14 w' => ∃ (x13_2 : Bool) (x14_2 : Int), v13 = .bool x13_2 ∧ v14 = .int .i64 x14_2 ∧ Aside0 (law20_AggOrder.l1 kq l2 t285 (wrap64 (Int.tmod a1 4)) x9_1 x10_1 t286 x12_1 x13_2 x14_2 = some r) ∧ Aside0 (kq ≤ k1) ∧ Aside0 (Kd.N (Kd.slice 39 k39) 32 w' w.heap.size (fun k_ => some k_ ≠ (u10 : Value).ownBlock ∧ some k_ ≠ ((.slice (some ad289) t286.length co10) : Value).ownBlock) u9 x9_1) ∧ Aside0 (Kd.N (Kd.slice 39 k39) 32 w' w.heap.size (fun k_ => some k_ ≠ (u9 : Value).ownBlock ∧ some k_ ≠ ((.slice (some ad289) t286.length co10) : Value).ownBlock) u10 x10_1) ∧ Aside0 (Kd.N (Kd.slice 39 k39) 32 w' w.heap.size (fun k_ => some k_ ≠ (u9 : Value).ownBlock ∧ some k_ ≠ (u10 : Value).ownBlock) (.slice (some ad289) t286.length co10) t286) ∧ Aside0 (Kd.C k39 w' A289_0 (rd_L3 t286 x12_1).length (rd_L3 t286 x12_1)) ∧ Aside0 (Below w.heap.size w w'))
          case atStart => exact ⟨(decide (((rd_L3 t286 x12_1).length : Int) ≥ (wrap64 (Int.tmod a1 4)))), (0), (by first | rfl | (simp; done) | (simp [*]; done)), (by first | rfl | (simp; done) | (simp [*]; done)), H', ⟨Nat.le_refl _⟩, ⟨by (with_reducible repeat (first | apply Kd.N_alloc | apply Kd.N_drewN | apply Kd.N_drew)); exact HO_9.out⟩, ⟨by (with_reducible repeat (first | apply Kd.N_alloc | apply Kd.N_drewN | apply Kd.N_drew)); exact HO_10.out⟩, ⟨by (with_reducible repeat (first | apply Kd.N_alloc | apply Kd.N_drewN | apply Kd.N_drew)); exact HO_11.out⟩, ⟨by repeat (first | (with_reducible exact HR289_0.out) | (with_reducible refine Kd.C_alloc ?_ _) | (with_reducible refine Kd.C_drewN ?_ _) | (with_reducible refine Kd.C_drew ?_) | exact HR289_0.out)⟩, ⟨by repeat (first | (with_reducible first | exact HB.out | apply below_alloc | apply pw_below_drewN | apply below_drew1) | exact HB.out)⟩⟩
          case round =>
            clear H'
            try clear c1
            try clear c2
            try clear p2
            try clear q2
            try clear hx2
            try clear c6
            try clear p6
            try clear c8
            try clear c8b0
            try clear c9
            try clear c9b0
            try clear hx289_0
            try clear p2
            try clear p289
            try clear p6
            try clear q289
            obtain ⟨x13_2, x14_2, rfl, rfl, HA, HK2, HO_9, HO_10, HO_11, HR289_0, HB⟩ := hrel
            cases gk with
            | zero => exact absurd HA.out (by simp [law20_AggOrder.l1])
            | succ k2 =>
              have H := HA.out
              clear HA
              simp only [law20_AggOrder.l1] at H
              by_cases c11 : 0 ≤ x12_1
              · rw [if_pos c11] at H
                have c11b0 : decide (0 ≤ x12_1) = true := decide_eq_true c11
                clear c11
                by_cases c12 : x12_1 < (t286.length : Int)
                · rw [if_pos c12] at H
                  have c12b0 : decide (x12_1 < (t286.length : Int)) = true := decide_eq_true c12
                  (try (have c12b0q_hl289_0 := c12b0; rw [hl289_0] at c12b0q_hl289_0))
                  clear c12
                  by_cases c13 : x14_2 < ((rd_L3 t286 x12_1).length : Int)
                  · rw [if_pos c13] at H
                    have c13b0 : decide (x14_2 < ((rd_L3 t286 x12_1).length : Int)) = true := decide_eq_true c13
                    (try (have c13b0q_hl289_0 := c13b0; rw [hl289_0] at c13b0q_hl289_0))
                    clear c13
                    by_cases c14 : x13_2 = true
                    · subst c14
                      have H1 : (if 0 ≤ x14_2 then ((ref05_May.f ((rd_T39 (rd_L3 t286 x12_1) x14_2).f0) ((rd_T39 (rd_L3 t286 x12_1) x14_2).f1) ((rd_T39 (rd_L3 t286 x12_1) x14_2).f2)).bind fun t293 => (law20_AggOrder.l1 k2 l2 t285 (wrap64 (Int.tmod a1 4)) x9_1 x10_1 t286 x12_1 t293 (wrap64 (x14_2 + 1)))) else (none)) = some r := by rw [if_pos rfl] at H; exact H
                      clear H
                      have H := H1
                      clear H1
                      by_cases c15 : 0 ≤ x14_2
                      · rw [if_pos c15] at H
                        have c15b0 : decide (0 ≤ x14_2) = true := decide_eq_true c15
                        clear c15
                        replace H := Option.bind_eq_some_iff.mp H
                        obtain ⟨t293, A160, H⟩ := H
                        replace H : (law20_AggOrder.l1 k2 l2 t285 (wrap64 (Int.tmod a1 4)) x9_1 x10_1 t286 x12_1 t293 (wrap64 (x14_2 + 1))) = some r := H
                        have A16 := Aside0.mk A160
                        clear A160
                        have H' := Aside0.mk H
                        clear H
                        have p290 : 0 ≤ (x12_1 : Int) := of_decide_eq_true (by first | (with_reducible assumption) | assumption)
                        have q290 : x12_1 < (t286.length : Int) := of_decide_eq_true (by first | (with_reducible assumption) | assumption)
                        obtain ⟨ad290, A290_0, c290_0, e290, hx290_0, hl290_0, hi290_0⟩ := at_L3 (Kd.N_reads' HO_11.out).2.2 x12_1 p290 q290
                        obtain rfl : ad289 = ad290 := (by injection e290)
                        obtain ⟨ce290, hce290, hMe290, hcc290⟩ := Kd.N_get HO_11.out [] x12_1 p290 (by first | exact q290 | exact of_decide_eq_true (by first | (with_reducible assumption) | assumption) | (have e_ := (Kd.N_reads' HO_11.out).1; omega))
                        obtain ⟨ua290_0, uc290_0, rfl, ul290_0, ge290_0⟩ := Kd.FK_slice_open hMe290
                        have hv290_0 := hcc290 0 _ rfl
                        rw [Nat.add_zero, show ((Kd.slice 39 k39)).sz = 1 from rfl, Nat.mul_one] at hv290_0
                        replace hv290_0 := Option.some.inj (hv290_0.symm.trans hx290_0)
                        injection hv290_0 with hva_ hvn_ hvc_
                        rw [hva_] at ge290_0
                        rw [hvc_] at ul290_0
                        have HL290_0 := Aside0.mk (show Kd.V k39 39 _ w.heap.size _ _ (rd_L3 t286 x12_1) from Kd.V_mk ul290_0 ge290_0)
                        clear hva_ hvn_ hvc_ ge290_0 ul290_0
                        clear hcc290 hce290
                        have HR290_0 := Aside0.mk hi290_0
                        have HC290_0 := Aside0.mk hl290_0
                        clear hi290_0 hl290_0
                        replace p290 := eq_true p290
                        replace q290 := eq_true q290
                        have p291 : 0 ≤ (x12_1 : Int) := of_decide_eq_true (by first | (with_reducible assumption) | assumption)
                        have q291 : x12_1 < (t286.length : Int) := of_decide_eq_true (by first | (with_reducible assumption) | assumption)
                        obtain ⟨ad291, A291_0, c291_0, e291, hx291_0, hl291_0, hi291_0⟩ := at_L3 (Kd.N_reads' HO_11.out).2.2 x12_1 p291 q291
                        obtain rfl : ad289 = ad291 := (by injection e291)
                        obtain ⟨ce291, hce291, hMe291, hcc291⟩ := Kd.N_get HO_11.out [] x12_1 p291 (by first | exact q291 | exact of_decide_eq_true (by first | (with_reducible assumption) | assumption) | (have e_ := (Kd.N_reads' HO_11.out).1; omega))
                        obtain ⟨ua291_0, uc291_0, rfl, ul291_0, ge291_0⟩ := Kd.FK_slice_open hMe291
                        have hv291_0 := hcc291 0 _ rfl
                        rw [Nat.add_zero, show ((Kd.slice 39 k39)).sz = 1 from rfl, Nat.mul_one] at hv291_0
                        replace hv291_0 := Option.some.inj (hv291_0.symm.trans hx291_0)
                        injection hv291_0 with hva_ hvn_ hvc_
                        rw [hva_] at ge291_0
                        rw [hvc_] at ul291_0
                        have HL291_0 := Aside0.mk (show Kd.V k39 39 _ w.heap.size _ _ (rd_L3 t286 x12_1) from Kd.V_mk ul291_0 ge291_0)
                        clear hva_ hvn_ hvc_ ge291_0 ul291_0
                        clear hcc291 hce291
                        have HR291_0 := Aside0.mk hi291_0
                        have HC291_0 := Aside0.mk hl291_0
                        clear hi291_0 hl291_0
                        replace p291 := eq_true p291
                        replace q291 := eq_true q291
                        have ea_ := Option.some.inj (hx290_0.symm.trans hx291_0)
                        injection ea_ with ea_ en_ ec_
                        subst ea_
                        subst ec_
                        clear en_
                        have p292 : 0 ≤ (x14_2 : Int) := of_decide_eq_true (by first | (with_reducible assumption) | assumption)
                        have q292 : x14_2 < ((rd_L3 t286 x12_1).length : Int) := of_decide_eq_true (by first | (with_reducible assumption) | assumption)
                        obtain ⟨ad292, e292, hx292_0, hx292_1, hx292_2⟩ := at_T39 (by repeat (first | (with_reducible exact HR291_0.out) | (with_reducible refine Kd.C_alloc ?_ _) | (with_reducible refine Kd.C_drewN ?_ _) | (with_reducible refine Kd.C_drew ?_) | exact HR291_0.out)) x14_2 p292 q292
                        cases e292
                        replace p292 := eq_true p292
                        replace q292 := eq_true q292
                        go_wp2_with (first | (go_at_call 14; (with_reducible refine (ref05_May.calls ((rd_T39 (rd_L3 t286 x12_1) x14_2).f0) ((rd_T39 (rd_L3 t286 x12_1) x14_2).f1) ((rd_T39 (rd_L3 t286 x12_1) x14_2).f2) t293 _ A16.out).mono ?_); rintro e w17 ⟨rfl, hb⟩; have n0_ := Aside0.mk (Kd.N_below (by (with_reducible repeat (first | apply Kd.N_alloc | apply Kd.N_drewN | apply Kd.N_drew)); exact HO_9.out) hb); have n1_ := Aside0.mk (Kd.N_below (by (with_reducible repeat (first | apply Kd.N_alloc | apply Kd.N_drewN | apply Kd.N_drew)); exact HO_10.out) hb); have n2_ := Aside0.mk (Kd.N_below (by (with_reducible repeat (first | apply Kd.N_alloc | apply Kd.N_drewN | apply Kd.N_drew)); exact HO_11.out) hb); have n3_ := Aside0.mk (Kd.V_below (by (with_reducible repeat (first | apply Kd.V_alloc | apply Kd.V_drewN | apply Kd.V_drew)); exact HL290_0.out) hb); have n4_ := Aside0.mk (Kd.V_below (by (with_reducible repeat (first | apply Kd.V_alloc | apply Kd.V_drewN | apply Kd.V_drew)); exact HL291_0.out) hb); have n5_ := Aside0.mk (Kd.C_below (by repeat (first | (with_reducible exact HR289_0.out) | (with_reducible refine Kd.C_alloc ?_ _) | (with_reducible refine Kd.C_drewN ?_ _) | (with_reducible refine Kd.C_drew ?_) | exact HR289_0.out)) hb); have n6_ := Aside0.mk (Kd.C_below (by repeat (first | (with_reducible exact HR290_0.out) | (with_reducible refine Kd.C_alloc ?_ _) | (with_reducible refine Kd.C_drewN ?_ _) | (with_reducible refine Kd.C_drew ?_) | exact HR290_0.out)) hb); have n7_ := Aside0.mk (Kd.C_below (by repeat (first | (with_reducible exact HR291_0.out) | (with_reducible refine Kd.C_alloc ?_ _) | (with_reducible refine Kd.C_drewN ?_ _) | (with_reducible refine Kd.C_drew ?_) | exact HR291_0.out)) hb); have n8_ := Aside0.mk (below_step (by repeat (first | (with_reducible first | exact HB.out | apply below_alloc | apply pw_below_drewN | apply below_drew1) | exact HB.out)) hb); clear HO_9; clear HO_10; clear HO_11; clear HL290_0; clear HL291_0; clear HR289_0; clear HR290_0; clear HR291_0; clear HB; have HO_9 := n0_; have HO_10 := n1_; have HO_11 := n2_; have HL290_0 := n3_; have HL291_0 := n4_; have HR289_0 := n5_; have HR290_0 := n6_; have HR291_0 := n7_; have HB := n8_; clear n0_ n1_ n2_ n3_ n4_ n5_ n6_ n7_ n8_; (try clear hb); (try clear hb2); (try clear hk); (try clear hi)))
                        go_roundg k2
                        case measure => have := HK1.out; have := HK2.out; omega
                        case rel => exact ⟨(t293), (wrap64 (x14_2 + 1)), (by first | rfl | (simp; done) | (simp [*]; done)), (by first | rfl | (simp; done) | (simp [*]; done)), H', ⟨by have := HK1.out; have := HK2.out; omega⟩, ⟨by (with_reducible repeat (first | apply Kd.N_alloc | apply Kd.N_drewN | apply Kd.N_drew)); exact HO_9.out⟩, ⟨by (with_reducible repeat (first | apply Kd.N_alloc | apply Kd.N_drewN | apply Kd.N_drew)); exact HO_10.out⟩, ⟨by (with_reducible repeat (first | apply Kd.N_alloc | apply Kd.N_drewN | apply Kd.N_drew)); exact HO_11.out⟩, ⟨by repeat (first | (with_reducible exact HR289_0.out) | (with_reducible refine Kd.C_alloc ?_ _) | (with_reducible refine Kd.C_drewN ?_ _) | (with_reducible refine Kd.C_drew ?_) | exact HR289_0.out)⟩, ⟨by repeat (first | (with_reducible first | exact HB.out | apply below_alloc | apply pw_below_drewN | apply below_drew1) | exact HB.out)⟩⟩
                      · rw [if_neg c15] at H
                        exact absurd H (by simp)
                    · replace c14 := Bool.eq_false_iff.mpr c14
                      subst c14
                      have H1 : (law20_AggOrder.l1 k2 l2 t285 (wrap64 (Int.tmod a1 4)) x9_1 x10_1 t286 x12_1 false (wrap64 (x14_2 + 1))) = some r := by rw [if_neg (show ¬ (false = true) by decide)] at H; exact H
                      clear H
                      have H := H1
                      clear H1
                      have H' := Aside0.mk H
                      clear H
                      have p290 : 0 ≤ (x12_1 : Int) := of_decide_eq_true (by first | (with_reducible assumption) | assumption)
                      have q290 : x12_1 < (t286.length : Int) := of_decide_eq_true (by first | (with_reducible assumption) | assumption)
                      obtain ⟨ad290, A290_0, c290_0, e290, hx290_0, hl290_0, hi290_0⟩ := at_L3 (Kd.N_reads' HO_11.out).2.2 x12_1 p290 q290
                      obtain rfl : ad289 = ad290 := (by injection e290)
                      obtain ⟨ce290, hce290, hMe290, hcc290⟩ := Kd.N_get HO_11.out [] x12_1 p290 (by first | exact q290 | exact of_decide_eq_true (by first | (with_reducible assumption) | assumption) | (have e_ := (Kd.N_reads' HO_11.out).1; omega))
                      obtain ⟨ua290_0, uc290_0, rfl, ul290_0, ge290_0⟩ := Kd.FK_slice_open hMe290
                      have hv290_0 := hcc290 0 _ rfl
                      rw [Nat.add_zero, show ((Kd.slice 39 k39)).sz = 1 from rfl, Nat.mul_one] at hv290_0
                      replace hv290_0 := Option.some.inj (hv290_0.symm.trans hx290_0)
                      injection hv290_0 with hva_ hvn_ hvc_
                      rw [hva_] at ge290_0
                      rw [hvc_] at ul290_0
                      have HL290_0 := Aside0.mk (show Kd.V k39 39 _ w.heap.size _ _ (rd_L3 t286 x12_1) from Kd.V_mk ul290_0 ge290_0)
                      clear hva_ hvn_ hvc_ ge290_0 ul290_0
                      clear hcc290 hce290
                      have HR290_0 := Aside0.mk hi290_0
                      have HC290_0 := Aside0.mk hl290_0
                      clear hi290_0 hl290_0
                      replace p290 := eq_true p290
                      replace q290 := eq_true q290
                      go_wp2
                      go_roundg k2
                      case measure => have := HK1.out; have := HK2.out; omega
                      case rel => exact ⟨(false), (wrap64 (x14_2 + 1)), (by first | rfl | (simp; done) | (simp [*]; done)), (by first | rfl | (simp; done) | (simp [*]; done)), H', ⟨by have := HK1.out; have := HK2.out; omega⟩, ⟨by (with_reducible repeat (first | apply Kd.N_alloc | apply Kd.N_drewN | apply Kd.N_drew)); exact HO_9.out⟩, ⟨by (with_reducible repeat (first | apply Kd.N_alloc | apply Kd.N_drewN | apply Kd.N_drew)); exact HO_10.out⟩, ⟨by (with_reducible repeat (first | apply Kd.N_alloc | apply Kd.N_drewN | apply Kd.N_drew)); exact HO_11.out⟩, ⟨by repeat (first | (with_reducible exact HR289_0.out) | (with_reducible refine Kd.C_alloc ?_ _) | (with_reducible refine Kd.C_drewN ?_ _) | (with_reducible refine Kd.C_drew ?_) | exact HR289_0.out)⟩, ⟨by repeat (first | (with_reducible first | exact HB.out | apply below_alloc | apply pw_below_drewN | apply below_drew1) | exact HB.out)⟩⟩
                  · rw [if_neg c13] at H
                    have c13b0 : decide (x14_2 < ((rd_L3 t286 x12_1).length : Int)) = false := decide_eq_false c13
                    (try (have c13b0q_hl289_0 := c13b0; rw [hl289_0] at c13b0q_hl289_0))
                    (try (have c13b0q_hl290_0 := c13b0; rw [hl290_0] at c13b0q_hl290_0))
                    (try (have c13b0q_hl291_0 := c13b0; rw [hl291_0] at c13b0q_hl291_0))
                    clear c13
                    by_cases c18 : x13_2 = true
                    · subst c18
                      have H1 : (if x9_1.length < 5864062014805 then ((some (([rd_L3 t286 x12_1] : List (List (S39))) : List (List (S39)))).bind fun y299 => (if y299.length + x10_1.length < 5864062014805 then (law20_AggOrder.l0 k2 l2 t285 (wrap64 (Int.tmod a1 4)) (x9_1 ++ [rd_L3 t286 x12_1]) (y299 ++ x10_1) t286 (wrap64 (x12_1 + 1))) else (none))) else (none)) = some r := by rw [if_pos rfl] at H; exact H
                      clear H
                      have H := H1
                      clear H1
                      by_cases c19 : x9_1.length < 5864062014805
                      · rw [if_pos c19] at H
                        have LMc19 := Aside0.mk c19
                        clear c19
                        obtain ⟨y295, hy295⟩ : ∃ y_ : List (List (S39)), y_ = (x9_1 ++ [rd_L3 t286 x12_1]) := ⟨_, rfl⟩
                        replace H : ((some (([rd_L3 t286 x12_1] : List (List (S39))) : List (List (S39)))).bind fun y299 => (if y299.length + x10_1.length < 5864062014805 then (law20_AggOrder.l0 k2 l2 t285 (wrap64 (Int.tmod a1 4)) y295 (y299 ++ x10_1) t286 (wrap64 (x12_1 + 1))) else (none))) = some r := by first | (rw [hy295]; with_reducible exact H) | (have H2_ := (Option.bind_some _ _).symm.trans H; rw [hy295]; with_reducible exact H2_) | (have H2_ := (Option.bind_some _ _).symm.trans H; with_reducible exact H2_) | with_reducible exact H | (rw [hy295]; exact H) | exact H
                        have Ny295 := Aside0.mk hy295
                        clear hy295
                        obtain ⟨y299, hy299⟩ : ∃ y_ : List (List (S39)), y_ = (([rd_L3 t286 x12_1] : List (List (S39)))) := ⟨_, rfl⟩
                        replace H : (if y299.length + x10_1.length < 5864062014805 then (law20_AggOrder.l0 k2 l2 t285 (wrap64 (Int.tmod a1 4)) y295 (y299 ++ x10_1) t286 (wrap64 (x12_1 + 1))) else (none)) = some r := by first | (rw [hy299]; with_reducible exact H) | (have H2_ := (Option.bind_some _ _).symm.trans H; rw [hy299]; with_reducible exact H2_) | (have H2_ := (Option.bind_some _ _).symm.trans H; with_reducible exact H2_) | with_reducible exact H | (rw [hy299]; exact H) | exact H
                        have Ny299 := Aside0.mk hy299
                        clear hy299
                        by_cases c20 : y299.length + x10_1.length < 5864062014805
                        · rw [if_pos c20] at H
                          have LMc20 := Aside0.mk c20
                          clear c20
                          obtain ⟨y302, hy302⟩ : ∃ y_ : List (List (S39)), y_ = (y299 ++ x10_1) := ⟨_, rfl⟩
                          replace H : (law20_AggOrder.l0 k2 l2 t285 (wrap64 (Int.tmod a1 4)) y295 y302 t286 (wrap64 (x12_1 + 1))) = some r := by first | (rw [hy302]; with_reducible exact H) | (have H2_ := (Option.bind_some _ _).symm.trans H; rw [hy302]; with_reducible exact H2_) | (have H2_ := (Option.bind_some _ _).symm.trans H; with_reducible exact H2_) | with_reducible exact H | (rw [hy302]; exact H) | exact H
                          have Ny302 := Aside0.mk hy302
                          clear hy302
                          have H' := Aside0.mk H
                          clear H
                          have p290 : 0 ≤ (x12_1 : Int) := of_decide_eq_true (by first | (with_reducible assumption) | assumption)
                          have q290 : x12_1 < (t286.length : Int) := of_decide_eq_true (by first | (with_reducible assumption) | assumption)
                          obtain ⟨ad290, A290_0, c290_0, e290, hx290_0, hl290_0, hi290_0⟩ := at_L3 (Kd.N_reads' HO_11.out).2.2 x12_1 p290 q290
                          obtain rfl : ad289 = ad290 := (by injection e290)
                          obtain ⟨ce290, hce290, hMe290, hcc290⟩ := Kd.N_get HO_11.out [] x12_1 p290 (by first | exact q290 | exact of_decide_eq_true (by first | (with_reducible assumption) | assumption) | (have e_ := (Kd.N_reads' HO_11.out).1; omega))
                          obtain ⟨ua290_0, uc290_0, rfl, ul290_0, ge290_0⟩ := Kd.FK_slice_open hMe290
                          have hv290_0 := hcc290 0 _ rfl
                          rw [Nat.add_zero, show ((Kd.slice 39 k39)).sz = 1 from rfl, Nat.mul_one] at hv290_0
                          replace hv290_0 := Option.some.inj (hv290_0.symm.trans hx290_0)
                          injection hv290_0 with hva_ hvn_ hvc_
                          rw [hva_] at ge290_0
                          rw [hvc_] at ul290_0
                          have HL290_0 := Aside0.mk (show Kd.V k39 39 _ w.heap.size _ _ (rd_L3 t286 x12_1) from Kd.V_mk ul290_0 ge290_0)
                          clear hva_ hvn_ hvc_ ge290_0 ul290_0
                          clear hcc290 hce290
                          have HR290_0 := Aside0.mk hi290_0
                          have HC290_0 := Aside0.mk hl290_0
                          clear hi290_0 hl290_0
                          replace p290 := eq_true p290
                          replace q290 := eq_true q290
                          have p294 : 0 ≤ (x12_1 : Int) := of_decide_eq_true (by first | (with_reducible assumption) | assumption)
                          have q294 : x12_1 < (t286.length : Int) := of_decide_eq_true (by first | (with_reducible assumption) | assumption)
                          obtain ⟨ad294, A294_0, c294_0, e294, hx294_0, hl294_0, hi294_0⟩ := at_L3 (Kd.N_reads' HO_11.out).2.2 x12_1 p294 q294
                          obtain rfl : ad289 = ad294 := (by injection e294)
                          obtain ⟨ce294, hce294, hMe294, hcc294⟩ := Kd.N_get HO_11.out [] x12_1 p294 (by first | exact q294 | exact of_decide_eq_true (by first | (with_reducible assumption) | assumption) | (have e_ := (Kd.N_reads' HO_11.out).1; omega))
                          obtain ⟨ua294_0, uc294_0, rfl, ul294_0, ge294_0⟩ := Kd.FK_slice_open hMe294
                          have hv294_0 := hcc294 0 _ rfl
                          rw [Nat.add_zero, show ((Kd.slice 39 k39)).sz = 1 from rfl, Nat.mul_one] at hv294_0
                          replace hv294_0 := Option.some.inj (hv294_0.symm.trans hx294_0)
                          injection hv294_0 with hva_ hvn_ hvc_
                          rw [hva_] at ge294_0
                          rw [hvc_] at ul294_0
                          have HL294_0 := Aside0.mk (show Kd.V k39 39 _ w.heap.size _ _ (rd_L3 t286 x12_1) from Kd.V_mk ul294_0 ge294_0)
                          clear hva_ hvn_ hvc_ ge294_0 ul294_0
                          clear hcc294 hce294
                          have HR294_0 := Aside0.mk hi294_0
                          have HC294_0 := Aside0.mk hl294_0
                          clear hi294_0 hl294_0
                          replace p294 := eq_true p294
                          replace q294 := eq_true q294
                          have ea_ := Option.some.inj (hx290_0.symm.trans hx294_0)
                          injection ea_ with ea_ en_ ec_
                          subst ea_
                          subst ec_
                          clear en_
                          go_wp2_with (first | ((with_reducible refine gate_builtin (b := .append) (xs := #[.tmp 59, .tmp 64]) rfl ?_); at_builtin; refine Kd.N_append (Kd.slice 39 k39) (w0 := w) w.heap.size rfl (.tmp 59) (.tmp 64) 30 32 (.slice none 0 0) 24 rfl Try.underlying30 info32 rfl (by decide) (by omega) u9 x9_1 (rd_L3 t286 x12_1) [.slice A290_0 (rd_L3 t286 x12_1).length c290_0] (fun k_ => some k_ ≠ (u10 : Value).ownBlock ∧ some k_ ≠ (.slice (some ad289) t286.length co10 : Value).ownBlock) (fun k_ => ((fun k_ => some k_ ≠ (u10 : Value).ownBlock ∧ some k_ ≠ (.slice (some ad289) t286.length co10 : Value).ownBlock)) k_ ∧ some k_ ≠ (u9 : Value).ownBlock) rfl rfl ?aP (fun _ hk => hk) ?aF ?aO ?aB ?aS ?aL ?_; (case aP => exact (Kd.FK_slice_mk (Kd.V_reads' (Kd.V_mono (ok' := (fun k_ => ((fun k_ => some k_ ≠ (u10 : Value).ownBlock ∧ some k_ ≠ (.slice (some ad289) t286.length co10 : Value).ownBlock)) k_ ∧ some k_ ≠ (u9 : Value).ownBlock)) (HL294_0.out) (fun k_ hk => ⟨⟨hk.1.2, hk.2⟩, hk.1.1⟩))).2.1 (Kd.V_F (Kd.V_mono (ok' := (fun k_ => ((fun k_ => some k_ ≠ (u10 : Value).ownBlock ∧ some k_ ≠ (.slice (some ad289) t286.length co10 : Value).ownBlock)) k_ ∧ some k_ ≠ (u9 : Value).ownBlock)) (HL294_0.out) (fun k_ hk => ⟨⟨hk.1.2, hk.2⟩, hk.1.1⟩))))); (case aB => exact (by repeat (first | (with_reducible first | exact HB.out | apply below_alloc | apply pw_below_drewN | apply below_drew1) | exact HB.out))); (case aF => exact (fun k_ hk => ⟨Kd.fresh' (Kd.N_lt (by (with_reducible repeat (first | apply Kd.N_alloc | apply Kd.N_drewN | apply Kd.N_drew)); exact HO_10.out)) k_ hk, Kd.fresh' (Kd.N_lt (by (with_reducible repeat (first | apply Kd.N_alloc | apply Kd.N_drewN | apply Kd.N_drew)); exact HO_11.out)) k_ hk⟩)); (case aO => exact (by (with_reducible repeat (first | apply Kd.N_alloc | apply Kd.N_drewN | apply Kd.N_drew)); exact HO_9.out)); (case aS => exact (below_size (by repeat (first | (with_reducible first | exact HB.out | apply below_alloc | apply pw_below_drewN | apply below_drew1) | exact HB.out)))); (case aL => have := LMc19.out; omega); intro v296 w21 ho hb hg hat; rw [← Ny295.out] at ho; have n0_ := Aside0.mk (Kd.N_afterv (ok := (fun k_ => some k_ ≠ (.slice (some ad289) t286.length co10 : Value).ownBlock)) (by (with_reducible repeat (first | apply Kd.N_alloc | apply Kd.N_drewN | apply Kd.N_drew)); exact Kd.N_mono HO_10.out (fun _ hk => ⟨hk.2, hk.1⟩)) hg hat); have n1_ := Aside0.mk (Kd.N_afterv (ok := (fun k_ => some k_ ≠ (u10 : Value).ownBlock)) (by (with_reducible repeat (first | apply Kd.N_alloc | apply Kd.N_drewN | apply Kd.N_drew)); exact Kd.N_mono HO_11.out (fun _ hk => ⟨hk.2, hk.1⟩)) hg hat); have n2_ := Aside0.mk (Kd.V_afterv (ok := (fun k_ => some k_ ≠ (u10 : Value).ownBlock ∧ some k_ ≠ (.slice (some ad289) t286.length co10 : Value).ownBlock)) (by (with_reducible repeat (first | apply Kd.V_alloc | apply Kd.V_drewN | apply Kd.V_drew)); exact Kd.V_mono HL290_0.out (fun _ hk => ⟨⟨hk.1.2, hk.2⟩, hk.1.1⟩)) hg hat); have n3_ := Aside0.mk (Kd.V_afterv (ok := (fun k_ => some k_ ≠ (u10 : Value).ownBlock ∧ some k_ ≠ (.slice (some ad289) t286.length co10 : Value).ownBlock)) (by (with_reducible repeat (first | apply Kd.V_alloc | apply Kd.V_drewN | apply Kd.V_drew)); exact Kd.V_mono HL294_0.out (fun _ hk => ⟨⟨hk.1.2, hk.2⟩, hk.1.1⟩)) hg hat); have n4_ := Aside0.mk (hb); have n5_ := Aside0.mk (ho); clear HO_10; clear HO_11; clear HL290_0; clear HL294_0; clear HB; clear HO_9; have HO_10 := n0_; have HO_11 := n1_; have HL290_0 := n2_; have HL294_0 := n3_; have HB := n4_; have HO297 := n5_; clear n0_ n1_ n2_ n3_ n4_ n5_; clear ho hb hg hat; have p298 : 0 ≤ (x12_1 : Int) := of_decide_eq_true (by first | (with_reducible assumption) | assumption); have q298 : x12_1 < (t286.length : Int) := of_decide_eq_true (by first | (with_reducible assumption) | assumption); obtain ⟨ad298, A298_0, c298_0, e298, hx298_0, hl298_0, hi298_0⟩ := at_L3 (Kd.N_reads' HO_11.out).2.2 x12_1 p298 q298; obtain rfl : ad289 = ad298 := (by injection e298); obtain ⟨ce298, hce298, hMe298, hcc298⟩ := Kd.N_get HO_11.out [] x12_1 p298 (by first | exact q298 | exact of_decide_eq_true (by first | (with_reducible assumption) | assumption) | (have e_ := (Kd.N_reads' HO_11.out).1; omega)); obtain ⟨ua298_0, uc298_0, rfl, ul298_0, ge298_0⟩ := Kd.FK_slice_open hMe298; have hv298_0 := hcc298 0 _ rfl; rw [Nat.add_zero, show ((Kd.slice 39 k39)).sz = 1 from rfl, Nat.mul_one] at hv298_0; replace hv298_0 := Option.some.inj (hv298_0.symm.trans hx298_0); injection hv298_0 with hva_ hvn_ hvc_; rw [hva_] at ge298_0; rw [hvc_] at ul298_0; have HL298_0 := Aside0.mk (show Kd.V k39 39 _ w.heap.size _ _ (rd_L3 t286 x12_1) from Kd.V_mk ul298_0 ge298_0); clear hva_ hvn_ hvc_ ge298_0 ul298_0; clear hcc298 hce298; have HR298_0 := Aside0.mk hi298_0; have HC298_0 := Aside0.mk hl298_0; clear hi298_0 hl298_0; replace p298 := eq_true p298; replace q298 := eq_true q298) | ((with_reducible refine gate_dst (N := 70) rfl ?_); refine Kd.N_lit (Kd.slice 39 k39) _ 32 ?hg (N' := 70) ?hd (xs := ([rd_L3 t286 x12_1] : List (List (S39)))) (inner := [.slice A298_0 (rd_L3 t286 x12_1).length c298_0]) (ok := (fun k_ => some k_ ≠ (u10 : Value).ownBlock ∧ some k_ ≠ (.slice (some ad289) t286.length co10 : Value).ownBlock ∧ some k_ ≠ (v296 : Value).ownBlock)) (okp := (fun k_ => some k_ ≠ (u10 : Value).ownBlock ∧ some k_ ≠ (.slice (some ad289) t286.length co10 : Value).ownBlock ∧ some k_ ≠ (v296 : Value).ownBlock)) ?hr ?hp (fun _ hk => hk) ((show ∀ k_, w21.heap.size ≤ k_ → (fun k_ => some k_ ≠ (u10 : Value).ownBlock ∧ some k_ ≠ (.slice (some ad289) t286.length co10 : Value).ownBlock ∧ some k_ ≠ (v296 : Value).ownBlock) k_ from fun k_ hk => ⟨Kd.fresh' (Kd.N_lt (by (with_reducible repeat (first | apply Kd.N_alloc | apply Kd.N_drewN | apply Kd.N_drew)); exact HO_10.out)) k_ hk, Kd.fresh' (Kd.N_lt (by (with_reducible repeat (first | apply Kd.N_alloc | apply Kd.N_drewN | apply Kd.N_drew)); exact HO_11.out)) k_ hk, Kd.fresh' (Kd.N_lt (by (with_reducible repeat (first | apply Kd.N_alloc | apply Kd.N_drewN | apply Kd.N_drew)); exact HO297.out)) k_ hk⟩) _ (Nat.le_refl _)) (Below.refl _ _) (Nat.le_refl _) (by simp) ?_; (case hd => rfl); (case hg => rfl); (case hr => first | (go_simp; done) | (go_simp; rfl)); (case hp => exact (Reps.one (show Kd.FK (Kd.slice 39 k39) _ _ (rd_L3 t286 x12_1) [.slice A298_0 (rd_L3 t286 x12_1).length c298_0] from (Kd.FK_slice_mk (Kd.V_reads' (Kd.V_mono (ok' := (fun k_ => some k_ ≠ (u10 : Value).ownBlock ∧ some k_ ≠ (.slice (some ad289) t286.length co10 : Value).ownBlock ∧ some k_ ≠ (v296 : Value).ownBlock)) (HL298_0.out) (fun k_ hk => ⟨hk.1.1, ⟨hk.2, hk.1.2⟩⟩))).2.1 (Kd.V_F (Kd.V_mono (ok' := (fun k_ => some k_ ≠ (u10 : Value).ownBlock ∧ some k_ ≠ (.slice (some ad289) t286.length co10 : Value).ownBlock ∧ some k_ ≠ (v296 : Value).ownBlock)) (HL298_0.out) (fun k_ hk => ⟨hk.1.1, ⟨hk.2, hk.1.2⟩⟩))))) (Reps.none _ _))); intro v300 w22 ho23 hb hg_ hnew_; clear hg_ hnew_; (first | rw [← Ny299.out] at ho23 | (simp only [Int.reduceToNat] at ho23; rw [← Ny299.out] at ho23)); have n0_ := Aside0.mk (Kd.N_elder' (by (with_reducible repeat (first | apply Kd.N_alloc | apply Kd.N_drewN | apply Kd.N_drew)); exact HO_10.out) (Kd.N_base ho23) hb); have n1_ := Aside0.mk (Kd.N_elder' (by (with_reducible repeat (first | apply Kd.N_alloc | apply Kd.N_drewN | apply Kd.N_drew)); exact HO_11.out) (Kd.N_base ho23) hb); have n2_ := Aside0.mk (Kd.V_elder' (by (with_reducible repeat (first | apply Kd.V_alloc | apply Kd.V_drewN | apply Kd.V_drew)); exact HL290_0.out) (Kd.N_base ho23) hb); have n3_ := Aside0.mk (Kd.V_elder' (by (with_reducible repeat (first | apply Kd.V_alloc | apply Kd.V_drewN | apply Kd.V_drew)); exact HL294_0.out) (Kd.N_base ho23) hb); have n4_ := Aside0.mk (Kd.N_elder' (by (with_reducible repeat (first | apply Kd.N_alloc | apply Kd.N_drewN | apply Kd.N_drew)); exact HO297.out) (Kd.N_base ho23) hb); have n5_ := Aside0.mk (Kd.V_elder' (by (with_reducible repeat (first | apply Kd.V_alloc | apply Kd.V_drewN | apply Kd.V_drew)); exact HL298_0.out) (Kd.N_base ho23) hb); have n6_ := Aside0.mk (Kd.N_lower ho23 (below_size (by repeat (first | (with_reducible first | exact HB.out | apply below_alloc | apply pw_below_drewN | apply below_drew1) | exact HB.out)))); have n7_ := Aside0.mk (Kd.C_below (by repeat (first | (with_reducible exact HR298_0.out) | (with_reducible refine Kd.C_alloc ?_ _) | (with_reducible refine Kd.C_drewN ?_ _) | (with_reducible refine Kd.C_drew ?_) | exact HR298_0.out)) hb); have n8_ := Aside0.mk (below_step (by repeat (first | (with_reducible first | exact HB.out | apply below_alloc | apply pw_below_drewN | apply below_drew1) | exact HB.out)) hb); clear HO_10; clear HO_11; clear HL290_0; clear HL294_0; clear HO297; clear HL298_0; clear HR298_0; clear HB; have HO_10 := n0_; have HO_11 := n1_; have HL290_0 := n2_; have HL294_0 := n3_; have HO297 := n4_; have HL298_0 := n5_; have HO301 := n6_; have HR298_0 := n7_; have HB := n8_; clear n0_ n1_ n2_ n3_ n4_ n5_ n6_ n7_ n8_; clear hb ho23; obtain ⟨Ao25, co25, eo25⟩ := Kd.N_slice HO_10.out; subst eo25) | ((with_reducible refine gate_builtin (b := .append) (xs := #[.tmp 70, .tmp 71]) rfl ?_); at_builtin; refine Kd.N_append_rows (Kd.slice 39 k39) (w0 := w) w.heap.size rfl (.tmp 70) (.tmp 71) 30 32 (.slice none 0 0) 24 rfl Try.underlying30 info32 rfl (by decide) (by omega) v300 y299 x10_1 _ _ _ (fun k_ => some k_ ≠ (.slice (some ad289) t286.length co10 : Value).ownBlock ∧ some k_ ≠ (v296 : Value).ownBlock) (fun k_ => ((fun k_ => some k_ ≠ (.slice (some ad289) t286.length co10 : Value).ownBlock ∧ some k_ ≠ (v296 : Value).ownBlock)) k_ ∧ some k_ ≠ (v300 : Value).ownBlock) rfl rfl ?aO ?aR (fun _ hk => hk) ?aF ?aB ?aS ?aL ?_; (case aR => exact (by skip; exact Kd.N_F (Kd.N_mono (ok' := (fun k_ => ((fun k_ => some k_ ≠ (.slice (some ad289) t286.length co10 : Value).ownBlock ∧ some k_ ≠ (v296 : Value).ownBlock)) k_ ∧ some k_ ≠ (v300 : Value).ownBlock)) (HO_10.out) (fun k_ hk => ⟨⟨hk.1.1, hk.1.2⟩, hk.2⟩)))); (case aB => exact (by repeat (first | (with_reducible first | exact HB.out | apply below_alloc | apply pw_below_drewN | apply below_drew1) | exact HB.out))); (case aF => exact (fun k_ hk => ⟨Kd.fresh' (Kd.N_lt (by (with_reducible repeat (first | apply Kd.N_alloc | apply Kd.N_drewN | apply Kd.N_drew)); exact HO_11.out)) k_ hk, Kd.fresh' (Kd.N_lt (by (with_reducible repeat (first | apply Kd.N_alloc | apply Kd.N_drewN | apply Kd.N_drew)); exact HO297.out)) k_ hk⟩)); (case aO => exact (by (with_reducible repeat (first | apply Kd.N_alloc | apply Kd.N_drewN | apply Kd.N_drew)); exact Kd.N_mono HO301.out (fun _ hk => ⟨hk.2.1, hk.2.2⟩))); (case aS => exact (below_size (by repeat (first | (with_reducible first | exact HB.out | apply below_alloc | apply pw_below_drewN | apply below_drew1) | exact HB.out)))); (case aL => have := LMc20.out; omega); intro v303 w24 ho hb hg hat; rw [← Ny302.out] at ho; have n0_ := Aside0.mk (Kd.N_afterv (ok := (fun k_ => some k_ ≠ (.slice (some ad289) t286.length co10 : Value).ownBlock ∧ some k_ ≠ (v296 : Value).ownBlock)) (by (with_reducible repeat (first | apply Kd.N_alloc | apply Kd.N_drewN | apply Kd.N_drew)); exact HO_10.out) hg hat); have n1_ := Aside0.mk (Kd.N_afterv (ok := (fun k_ => some k_ ≠ (.slice Ao25 x10_1.length co25 : Value).ownBlock ∧ some k_ ≠ (v296 : Value).ownBlock)) (by (with_reducible repeat (first | apply Kd.N_alloc | apply Kd.N_drewN | apply Kd.N_drew)); exact HO_11.out) hg hat); have n2_ := Aside0.mk (Kd.V_afterv (ok := (fun k_ => some k_ ≠ (.slice Ao25 x10_1.length co25 : Value).ownBlock ∧ some k_ ≠ (.slice (some ad289) t286.length co10 : Value).ownBlock ∧ some k_ ≠ (v296 : Value).ownBlock)) (by (with_reducible repeat (first | apply Kd.V_alloc | apply Kd.V_drewN | apply Kd.V_drew)); exact Kd.V_mono HL290_0.out (fun _ hk => ⟨⟨hk.1.1.1, ⟨hk.1.1.2, hk.1.2⟩⟩, hk.2⟩)) hg hat); have n3_ := Aside0.mk (Kd.V_afterv (ok := (fun k_ => some k_ ≠ (.slice Ao25 x10_1.length co25 : Value).ownBlock ∧ some k_ ≠ (.slice (some ad289) t286.length co10 : Value).ownBlock ∧ some k_ ≠ (v296 : Value).ownBlock)) (by (with_reducible repeat (first | apply Kd.V_alloc | apply Kd.V_drewN | apply Kd.V_drew)); exact Kd.V_mono HL294_0.out (fun _ hk => ⟨⟨hk.1.1.1, ⟨hk.1.1.2, hk.1.2⟩⟩, hk.2⟩)) hg hat); have n4_ := Aside0.mk (Kd.N_afterv (ok := (fun k_ => some k_ ≠ (.slice Ao25 x10_1.length co25 : Value).ownBlock ∧ some k_ ≠ (.slice (some ad289) t286.length co10 : Value).ownBlock)) (by (with_reducible repeat (first | apply Kd.N_alloc | apply Kd.N_drewN | apply Kd.N_drew)); exact HO297.out) hg hat); have n5_ := Aside0.mk (Kd.V_afterv (ok := (fun k_ => some k_ ≠ (.slice Ao25 x10_1.length co25 : Value).ownBlock ∧ some k_ ≠ (.slice (some ad289) t286.length co10 : Value).ownBlock ∧ some k_ ≠ (v296 : Value).ownBlock)) (by (with_reducible repeat (first | apply Kd.V_alloc | apply Kd.V_drewN | apply Kd.V_drew)); exact Kd.V_mono HL298_0.out (fun _ hk => ⟨⟨hk.1.1.1, ⟨hk.1.2, hk.1.1.2⟩⟩, hk.2⟩)) hg hat); have n6_ := Aside0.mk (hb); have n7_ := Aside0.mk (ho); clear HO_10; clear HO_11; clear HL290_0; clear HL294_0; clear HO297; clear HL298_0; clear HB; clear HO301; have HO_10 := n0_; have HO_11 := n1_; have HL290_0 := n2_; have HL294_0 := n3_; have HO297 := n4_; have HL298_0 := n5_; have HB := n6_; have HO304 := n7_; clear n0_ n1_ n2_ n3_ n4_ n5_ n6_ n7_; clear ho hb hg hat))
                          go_roundg k2
                          case measure => have := HK1.out; have := HK2.out; omega
                          case rel => exact ⟨(y295), (y302), (wrap64 (x12_1 + 1)), (by first | rfl | (simp; done) | (simp [*]; done)), H', ⟨by have := HK1.out; have := HK2.out; omega⟩, ⟨by (with_reducible repeat (first | apply Kd.N_alloc | apply Kd.N_drewN | apply Kd.N_drew)); exact Kd.N_mono HO297.out (fun _ hk => ⟨hk.2, hk.1.2⟩)⟩, ⟨by (with_reducible repeat (first | apply Kd.N_alloc | apply Kd.N_drewN | apply Kd.N_drew)); exact Kd.N_mono HO304.out (fun _ hk => ⟨hk.2, hk.1⟩)⟩, ⟨by (with_reducible repeat (first | apply Kd.N_alloc | apply Kd.N_drewN | apply Kd.N_drew)); exact Kd.N_mono HO_11.out (fun _ hk => ⟨hk.1.2, hk.2⟩)⟩, ⟨by repeat (first | (with_reducible first | exact HB.out | apply below_alloc | apply pw_below_drewN | apply below_drew1) | exact HB.out)⟩⟩
                        · rw [if_neg c20] at H
                          exact absurd H (by simp)
                      · rw [if_neg c19] at H
                        exact absurd H (by simp)
                    · replace c18 := Bool.eq_false_iff.mpr c18
                      subst c18
                      have H1 : (law20_AggOrder.l0 k2 l2 t285 (wrap64 (Int.tmod a1 4)) x9_1 x10_1 t286 (wrap64 (x12_1 + 1))) = some r := by rw [if_neg (show ¬ (false = true) by decide)] at H; exact H
                      clear H
                      have H := H1
                      clear H1
                      have H' := Aside0.mk H
                      clear H
                      have p290 : 0 ≤ (x12_1 : Int) := of_decide_eq_true (by first | (with_reducible assumption) | assumption)
                      have q290 : x12_1 < (t286.length : Int) := of_decide_eq_true (by first | (with_reducible assumption) | assumption)
                      obtain ⟨ad290, A290_0, c290_0, e290, hx290_0, hl290_0, hi290_0⟩ := at_L3 (Kd.N_reads' HO_11.out).2.2 x12_1 p290 q290
                      obtain rfl : ad289 = ad290 := (by injection e290)
                      obtain ⟨ce290, hce290, hMe290, hcc290⟩ := Kd.N_get HO_11.out [] x12_1 p290 (by first | exact q290 | exact of_decide_eq_true (by first | (with_reducible assumption) | assumption) | (have e_ := (Kd.N_reads' HO_11.out).1; omega))
                      obtain ⟨ua290_0, uc290_0, rfl, ul290_0, ge290_0⟩ := Kd.FK_slice_open hMe290
                      have hv290_0 := hcc290 0 _ rfl
                      rw [Nat.add_zero, show ((Kd.slice 39 k39)).sz = 1 from rfl, Nat.mul_one] at hv290_0
                      replace hv290_0 := Option.some.inj (hv290_0.symm.trans hx290_0)
                      injection hv290_0 with hva_ hvn_ hvc_
                      rw [hva_] at ge290_0
                      rw [hvc_] at ul290_0
                      have HL290_0 := Aside0.mk (show Kd.V k39 39 _ w.heap.size _ _ (rd_L3 t286 x12_1) from Kd.V_mk ul290_0 ge290_0)
                      clear hva_ hvn_ hvc_ ge290_0 ul290_0
                      clear hcc290 hce290
                      have HR290_0 := Aside0.mk hi290_0
                      have HC290_0 := Aside0.mk hl290_0
                      clear hi290_0 hl290_0
                      replace p290 := eq_true p290
                      replace q290 := eq_true q290
                      go_wp2
                      go_roundg k2
                      case measure => have := HK1.out; have := HK2.out; omega
                      case rel => exact ⟨(x9_1), (x10_1), (wrap64 (x12_1 + 1)), (by first | rfl | (simp; done) | (simp [*]; done)), H', ⟨by have := HK1.out; have := HK2.out; omega⟩, ⟨by (with_reducible repeat (first | apply Kd.N_alloc | apply Kd.N_drewN | apply Kd.N_drew)); exact HO_9.out⟩, ⟨by (with_reducible repeat (first | apply Kd.N_alloc | apply Kd.N_drewN | apply Kd.N_drew)); exact HO_10.out⟩, ⟨by (with_reducible repeat (first | apply Kd.N_alloc | apply Kd.N_drewN | apply Kd.N_drew)); exact HO_11.out⟩, ⟨by repeat (first | (with_reducible first | exact HB.out | apply below_alloc | apply pw_below_drewN | apply below_drew1) | exact HB.out)⟩⟩
                · rw [if_neg c12] at H
                  exact absurd H (by simp)
              · rw [if_neg c11] at H
                exact absurd H (by simp)
        · rw [if_neg c9] at H
          exact absurd H (by simp)
      · rw [if_neg c8] at H
        have c8b0 : decide (x12_1 < (t286.length : Int)) = false := decide_eq_false c8
        (try (have c8b0q_hl289_0 := c8b0; rw [hl289_0] at c8b0q_hl289_0))
        (try (have c8b0q_hl290_0 := c8b0; rw [hl290_0] at c8b0q_hl290_0))
        (try (have c8b0q_hl291_0 := c8b0; rw [hl291_0] at c8b0q_hl291_0))
        (try (have c8b0q_hl294_0 := c8b0; rw [hl294_0] at c8b0q_hl294_0))
        (try (have c8b0q_hl298_0 := c8b0; rw [hl298_0] at c8b0q_hl298_0))
        clear c8
        by_cases c26 : (l2.length : Int) > 20
        · rw [if_pos c26] at H
          have c26b0 : decide (20 < (l2.length : Int)) = true := decide_eq_true c26
          (try (have c26b0q_hl289_0 := c26b0; rw [hl289_0] at c26b0q_hl289_0))
          (try (have c26b0q_hl290_0 := c26b0; rw [hl290_0] at c26b0q_hl290_0))
          (try (have c26b0q_hl291_0 := c26b0; rw [hl291_0] at c26b0q_hl291_0))
          (try (have c26b0q_hl294_0 := c26b0; rw [hl294_0] at c26b0q_hl294_0))
          (try (have c26b0q_hl298_0 := c26b0; rw [hl298_0] at c26b0q_hl298_0))
          have c26b1 : decide (20 < l2.length) = true := decide_eq_true (by omega)
          (try (have c26b1q_hl289_0 := c26b1; rw [hl289_0] at c26b1q_hl289_0))
          (try (have c26b1q_hl290_0 := c26b1; rw [hl290_0] at c26b1q_hl290_0))
          (try (have c26b1q_hl291_0 := c26b1; rw [hl291_0] at c26b1q_hl291_0))
          (try (have c26b1q_hl294_0 := c26b1; rw [hl294_0] at c26b1q_hl294_0))
          (try (have c26b1q_hl298_0 := c26b1; rw [hl298_0] at c26b1q_hl298_0))
          clear c26
          obtain rfl := Option.some.inj H
          obtain ⟨Ao27, co27, eo27⟩ := Kd.N_slice HO_11.out
          subst eo27
          go_wp2
          go_ret
          exact ⟨by first | rfl | (simp [errW_none, errW_some] <;> rfl) | (simp [*, errW_none, errW_some] <;> rfl), by repeat (first | (with_reducible first | exact HB.out | apply below_alloc | apply pw_below_drewN | apply below_drew1) | exact HB.out)⟩
        · rw [if_neg c26] at H
          have c26b0 : decide (20 < (l2.length : Int)) = false := decide_eq_false c26
          (try (have c26b0q_hl289_0 := c26b0; rw [hl289_0] at c26b0q_hl289_0))
          (try (have c26b0q_hl290_0 := c26b0; rw [hl290_0] at c26b0q_hl290_0))
          (try (have c26b0q_hl291_0 := c26b0; rw [hl291_0] at c26b0q_hl291_0))
          (try (have c26b0q_hl294_0 := c26b0; rw [hl294_0] at c26b0q_hl294_0))
          (try (have c26b0q_hl298_0 := c26b0; rw [hl298_0] at c26b0q_hl298_0))
          have c26b1 : decide (20 < l2.length) = false := decide_eq_false (by omega)
          (try (have c26b1q_hl289_0 := c26b1; rw [hl289_0] at c26b1q_hl289_0))
          (try (have c26b1q_hl290_0 := c26b1; rw [hl290_0] at c26b1q_hl290_0))
          (try (have c26b1q_hl291_0 := c26b1; rw [hl291_0] at c26b1q_hl291_0))
          (try (have c26b1q_hl294_0 := c26b1; rw [hl294_0] at c26b1q_hl294_0))
          (try (have c26b1q_hl298_0 := c26b1; rw [hl298_0] at c26b1q_hl298_0))
          clear c26
          replace H := Option.bind_eq_some_iff.mp H
          obtain ⟨⟨t305, t306⟩, A280, H⟩ := H
          replace H : ((agg_Group.f k1 x10_1 (wrap64 (Int.tmod a1 4)) l2).bind fun bt309 => (if t285 = true then (if t306 = bt309.2 then ((ref16_Bag.f k1 t305 bt309.1).bind fun t313 => (some t313)) else (some false)) else (some false))) = some r := H
          have A28 := Aside0.mk A280
          clear A280
          replace H := Option.bind_eq_some_iff.mp H
          obtain ⟨⟨t309, t310⟩, A290, H⟩ := H
          replace H : (if t285 = true then (if t306 = t310 then ((ref16_Bag.f k1 t305 t309).bind fun t313 => (some t313)) else (some false)) else (some false)) = some r := H
          have A29 := Aside0.mk A290
          clear A290
          by_cases c30 : t285 = true
          · subst c30
            have H1 : (if t306 = t310 then ((ref16_Bag.f k1 t305 t309).bind fun t313 => (some t313)) else (some false)) = some r := by rw [if_pos rfl] at H; exact H
            clear H
            have H := H1
            clear H1
            by_cases c31 : t306 = t310
            · rw [if_pos c31] at H
              have c31b0 : (t306 == t310) = true := beq_iff_eq.mpr c31
              have c31b1 : (t306 != t310) = false := bne_eq_false_iff_eq.mpr c31
              clear c31
              replace H := Option.bind_eq_some_iff.mp H
              obtain ⟨t313, A320, H⟩ := H
              replace H : (some t313) = some r := H
              have A32 := Aside0.mk A320
              clear A320
              obtain rfl := Option.some.inj H
              obtain ⟨Ao33, co33, eo33⟩ := Kd.N_slice HO_11.out
              subst eo33
              obtain ⟨Ao34, co34, eo34⟩ := Kd.N_slice HO_9.out
              subst eo34
              go_wp2_with (first | ((with_reducible refine gate_callee (f := 12) rfl ?_); refine goesL_ (some 81) rfl rfl Try.func12 (by kernel_rfl) rfl #[.slice Ao34 x9_1.length co34, .int .i64 (wrap64 (Int.tmod a1 4)), .slice A2 l2.length c2] rfl (by (try simp only [List.map_toArray, List.map_cons, List.map_nil]); first | done | rfl | (simp only [List.length_drop, List.length_take]; rfl)) ?_; (with_reducible refine (agg_Group.calls k1 _ _ x9_1 (wrap64 (Int.tmod a1 4)) _ _ l2 t305 t306 _ ?side1 ?side2 ?side3 ?side4 A28.out).mono ?_); (case side1 => repeat (first | exact (Kd.N_reads' HO_9.out).2.2 | (with_reducible refine Kd.C_alloc ?_ _) | (with_reducible refine Kd.C_drewN ?_ _) | (with_reducible refine Kd.C_drew ?_))); (case side2 => exact (Kd.N_reads' HO_9.out).2.1); (case side3 => repeat (first | exact (Kd.C_below HR2.out HB.out) | (with_reducible refine Kd.C_alloc ?_ _) | (with_reducible refine Kd.C_drewN ?_ _) | (with_reducible refine Kd.C_drew ?_))); (case side4 => exact HC2.out); rintro e w35 ⟨v307, rfl, ho0, hb⟩; refine ⟨_, rfl, ?_⟩; have n0_ := Aside0.mk (Kd.N_elder' (by (with_reducible repeat (first | apply Kd.N_alloc | apply Kd.N_drewN | apply Kd.N_drew)); exact HO_9.out) (Kd.S_base ho0) hb); have n1_ := Aside0.mk (Kd.N_elder' (by (with_reducible repeat (first | apply Kd.N_alloc | apply Kd.N_drewN | apply Kd.N_drew)); exact HO_10.out) (Kd.S_base ho0) hb); have n2_ := Aside0.mk (Kd.N_elder' (by (with_reducible repeat (first | apply Kd.N_alloc | apply Kd.N_drewN | apply Kd.N_drew)); exact HO_11.out) (Kd.S_base ho0) hb); have n3_ := Aside0.mk (Kd.N_lower (Kd.N_mono (ok' := fun k_ => some k_ ≠ (.slice Ao34 x9_1.length co34 : Value).ownBlock ∧ some k_ ≠ (u10 : Value).ownBlock ∧ some k_ ≠ (.slice Ao33 t286.length co33 : Value).ownBlock) (Kd.S_N (Kd.S_bound ho0)) (fun k_ hk_ => ⟨(Kd.fresh' (Kd.N_lt (by (with_reducible repeat (first | apply Kd.N_alloc | apply Kd.N_drewN | apply Kd.N_drew)); exact HO_9.out)) k_ hk_.2.1), (Kd.fresh' (Kd.N_lt (by (with_reducible repeat (first | apply Kd.N_alloc | apply Kd.N_drewN | apply Kd.N_drew)); exact HO_10.out)) k_ hk_.2.1), (Kd.fresh' (Kd.N_lt (by (with_reducible repeat (first | apply Kd.N_alloc | apply Kd.N_drewN | apply Kd.N_drew)); exact HO_11.out)) k_ hk_.2.1)⟩)) (below_size (by repeat (first | (with_reducible first | exact HB.out | apply below_alloc | apply pw_below_drewN | apply below_drew1) | exact HB.out)))); have n4_ := Aside0.mk (below_step (by repeat (first | (with_reducible first | exact HB.out | apply below_alloc | apply pw_below_drewN | apply below_drew1) | exact HB.out)) hb); clear HO_9; clear HO_10; clear HO_11; clear HB; have HO_9 := n0_; have HO_10 := n1_; have HO_11 := n2_; have HO308 := n3_; have HB := n4_; clear n0_ n1_ n2_ n3_ n4_; (try clear hb); (try clear hb2); (try clear hk); (try clear hi); (try clear ho0); obtain ⟨Ao36, co36, eo36⟩ := Kd.N_slice HO_10.out; subst eo36) | ((with_reducible refine gate_callee (f := 12) rfl ?_); refine goesL_ (some 88) rfl rfl Try.func12 (by kernel_rfl) rfl #[.slice Ao36 x10_1.length co36, .int .i64 (wrap64 (Int.tmod a1 4)), .slice A2 l2.length c2] rfl (by (try simp only [List.map_toArray, List.map_cons, List.map_nil]); first | done | rfl | (simp only [List.length_drop, List.length_take]; rfl)) ?_; (with_reducible refine (agg_Group.calls k1 _ _ x10_1 (wrap64 (Int.tmod a1 4)) _ _ l2 t309 t310 _ ?side1 ?side2 ?side3 ?side4 A29.out).mono ?_); (case side1 => repeat (first | exact (Kd.N_reads' HO_10.out).2.2 | (with_reducible refine Kd.C_alloc ?_ _) | (with_reducible refine Kd.C_drewN ?_ _) | (with_reducible refine Kd.C_drew ?_))); (case side2 => exact (Kd.N_reads' HO_10.out).2.1); (case side3 => repeat (first | exact (Kd.C_below HR2.out HB.out) | (with_reducible refine Kd.C_alloc ?_ _) | (with_reducible refine Kd.C_drewN ?_ _) | (with_reducible refine Kd.C_drew ?_))); (case side4 => exact HC2.out); rintro e w37 ⟨v311, rfl, ho0, hb⟩; refine ⟨_, rfl, ?_⟩; have n0_ := Aside0.mk (Kd.N_elder' (by (with_reducible repeat (first | apply Kd.N_alloc | apply Kd.N_drewN | apply Kd.N_drew)); exact HO_9.out) (Kd.S_base ho0) hb); have n1_ := Aside0.mk (Kd.N_elder' (by (with_reducible repeat (first | apply Kd.N_alloc | apply Kd.N_drewN | apply Kd.N_drew)); exact HO_10.out) (Kd.S_base ho0) hb); have n2_ := Aside0.mk (Kd.N_elder' (by (with_reducible repeat (first | apply Kd.N_alloc | apply Kd.N_drewN | apply Kd.N_drew)); exact HO_11.out) (Kd.S_base ho0) hb); have n3_ := Aside0.mk (Kd.N_elder' (by (with_reducible repeat (first | apply Kd.N_alloc | apply Kd.N_drewN | apply Kd.N_drew)); exact HO308.out) (Kd.S_base ho0) hb); have n4_ := Aside0.mk (Kd.N_lower (Kd.N_mono (ok' := fun k_ => some k_ ≠ (.slice Ao34 x9_1.length co34 : Value).ownBlock ∧ some k_ ≠ (.slice Ao36 x10_1.length co36 : Value).ownBlock ∧ some k_ ≠ (.slice Ao33 t286.length co33 : Value).ownBlock ∧ some k_ ≠ (v307 : Value).ownBlock) (Kd.S_N (Kd.S_bound ho0)) (fun k_ hk_ => ⟨(Kd.fresh' (Kd.N_lt (by (with_reducible repeat (first | apply Kd.N_alloc | apply Kd.N_drewN | apply Kd.N_drew)); exact HO_9.out)) k_ hk_.2.1), (Kd.fresh' (Kd.N_lt (by (with_reducible repeat (first | apply Kd.N_alloc | apply Kd.N_drewN | apply Kd.N_drew)); exact HO_10.out)) k_ hk_.2.1), (Kd.fresh' (Kd.N_lt (by (with_reducible repeat (first | apply Kd.N_alloc | apply Kd.N_drewN | apply Kd.N_drew)); exact HO_11.out)) k_ hk_.2.1), (Kd.fresh' (Kd.N_lt (by (with_reducible repeat (first | apply Kd.N_alloc | apply Kd.N_drewN | apply Kd.N_drew)); exact HO308.out)) k_ hk_.2.1)⟩)) (below_size (by repeat (first | (with_reducible first | exact HB.out | apply below_alloc | apply pw_below_drewN | apply below_drew1) | exact HB.out)))); have n5_ := Aside0.mk (below_step (by repeat (first | (with_reducible first | exact HB.out | apply below_alloc | apply pw_below_drewN | apply below_drew1) | exact HB.out)) hb); clear HO_9; clear HO_10; clear HO_11; clear HO308; clear HB; have HO_9 := n0_; have HO_10 := n1_; have HO_11 := n2_; have HO308 := n3_; have HO312 := n4_; have HB := n5_; clear n0_ n1_ n2_ n3_ n4_ n5_; (try clear hb); (try clear hb2); (try clear hk); (try clear hi); (try clear ho0); obtain ⟨Ao38, co38, eo38⟩ := Kd.N_slice HO308.out; subst eo38; obtain ⟨Ao39, co39, eo39⟩ := Kd.N_slice HO312.out; subst eo39) | (go_at_call 15; (with_reducible refine (ref16_Bag.calls k1 _ _ t305 _ _ t309 t313 _ ?side1 ?side2 ?side3 ?side4 A32.out).mono ?_); (case side1 => repeat (first | exact (Kd.N_reads' HO308.out).2.2 | (with_reducible refine Kd.C_alloc ?_ _) | (with_reducible refine Kd.C_drewN ?_ _) | (with_reducible refine Kd.C_drew ?_))); (case side2 => exact (Kd.N_reads' HO308.out).2.1); (case side3 => repeat (first | exact (Kd.N_reads' HO312.out).2.2 | (with_reducible refine Kd.C_alloc ?_ _) | (with_reducible refine Kd.C_drewN ?_ _) | (with_reducible refine Kd.C_drew ?_))); (case side4 => exact (Kd.N_reads' HO312.out).2.1); rintro e w40 ⟨rfl, hb⟩; have n0_ := Aside0.mk (Kd.N_below (by (with_reducible repeat (first | apply Kd.N_alloc | apply Kd.N_drewN | apply Kd.N_drew)); exact HO_9.out) hb); have n1_ := Aside0.mk (Kd.N_below (by (with_reducible repeat (first | apply Kd.N_alloc | apply Kd.N_drewN | apply Kd.N_drew)); exact HO_10.out) hb); have n2_ := Aside0.mk (Kd.N_below (by (with_reducible repeat (first | apply Kd.N_alloc | apply Kd.N_drewN | apply Kd.N_drew)); exact HO_11.out) hb); have n3_ := Aside0.mk (Kd.N_below (by (with_reducible repeat (first | apply Kd.N_alloc | apply Kd.N_drewN | apply Kd.N_drew)); exact HO308.out) hb); have n4_ := Aside0.mk (Kd.N_below (by (with_reducible repeat (first | apply Kd.N_alloc | apply Kd.N_drewN | apply Kd.N_drew)); exact HO312.out) hb); have n5_ := Aside0.mk (below_step (by repeat (first | (with_reducible first | exact HB.out | apply below_alloc | apply pw_below_drewN | apply below_drew1) | exact HB.out)) hb); clear HO_9; clear HO_10; clear HO_11; clear HO308; clear HO312; clear HB; have HO_9 := n0_; have HO_10 := n1_; have HO_11 := n2_; have HO308 := n3_; have HO312 := n4_; have HB := n5_; clear n0_ n1_ n2_ n3_ n4_ n5_; (try clear hb); (try clear hb2); (try clear hk); (try clear hi)))
              go_ret
              exact ⟨by first | rfl | (simp [errW_none, errW_some] <;> rfl) | (simp [*, errW_none, errW_some] <;> rfl), by repeat (first | (with_reducible first | exact HB.out | apply below_alloc | apply pw_below_drewN | apply below_drew1) | exact HB.out)⟩
            · rw [if_neg c31] at H
              have c31b0 : (t306 == t310) = false := beq_eq_false_iff_ne.mpr c31
              have c31b1 : (t306 != t310) = true := bne_iff_ne.mpr c31
              exact absurd ((Option.some.inj H).trans hr_.out) (by decide)
          · replace c30 := Bool.eq_false_iff.mpr c30
            subst c30
            have H1 : (some false) = some r := by rw [if_neg (show ¬ (false = true) by decide)] at H; exact H
            clear H
            have H := H1
            clear H1
            exact absurd ((Option.some.inj H).trans hr_.out) (by decide)

/-- THE ONE PURE STATEMENT of law20_AggOrder: yours. -/
def law20_AggOrder.Pure : Prop := ∀ (l0 : List (List (S39))) (a1 : Int) (l2 : List (S36)), Hand.WfRow 24 (Hand.WfRow 32 wfS39) l0 → (Lit.int .u8 a1).wf = true → Hand.WfRow 16 wfS36 l2 → ∃ k, law20_AggOrder.f k l0 a1 l2 = some true
theorem law20_AggOrder.walk (P : law20_AggOrder.Pure) (A0 : Option Addr) (c0 : Nat) (l0 : List (List (S39))) (a1 : Int) (A2 : Option Addr) (c2 : Nat) (l2 : List (S36)) (w : World) (w0 : l0.length ≤ c0 ∧ Kd.C (Kd.slice 39 k39) w A0 l0.length l0 ∧ Hand.WfRow 24 (Hand.WfRow 32 wfS39) l0) (w1 : (Lit.int .u8 a1).wf = true) (w2 : l2.length ≤ c2 ∧ Kd.C k36 w A2 l2.length l2 ∧ Hand.WfRow 16 wfS36 l2) :
    Calls Try.prog 6 #[.slice A0 l0.length c0, .int .u8 a1, .slice A2 l2.length c2] w fun e w' => e = .returned (.bool true) ∧ Below w.heap.size w w' := by
  obtain ⟨hc0, hr0, hw0⟩ := w0
  obtain ⟨hc2, hr2, hw2⟩ := w2
  obtain ⟨k, h⟩ := P l0 a1 l2 hw0 w1 hw2
  refine (law20_AggOrder.calls k _ _ l0 a1 _ _ l2 true w hr0 hc0 hr2 hc2 ⟨rfl⟩ h).mono ?_
  rintro e w' ⟨rfl, hd⟩
  exact ⟨rfl, hd⟩

end Go.Proofs.Ytedgfhijkkedaaa.PAgg
