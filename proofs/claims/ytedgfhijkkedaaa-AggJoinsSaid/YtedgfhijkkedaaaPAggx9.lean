-- Written by this session's program wip/gprint/gprint.py, over the kit's print, with given functions; no text of print.sh's.
import Derived.Test.YtedgfhijkkedaaaPAggx0
import Derived.Test.YtedgfhijkkedaaaPAggx3
import Derived.Test.YtedgfhijkkedaaaPAggx8
namespace Go.Proofs.Ytedgfhijkkedaaa.PAgg
open Go.RowKit Go.Proofs.YtedgfhijkkedaaaW.PrintWords Go.Proofs.YtedgfhijkkedaaaW.PrintLast Go.Proofs.YtedgfhijkkedaaaW.PrintMore
attribute [local go_sem] max2_int min2_int max_two min_two max_three min_three max_four min_four   -- for this text's walks alone
set_option linter.unusedVariables false
set_option linter.unusedSimpArgs false

/-! ### law20_AggJoins: function 8 -/
mutual
def law20_AggJoins.j1 : Nat → Int → Bool → Int → List Int → List (List (S39)) → Option (Bool)
  | 0, _, _, _, _, _ => none
  | k + 1, x2, x7, x8, x9, x10 => (agg_Group.f k x10 1 (([(⟨1, 0⟩ : S36), (⟨2, 1⟩ : S36)] : List (S36)))).bind fun bt155 => (if bt155.2 = 0 then (law20_AggJoins.l1 k x2 x7 x8 x9 bt155.1 0) else (some false))
def law20_AggJoins.l1 : Nat → Int → Bool → Int → List Int → List (List (S39)) → Int → Option (Bool)
  | 0, _, _, _, _, _, _ => none
  | k + 1, x2, x7, x8, x9, x13, x15 => if x15 < (x13.length : Int) then (if 0 ≤ x15 then (if ((rd_L3 x13 x15).length : Int) = 3 then (if 0 < ((rd_L3 x13 x15).length : Int) then (if ((rd_T39 (rd_L3 x13 x15) 0).f1) < 0 then (law20_AggJoins.j3 k x2 x7 x8 x9 x13 x15 true) else (law20_AggJoins.j3 k x2 x7 x8 x9 x13 x15 (decide (((rd_T39 (rd_L3 x13 x15) 0).f1) ≥ x8)))) else (none)) else (law20_AggJoins.j3 k x2 x7 x8 x9 x13 x15 true)) else (none)) else (law20_AggJoins.l2 k x7 x8 x9 0)
def law20_AggJoins.j3 : Nat → Int → Bool → Int → List Int → List (List (S39)) → Int → Bool → Option (Bool)
  | 0, _, _, _, _, _, _, _ => none
  | k + 1, x2, x7, x8, x9, x13, x15, x101 => if x101 = true then (some false) else (if 0 ≤ x15 then (if x15 < (x13.length : Int) then (if 0 < ((rd_L3 x13 x15).length : Int) then (if 0 ≤ ((rd_T39 (rd_L3 x13 x15) 0).f1) then (if ((rd_T39 (rd_L3 x13 x15) 0).f1) < (x9.length : Int) then (if 1 < ((rd_L3 x13 x15).length : Int) then (if ((rd_T39 (rd_L3 x13 x15) 1).f1) = (rd x9 ((rd_T39 (rd_L3 x13 x15) 0).f1)) then (if 2 < ((rd_L3 x13 x15).length : Int) then (if ((rd_T39 (rd_L3 x13 x15) 2).f1) = (wrap64 ((rd x9 ((rd_T39 (rd_L3 x13 x15) 0).f1)) * (wrap64 (x2)))) then (law20_AggJoins.l1 k x2 x7 x8 (x9.set (((rd_T39 (rd_L3 x13 x15) 0).f1) : Int).toNat 0) x13 (wrap64 (x15 + 1))) else (some false)) else (none)) else (some false)) else (none)) else (none)) else (none)) else (none)) else (none)) else (none))
def law20_AggJoins.l2 : Nat → Bool → Int → List Int → Int → Option (Bool)
  | 0, _, _, _, _ => none
  | k + 1, x7, x8, x9, x17 => if x17 < x8 then (if 0 ≤ x17 then (if x17 < (x9.length : Int) then (if (rd x9 x17) = 0 then (law20_AggJoins.l2 k x7 x8 x9 (wrap64 (x17 + 1))) else (some false)) else (none)) else (none)) else (some x7)
def law20_AggJoins.l0 : Nat → List Int → Int → Bool → Int → List Int → List (List (S39)) → Int → Option (Bool)
  | 0, _, _, _, _, _, _, _ => none
  | k + 1, x1, x2, x7, x8, x9, x10, x11 => if x11 < (x1.length : Int) then (if x11 < 150 then (if 0 ≤ x11 then (if x8 = 0 then (none) else (if 0 ≤ (Int.tmod (wrap64 (rd x1 x11)) x8) then (if (Int.tmod (wrap64 (rd x1 x11)) x8) < (x9.length : Int) then (if x10.length < 5864062014805 then (law20_AggJoins.l0 k x1 x2 x7 x8 (x9.set ((Int.tmod (wrap64 (rd x1 x11)) x8) : Int).toNat (wrap64 ((rd x9 (Int.tmod (wrap64 (rd x1 x11)) x8)) + 1))) (x10 ++ [(([(⟨1, Int.tmod (wrap64 (rd x1 x11)) x8, (⟨#[]⟩ : ByteArray)⟩ : S39), (⟨1, wrap64 (x2), (⟨#[]⟩ : ByteArray)⟩ : S39)] : List (S39)))]) (wrap64 (x11 + 1))) else (none)) else (none)) else (none))) else (none)) else (law20_AggJoins.j1 k x2 x7 x8 x9 x10)) else (law20_AggJoins.j1 k x2 x7 x8 x9 x10)
end
def law20_AggJoins.f (k : Nat) (a0 : Int) (l1 : List Int) (a2 : Int) : Option (Bool) := (law20_shown.f).bind fun t139 => (if 0 ≤ (wrap64 (1 + (wrap64 (Int.tmod a0 5)))) then (if (wrap64 (1 + (wrap64 (Int.tmod a0 5))) : Int).toNat ≤ 35184372088832 then (law20_AggJoins.l0 k l1 a2 t139 (wrap64 (1 + (wrap64 (Int.tmod a0 5)))) (List.replicate (wrap64 (1 + (wrap64 (Int.tmod a0 5))) : Int).toNat 0) ([] : List (List (S39))) 0) else (none)) else (none))
theorem law20_AggJoins.mono_l : ∀ k, (∀ y0 y1 y2 y3 y4, LeO (law20_AggJoins.j1 k y0 y1 y2 y3 y4) (law20_AggJoins.j1 (k + 1) y0 y1 y2 y3 y4)) ∧ (∀ y0 y1 y2 y3 y4 y5, LeO (law20_AggJoins.l1 k y0 y1 y2 y3 y4 y5) (law20_AggJoins.l1 (k + 1) y0 y1 y2 y3 y4 y5)) ∧ (∀ y0 y1 y2 y3 y4 y5 y6, LeO (law20_AggJoins.j3 k y0 y1 y2 y3 y4 y5 y6) (law20_AggJoins.j3 (k + 1) y0 y1 y2 y3 y4 y5 y6)) ∧ (∀ y0 y1 y2 y3, LeO (law20_AggJoins.l2 k y0 y1 y2 y3) (law20_AggJoins.l2 (k + 1) y0 y1 y2 y3)) ∧ (∀ y0 y1 y2 y3 y4 y5 y6, LeO (law20_AggJoins.l0 k y0 y1 y2 y3 y4 y5 y6) (law20_AggJoins.l0 (k + 1) y0 y1 y2 y3 y4 y5 y6))
  | 0 => ⟨fun _ _ _ _ _ r h => by simp [law20_AggJoins.j1] at h, fun _ _ _ _ _ _ r h => by simp [law20_AggJoins.l1] at h, fun _ _ _ _ _ _ _ r h => by simp [law20_AggJoins.j3] at h, fun _ _ _ _ r h => by simp [law20_AggJoins.l2] at h, fun _ _ _ _ _ _ _ r h => by simp [law20_AggJoins.l0] at h⟩
  | k + 1 => by
    obtain ⟨ih0, ih1, ih2, ih3, ih4⟩ := law20_AggJoins.mono_l k
    refine ⟨?_, ?_, ?_, ?_, ?_⟩
    · intro y0 y1 y2 y3 y4
      unfold law20_AggJoins.j1
      repeat' first
      | (with_reducible exact ih0 _ _ _ _ _)
      | (with_reducible exact ih1 _ _ _ _ _ _)
      | (with_reducible exact ih2 _ _ _ _ _ _ _)
      | (with_reducible exact ih3 _ _ _ _)
      | (with_reducible exact ih4 _ _ _ _ _ _ _)
      | (with_reducible exact agg_Group.mono _ _ _ _)
      | (with_reducible exact LeO.refl _)
      | (with_reducible exact LeO.none _)
      | (with_reducible refine LeO.ite ?_ ?_)
      | (with_reducible refine LeO.bind ?_ (fun _ => ?_))
      | exact ih0 _ _ _ _ _
      | exact ih1 _ _ _ _ _ _
      | exact ih2 _ _ _ _ _ _ _
      | exact ih3 _ _ _ _
      | exact ih4 _ _ _ _ _ _ _
      | exact agg_Group.mono _ _ _ _
      | exact LeO.none _
      | refine LeO.ite ?_ ?_
      | refine LeO.bind ?_ (fun _ => ?_)
    · intro y0 y1 y2 y3 y4 y5
      unfold law20_AggJoins.l1
      repeat' first
      | (with_reducible exact ih0 _ _ _ _ _)
      | (with_reducible exact ih1 _ _ _ _ _ _)
      | (with_reducible exact ih2 _ _ _ _ _ _ _)
      | (with_reducible exact ih3 _ _ _ _)
      | (with_reducible exact ih4 _ _ _ _ _ _ _)
      | (with_reducible exact agg_Group.mono _ _ _ _)
      | (with_reducible exact LeO.refl _)
      | (with_reducible exact LeO.none _)
      | (with_reducible refine LeO.ite ?_ ?_)
      | (with_reducible refine LeO.bind ?_ (fun _ => ?_))
      | exact ih0 _ _ _ _ _
      | exact ih1 _ _ _ _ _ _
      | exact ih2 _ _ _ _ _ _ _
      | exact ih3 _ _ _ _
      | exact ih4 _ _ _ _ _ _ _
      | exact agg_Group.mono _ _ _ _
      | exact LeO.none _
      | refine LeO.ite ?_ ?_
      | refine LeO.bind ?_ (fun _ => ?_)
    · intro y0 y1 y2 y3 y4 y5 y6
      unfold law20_AggJoins.j3
      repeat' first
      | (with_reducible exact ih0 _ _ _ _ _)
      | (with_reducible exact ih1 _ _ _ _ _ _)
      | (with_reducible exact ih2 _ _ _ _ _ _ _)
      | (with_reducible exact ih3 _ _ _ _)
      | (with_reducible exact ih4 _ _ _ _ _ _ _)
      | (with_reducible exact agg_Group.mono _ _ _ _)
      | (with_reducible exact LeO.refl _)
      | (with_reducible exact LeO.none _)
      | (with_reducible refine LeO.ite ?_ ?_)
      | (with_reducible refine LeO.bind ?_ (fun _ => ?_))
      | exact ih0 _ _ _ _ _
      | exact ih1 _ _ _ _ _ _
      | exact ih2 _ _ _ _ _ _ _
      | exact ih3 _ _ _ _
      | exact ih4 _ _ _ _ _ _ _
      | exact agg_Group.mono _ _ _ _
      | exact LeO.none _
      | refine LeO.ite ?_ ?_
      | refine LeO.bind ?_ (fun _ => ?_)
    · intro y0 y1 y2 y3
      unfold law20_AggJoins.l2
      repeat' first
      | (with_reducible exact ih0 _ _ _ _ _)
      | (with_reducible exact ih1 _ _ _ _ _ _)
      | (with_reducible exact ih2 _ _ _ _ _ _ _)
      | (with_reducible exact ih3 _ _ _ _)
      | (with_reducible exact ih4 _ _ _ _ _ _ _)
      | (with_reducible exact agg_Group.mono _ _ _ _)
      | (with_reducible exact LeO.refl _)
      | (with_reducible exact LeO.none _)
      | (with_reducible refine LeO.ite ?_ ?_)
      | (with_reducible refine LeO.bind ?_ (fun _ => ?_))
      | exact ih0 _ _ _ _ _
      | exact ih1 _ _ _ _ _ _
      | exact ih2 _ _ _ _ _ _ _
      | exact ih3 _ _ _ _
      | exact ih4 _ _ _ _ _ _ _
      | exact agg_Group.mono _ _ _ _
      | exact LeO.none _
      | refine LeO.ite ?_ ?_
      | refine LeO.bind ?_ (fun _ => ?_)
    · intro y0 y1 y2 y3 y4 y5 y6
      unfold law20_AggJoins.l0
      repeat' first
      | (with_reducible exact ih0 _ _ _ _ _)
      | (with_reducible exact ih1 _ _ _ _ _ _)
      | (with_reducible exact ih2 _ _ _ _ _ _ _)
      | (with_reducible exact ih3 _ _ _ _)
      | (with_reducible exact ih4 _ _ _ _ _ _ _)
      | (with_reducible exact agg_Group.mono _ _ _ _)
      | (with_reducible exact LeO.refl _)
      | (with_reducible exact LeO.none _)
      | (with_reducible refine LeO.ite ?_ ?_)
      | (with_reducible refine LeO.bind ?_ (fun _ => ?_))
      | exact ih0 _ _ _ _ _
      | exact ih1 _ _ _ _ _ _
      | exact ih2 _ _ _ _ _ _ _
      | exact ih3 _ _ _ _
      | exact ih4 _ _ _ _ _ _ _
      | exact agg_Group.mono _ _ _ _
      | exact LeO.none _
      | refine LeO.ite ?_ ?_
      | refine LeO.bind ?_ (fun _ => ?_)
theorem law20_AggJoins.mono : ∀ a0 a1 a2 k, LeO (law20_AggJoins.f k a0 a1 a2) (law20_AggJoins.f (k + 1) a0 a1 a2) := by
  intro a0 a1 a2 k
  obtain ⟨ih0, ih1, ih2, ih3, ih4⟩ := law20_AggJoins.mono_l k
  unfold law20_AggJoins.f
  repeat' first
      | (with_reducible exact ih0 _ _ _ _ _)
      | (with_reducible exact ih1 _ _ _ _ _ _)
      | (with_reducible exact ih2 _ _ _ _ _ _ _)
      | (with_reducible exact ih3 _ _ _ _)
      | (with_reducible exact ih4 _ _ _ _ _ _ _)
      | (with_reducible exact agg_Group.mono _ _ _ _)
      | (with_reducible exact LeO.refl _)
      | (with_reducible exact LeO.none _)
      | (with_reducible refine LeO.ite ?_ ?_)
      | (with_reducible refine LeO.bind ?_ (fun _ => ?_))
      | exact ih0 _ _ _ _ _
      | exact ih1 _ _ _ _ _ _
      | exact ih2 _ _ _ _ _ _ _
      | exact ih3 _ _ _ _
      | exact ih4 _ _ _ _ _ _ _
      | exact agg_Group.mono _ _ _ _
      | exact LeO.none _
      | refine LeO.ite ?_ ?_
      | refine LeO.bind ?_ (fun _ => ?_)
set_option maxHeartbeats 8000000 in
set_option maxRecDepth 100000 in
theorem law20_AggJoins.calls (k : Nat) (a0 : Int) (A1 : Option Addr) (c1 : Nat) (l1 : List Int) (a2 : Int) (r : Bool) (w : World) (hr1 : Kd.C (Kd.int .u8) w A1 l1.length l1) (hc1 : l1.length ≤ c1) (hr_ : Aside0 (r = true)) (h : law20_AggJoins.f k a0 l1 a2 = some r) :
    Calls Try.prog 8 #[.int .u8 a0, .slice A1 l1.length c1, .int .i32 a2] w fun e w' => e = .returned (.bool r) ∧ Below w.heap.size w w' := by
  have hu39 := Try.underlying39
  have hu36 := Try.underlying36
  have HR1 := Aside0.mk hr1
  have HC1 := Aside0.mk hc1
  clear hr1 hc1
  have HB := Aside0.mk (Below.refl w.heap.size w)
  have H : ((law20_shown.f).bind fun t139 => (if 0 ≤ (wrap64 (1 + (wrap64 (Int.tmod a0 5)))) then (if (wrap64 (1 + (wrap64 (Int.tmod a0 5))) : Int).toNat ≤ 35184372088832 then (law20_AggJoins.l0 k l1 a2 t139 (wrap64 (1 + (wrap64 (Int.tmod a0 5)))) (List.replicate (wrap64 (1 + (wrap64 (Int.tmod a0 5))) : Int).toNat 0) ([] : List (List (S39))) 0) else (none)) else (none))) = some r := h
  clear h
  replace H := Option.bind_eq_some_iff.mp H
  obtain ⟨t139, A40, H⟩ := H
  replace H : (if 0 ≤ (wrap64 (1 + (wrap64 (Int.tmod a0 5)))) then (if (wrap64 (1 + (wrap64 (Int.tmod a0 5))) : Int).toNat ≤ 35184372088832 then (law20_AggJoins.l0 k l1 a2 t139 (wrap64 (1 + (wrap64 (Int.tmod a0 5)))) (List.replicate (wrap64 (1 + (wrap64 (Int.tmod a0 5))) : Int).toNat 0) ([] : List (List (S39))) 0) else (none)) else (none)) = some r := H
  have A4 := Aside0.mk A40
  clear A40
  obtain ⟨ji5, hji5⟩ : ∃ j_ : Int, (wrap64 (1 + (wrap64 (Int.tmod a0 5)))) = j_ := ⟨_, rfl⟩
  replace H : (if 0 ≤ (ji5) then (if (ji5 : Int).toNat ≤ 35184372088832 then (law20_AggJoins.l0 k l1 a2 t139 ji5 (List.replicate (ji5 : Int).toNat 0) ([] : List (List (S39))) 0) else (none)) else (none)) = some r := by first | (rw [hji5] at H; exact H) | (simp only [hji5] at H ⊢; exact H)
  (try rw [hji5] at A4)
  have hji5w : (IntKind.i64.wrap (1 + (wrap64 (Int.tmod a0 5)))) = ji5 := (i64_w _).trans hji5
  by_cases c6 : 0 ≤ (ji5)
  · rw [if_pos c6] at H
    have c6b0 := eq_true c6
    have c6b1 : decide (0 ≤ (ji5)) = true := decide_eq_true c6
    clear c6
    by_cases c7 : (ji5 : Int).toNat ≤ 35184372088832
    · rw [if_pos c7] at H
      have c7b0 := eq_true c7
      have c7b1 : decide ((ji5 : Int).toNat ≤ 35184372088832) = true := decide_eq_true c7
      clear c7
      obtain ⟨y140, hy140⟩ : ∃ y_ : List Int, y_ = (List.replicate (ji5 : Int).toNat 0) := ⟨_, rfl⟩
      replace H : (law20_AggJoins.l0 k l1 a2 t139 ji5 y140 ([] : List (List (S39))) 0) = some r := by first | (rw [hy140]; with_reducible exact H) | (have H2_ := (Option.bind_some _ _).symm.trans H; rw [hy140]; with_reducible exact H2_) | (have H2_ := (Option.bind_some _ _).symm.trans H; with_reducible exact H2_) | with_reducible exact H | (rw [hy140]; exact H) | exact H
      have Ny140 := Aside0.mk hy140
      clear hy140
      have HC8 := Aside0.mk H
      clear H
      go_enter Try.func8, Try.ntmps8
      go_upto_block 0 with (first | ((with_reducible refine gate_callee (f := 9) rfl ?_); refine goesL_ (some 18) rfl rfl Try.func9 (by kernel_rfl) rfl #[] rfl (by (try simp only [List.map_toArray, List.map_cons, List.map_nil]); first | done | rfl | (simp only [List.length_drop, List.length_take]; rfl)) ?_; (with_reducible refine (law20_shown.calls  t139 _ A4.out).mono ?_); rintro e w9 ⟨rfl, hb⟩; refine ⟨_, rfl, ?_⟩; have n0_ := Aside0.mk (below_step (by repeat (first | (with_reducible first | exact HB.out | apply below_alloc | apply pw_below_drewN | apply below_drew1) | exact HB.out)) hb); clear HB; have HB := n0_; clear n0_; (try clear hb); (try clear hb2); (try clear hk); (try clear hi)) | ((with_reducible refine gate_dst (N := 24) rfl ?_); refine Kd.R_make (Kd.int .i64) _ 2 rfl (N := 24) rfl 22 _ _ rfl ji5 rfl rfl Try.underlying22 (.int .i64 0) 8 info2 rfl (by decide) (by omega) 0 (ok := fun _ => True) (okp := fun _ => True) rfl (fun _ hk => hk) trivial (of_decide_eq_true (by first | (with_reducible assumption) | assumption)) (Nat.le_trans (Nat.mul_le_mul_right _ (of_decide_eq_true (by first | (with_reducible assumption) | assumption) : ji5.toNat ≤ 35184372088832)) (by omega)) (Below.refl _ _) (Nat.le_refl _) ?_; intro v141 w10 ho11 hb hg_ hnew_; clear hg_ hnew_; (first | rw [← Ny140.out] at ho11 | (simp only [Int.reduceToNat] at ho11; rw [← Ny140.out] at ho11)); have n0_ := Aside0.mk (Kd.R_lower ho11 (below_size (by repeat (first | (with_reducible first | exact HB.out | apply below_alloc | apply pw_below_drewN | apply below_drew1) | exact HB.out)))); have n1_ := Aside0.mk (below_step (by repeat (first | (with_reducible first | exact HB.out | apply below_alloc | apply pw_below_drewN | apply below_drew1) | exact HB.out)) hb); clear HB; have HO142 := n0_; have HB := n1_; clear n0_ n1_; clear hb ho11))
      (try simp only [Act.put, List.setIfInBounds_toArray, List.set_cons_zero, List.set_cons_succ])
      go_cut [10] (fun v10 wc => ∃ (kq : Nat) (x9_7 : List Int) (x10_7 : List (List (S39))), Aside0 (law20_AggJoins.j1 kq a2 t139 ji5 x9_7 x10_7 = some r) ∧ Aside0 (kq ≤ k) ∧ Aside0 (Kd.R (Kd.int .i64) 2 wc w.heap.size (fun _ => True) v141 x9_7) ∧ Aside0 (Kd.S (Kd.slice 39 k39) 32 wc w.heap.size (fun _ => True) v10 x10_7) ∧ Aside0 (Below w.heap.size w wc))
      case first =>
        have H := HC8.out
        clear HC8
        have H' := Aside0.mk H
        clear H
        go_wp2
        go_loopg [10, 11] k (fun kq v10 v11 w' => ∃ (x9_1 : List Int) (x10_1 : List (List (S39))) (x11_1 : Int), v11 = .int .i64 x11_1 ∧ Aside0 (law20_AggJoins.l0 kq l1 a2 t139 ji5 x9_1 x10_1 x11_1 = some r) ∧ Aside0 (kq ≤ k) ∧ Aside0 (Kd.R (Kd.int .i64) 2 w' w.heap.size (fun _ => True) v141 x9_1) ∧ Aside0 (Kd.S (Kd.slice 39 k39) 32 w' w.heap.size (fun _ => True) v10 x10_1) ∧ Aside0 (Below w.heap.size w w'))
        case atStart => exact ⟨(y140), (([] : List (List (S39)))), (0), (by first | rfl | (simp; done) | (simp [*]; done)), H', ⟨Nat.le_refl _⟩, ⟨by (with_reducible repeat (first | apply Kd.R_alloc | apply Kd.R_drewN | apply Kd.R_drew)); exact HO142.out⟩, ⟨by first | exact Kd.S_nil _ _ _ _ _ | exact Kd.N_nil _ _ _ _ _ | exact Kd.V_nil _ _ _ _ _ | exact Kd.Q_nil _ _ _ _ _ | exact Kd.R_nil _ _ _ _ _⟩, ⟨by repeat (first | (with_reducible first | exact HB.out | apply below_alloc | apply pw_below_drewN | apply below_drew1) | exact HB.out)⟩⟩
        case round =>
          clear H'
          try clear c1
          try clear p2
          try clear c6
          try clear c6b0
          try clear c6b1
          try clear p6
          try clear c7
          try clear c7b0
          try clear c7b1
          try clear c8
          try clear c9
          obtain ⟨x9_1, x10_1, x11_1, rfl, HA, HK1, HO_9, HO_10, HB⟩ := hrel
          cases gk with
          | zero => exact absurd HA.out (by simp [law20_AggJoins.l0])
          | succ k1 =>
            have H := HA.out
            clear HA
            simp only [law20_AggJoins.l0] at H
            by_cases c12 : x11_1 < (l1.length : Int)
            · rw [if_pos c12] at H
              have c12b0 : decide (x11_1 < (l1.length : Int)) = true := decide_eq_true c12
              clear c12
              (first | rw [c12b0] | (simp only [i64_w, i32_w]; rw [c12b0]) | skip)
              by_cases c13 : x11_1 < 150
              · rw [if_pos c13] at H
                have c13b0 : decide (x11_1 < 150) = true := decide_eq_true c13
                clear c13
                by_cases c14 : 0 ≤ x11_1
                · rw [if_pos c14] at H
                  have c14b0 : decide (0 ≤ x11_1) = true := decide_eq_true c14
                  clear c14
                  by_cases c15 : ji5 = 0
                  · rw [if_pos c15] at H
                    exact absurd H (by simp)
                  · rw [if_neg c15] at H
                    have c15b0 : (ji5 == 0) = false := beq_eq_false_iff_ne.mpr c15
                    have c15b1 : (ji5 != 0) = true := bne_iff_ne.mpr c15
                    obtain ⟨ji16, hji16⟩ : ∃ j_ : Int, (Int.tmod (wrap64 (rd l1 x11_1)) ji5) = j_ := ⟨_, rfl⟩
                    replace H : (if 0 ≤ (ji16) then (if (ji16) < (x9_1.length : Int) then (if x10_1.length < 5864062014805 then (law20_AggJoins.l0 k1 l1 a2 t139 ji5 (x9_1.set ((ji16) : Int).toNat (wrap64 ((rd x9_1 (ji16)) + 1))) (x10_1 ++ [(([(⟨1, ji16, (⟨#[]⟩ : ByteArray)⟩ : S39), (⟨1, wrap64 (a2), (⟨#[]⟩ : ByteArray)⟩ : S39)] : List (S39)))]) (wrap64 (x11_1 + 1))) else (none)) else (none)) else (none)) = some r := by first | (rw [hji16] at H; exact H) | (simp only [hji16] at H ⊢; exact H)
                    by_cases c17 : 0 ≤ (ji16)
                    · rw [if_pos c17] at H
                      have c17b0 : decide (0 ≤ (ji16)) = true := decide_eq_true c17
                      clear c17
                      by_cases c18 : (ji16) < (x9_1.length : Int)
                      · rw [if_pos c18] at H
                        have c18b0 : decide ((ji16) < (x9_1.length : Int)) = true := decide_eq_true c18
                        clear c18
                        obtain ⟨y145, hy145⟩ : ∃ y_ : List Int, y_ = (x9_1.set ((ji16) : Int).toNat (wrap64 ((rd x9_1 (ji16)) + 1))) := ⟨_, rfl⟩
                        replace H : (if x10_1.length < 5864062014805 then (law20_AggJoins.l0 k1 l1 a2 t139 ji5 y145 (x10_1 ++ [(([(⟨1, ji16, (⟨#[]⟩ : ByteArray)⟩ : S39), (⟨1, wrap64 (a2), (⟨#[]⟩ : ByteArray)⟩ : S39)] : List (S39)))]) (wrap64 (x11_1 + 1))) else (none)) = some r := by first | (rw [hy145]; with_reducible exact H) | (have H2_ := (Option.bind_some _ _).symm.trans H; rw [hy145]; with_reducible exact H2_) | (have H2_ := (Option.bind_some _ _).symm.trans H; with_reducible exact H2_) | with_reducible exact H | (rw [hy145]; exact H) | exact H
                        have Ny145 := Aside0.mk hy145
                        clear hy145
                        obtain ⟨y146, hy146⟩ : ∃ y_ : List (S39), y_ = (([(⟨1, ji16, (⟨#[]⟩ : ByteArray)⟩ : S39), (⟨1, wrap64 (a2), (⟨#[]⟩ : ByteArray)⟩ : S39)] : List (S39))) := ⟨_, rfl⟩
                        replace H : (if x10_1.length < 5864062014805 then (law20_AggJoins.l0 k1 l1 a2 t139 ji5 y145 (x10_1 ++ [y146]) (wrap64 (x11_1 + 1))) else (none)) = some r := by first | (rw [hy146]; with_reducible exact H) | (have H2_ := (Option.bind_some _ _).symm.trans H; rw [hy146]; with_reducible exact H2_) | (have H2_ := (Option.bind_some _ _).symm.trans H; with_reducible exact H2_) | with_reducible exact H | (rw [hy146]; exact H) | exact H
                        have Ny146 := Aside0.mk hy146
                        clear hy146
                        by_cases c20 : x10_1.length < 5864062014805
                        · rw [if_pos c20] at H
                          have LMc20 := Aside0.mk c20
                          clear c20
                          obtain ⟨y149, hy149⟩ : ∃ y_ : List (List (S39)), y_ = (x10_1 ++ [y146]) := ⟨_, rfl⟩
                          replace H : (law20_AggJoins.l0 k1 l1 a2 t139 ji5 y145 y149 (wrap64 (x11_1 + 1))) = some r := by first | (rw [hy149]; with_reducible exact H) | (have H2_ := (Option.bind_some _ _).symm.trans H; rw [hy149]; with_reducible exact H2_) | (have H2_ := (Option.bind_some _ _).symm.trans H; with_reducible exact H2_) | with_reducible exact H | (rw [hy149]; exact H) | exact H
                          have Ny149 := Aside0.mk hy149
                          clear hy149
                          have H' := Aside0.mk H
                          clear H
                          have p143 : 0 ≤ (x11_1 : Int) := of_decide_eq_true (by first | (with_reducible assumption) | assumption)
                          have q143 : x11_1 < (l1.length : Int) := of_decide_eq_true (by first | (with_reducible assumption) | assumption)
                          obtain ⟨ad143, e143, hx143_0⟩ := Kd.at_int HR1.out x11_1 p143 q143
                          cases e143
                          replace hx143_0 := (HB.out.cell (World.block_lt_of_cell? w _ hx143_0)).trans hx143_0
                          replace p143 := eq_true p143
                          replace q143 := eq_true q143
                          obtain ⟨Ao21, co21, eo21⟩ := Kd.R_slice HO_9.out
                          subst eo21
                          have p144 : 0 ≤ ((ji16) : Int) := of_decide_eq_true (by first | (with_reducible assumption) | assumption)
                          have q144 : (ji16) < (x9_1.length : Int) := of_decide_eq_true (by first | (with_reducible assumption) | assumption)
                          obtain ⟨ad144, e144, hx144_0⟩ := Kd.at_int (Kd.R_reads' HO_9.out).2.2 (ji16) p144 q144
                          cases e144
                          replace p144 := eq_true p144
                          replace q144 := eq_true q144
                          have p19 : 0 ≤ ((ji16) : Int) := of_decide_eq_true (by first | (with_reducible assumption) | assumption)
                          have q19 : ((ji16) : Int) < ((x9_1.length : Int) : Int) := of_decide_eq_true (by first | (with_reducible assumption) | assumption)
                          obtain ⟨go19, co19, eo19, gb19, gl19, cl19, HG19⟩ := Kd.R_form HO_9.out (by omega)
                          (first | cases eo19 | (injection eo19 with ea_ en_ ec_; (first | subst ea_ | (injection ea_ with ea_; subst ea_)); subst ec_; clear en_))
                          have GB19 := Aside0.mk gb19
                          have GG19 := Aside0.mk HG19
                          clear gb19 gl19 HG19
                          (first | simp only [add_plain] at hx144_0 | skip)
                          obtain ⟨hx19_0, hf19_0⟩ := Kd.R_celln 0 HO_9.out ((ji16) : Int) p19 q19
                          replace p19 := eq_true p19
                          replace q19 := eq_true q19
                          have HP22 := Kd.R_putg HO_9.out ((ji16) : Int) (wrap64 ((rd x9_1 (ji16)) + 1))
                          go_wp2_with (first | ((with_reducible refine gate_store (t := 2) (p := 49) rfl ?_); refine store_event (t := 2) (p := 49) (v := ?vo_w23) (w1 := (wr.setCell ⟨go19, ((ji16) : Int).toNat, none⟩ (.int .i64 (wrap64 ((rd x9_1 (ji16)) + 1))))) ?hg ?ho ?hn ?hr ?_; (case ho => rfl); (case hg => rfl); (case hn => rfl); (case hr => first | (go_simp; done) | (go_simp; rfl)); intro w23 hw; have hg : wr.grownBy w23 (some go19) := (by rw [hw]; exact HP22.2); have hp_ : Kd.R (Kd.int .i64) 2 w23 w.heap.size (fun _ => True) (.slice (some ⟨go19, 0, none⟩) x9_1.length co21) y145 := (by rw [hw, Ny145.out]; exact HP22.1); clear HP22; have n0_ := Aside0.mk (hp_); have n1_ := Aside0.mk (Kd.S_over' (v := (.slice (some ⟨go19, 0, none⟩) x9_1.length co21)) (by (with_reducible repeat (first | apply Kd.S_alloc | apply Kd.S_drewN | apply Kd.S_drew)); exact HO_10.out) (Kd.R_typed HO_9.out) (by decide) hg); have n2_ := Aside0.mk ((by rw [hw]; exact below_set (HB.out) GB19.out : Below w.heap.size w w23)); clear HO_9; clear HO_10; clear HB; have HO_9 := n0_; have HO_10 := n1_; have HB := n2_; clear n0_ n1_ n2_; clear hg hw hp_) | ((with_reducible refine gate_dst (N := 56) rfl ?_); refine Kd.R_lit k39 _ 39 ?hg (N := 56) ?hd (xs := ([(⟨1, ji16, (⟨#[]⟩ : ByteArray)⟩ : S39), (⟨1, wrap64 (a2), (⟨#[]⟩ : ByteArray)⟩ : S39)] : List (S39))) (inner := [.int .i64 1, .int .i64 ji16, .string (⟨#[]⟩ : ByteArray), .int .i64 1, .int .i64 (wrap64 (a2)), .string (⟨#[]⟩ : ByteArray)]) (ok := fun _ => True) (okp := fun _ => True) ?hr ?hp (fun _ hk => hk) trivial (Below.refl _ _) (Nat.le_refl _) (by simp) ?_; (case hd => rfl); (case hg => rfl); (case hr => first | (go_simp; done) | (go_simp; rfl)); (case hp => exact (Reps.c3 (show Kd.M k39 _ _ _ (⟨1, ji16, (⟨#[]⟩ : ByteArray)⟩ : S39) [.int .i64 1, .int .i64 ji16, .string (⟨#[]⟩ : ByteArray)] from (k39_mkM _ _ _ (⟨1, ji16, (⟨#[]⟩ : ByteArray)⟩ : S39) )) (Reps.c3 (show Kd.M k39 _ _ _ (⟨1, wrap64 (a2), (⟨#[]⟩ : ByteArray)⟩ : S39) [.int .i64 1, .int .i64 (wrap64 (a2)), .string (⟨#[]⟩ : ByteArray)] from (k39_mkM _ _ _ (⟨1, wrap64 (a2), (⟨#[]⟩ : ByteArray)⟩ : S39) )) (Reps.none _ _)))); intro v147 w24 ho25 hb hg_ hnew_; clear hg_ hnew_; (first | rw [← Ny146.out] at ho25 | (simp only [Int.reduceToNat] at ho25; rw [← Ny146.out] at ho25)); have n0_ := Aside0.mk (Kd.R_below (by (with_reducible repeat (first | apply Kd.R_alloc | apply Kd.R_drewN | apply Kd.R_drew)); exact HO_9.out) hb); have n1_ := Aside0.mk (Kd.S_elder' (by (with_reducible repeat (first | apply Kd.S_alloc | apply Kd.S_drewN | apply Kd.S_drew)); exact HO_10.out) (Kd.R_base ho25) hb); have n2_ := Aside0.mk (Kd.R_lower ho25 (below_size (by repeat (first | (with_reducible first | exact HB.out | apply below_alloc | apply pw_below_drewN | apply below_drew1) | exact HB.out)))); have n3_ := Aside0.mk (below_step (by repeat (first | (with_reducible first | exact HB.out | apply below_alloc | apply pw_below_drewN | apply below_drew1) | exact HB.out)) hb); clear HO_9; clear HO_10; clear HB; have HO_9 := n0_; have HO_10 := n1_; have HO148 := n2_; have HB := n3_; clear n0_ n1_ n2_ n3_; clear hb ho25; obtain ⟨Ao27, co27, eo27⟩ := Kd.R_slice HO148.out; subst eo27) | ((with_reducible refine gate_builtin (b := .append) (xs := #[.tmp 50, .tmp 57]) rfl ?_); at_builtin; refine Kd.S_append (Kd.slice 39 k39) (w0 := w) w.heap.size rfl (.tmp 50) (.tmp 57) 30 32 (.slice none 0 0) 24 rfl Try.underlying30 info32 rfl (by decide) (by omega) u10 x10_1 y146 [.slice Ao27 y146.length co27] (fun _ => True) (fun k_ => some k_ = (.slice Ao27 y146.length co27 : Value).ownBlock) rfl rfl ?aP (fun k_ hk_ => ((Kd.R_mono (ok' := fun k_ => ((fun _ => True)) k_ ∧ some k_ ≠ (u10 : Value).ownBlock) (Kd.R_apart' (HO148.out) (Kd.S_typed HO_10.out) (by decide)) (fun k_ hk => ⟨trivial, hk.2⟩))).1 k_ hk_.symm) ?aF ?aO ?aB ?aS ?aL ?_; (case aP => exact Kd.M_row (Kd.R_mono (Kd.R_tight rfl (Kd.R_mono (ok' := fun k_ => ((fun _ => True)) k_ ∧ some k_ ≠ (u10 : Value).ownBlock) (Kd.R_apart' (HO148.out) (Kd.S_typed HO_10.out) (by decide)) (fun k_ hk => ⟨trivial, hk.2⟩))) (fun _ h_ => h_))); (case aB => exact (by repeat (first | (with_reducible first | exact HB.out | apply below_alloc | apply pw_below_drewN | apply below_drew1) | exact HB.out))); (case aF => exact (fun _ _ => trivial)); (case aO => exact (by (with_reducible repeat (first | apply Kd.S_alloc | apply Kd.S_drewN | apply Kd.S_drew)); exact Kd.S_mono HO_10.out (fun k_ hk => ⟨trivial, fun e_ => hk.2 e_⟩))); (case aS => exact (below_size (by repeat (first | (with_reducible first | exact HB.out | apply below_alloc | apply pw_below_drewN | apply below_drew1) | exact HB.out)))); (case aL => have := LMc20.out; omega); intro v150 w26 ho hb hg hat; rw [← Ny149.out] at ho; have n0_ := Aside0.mk (Kd.R_over' (by (with_reducible repeat (first | apply Kd.R_alloc | apply Kd.R_drewN | apply Kd.R_drew)); exact HO_9.out) (Kd.S_typed (by (with_reducible repeat (first | apply Kd.S_alloc | apply Kd.S_drewN | apply Kd.S_drew)); exact HO_10.out)) (by decide) hg); have n1_ := Aside0.mk (hb); have n2_ := Aside0.mk (ho); clear HO_9; clear HB; clear HO_10; clear HO148; have HO_9 := n0_; have HB := n1_; have HO151 := n2_; clear n0_ n1_ n2_; clear ho hb hg hat))
                          go_roundg k1
                          case measure => have := HK1.out; omega
                          case rel => exact ⟨(y145), (y149), (wrap64 (x11_1 + 1)), (by first | rfl | (simp; done) | (simp [*]; done)), H', ⟨by have := HK1.out; omega⟩, ⟨by (with_reducible repeat (first | apply Kd.R_alloc | apply Kd.R_drewN | apply Kd.R_drew)); exact HO_9.out⟩, ⟨by (with_reducible repeat (first | apply Kd.S_alloc | apply Kd.S_drewN | apply Kd.S_drew)); exact HO151.out⟩, ⟨by repeat (first | (with_reducible first | exact HB.out | apply below_alloc | apply pw_below_drewN | apply below_drew1) | exact HB.out)⟩⟩
                        · rw [if_neg c20] at H
                          exact absurd H (by simp)
                      · rw [if_neg c18] at H
                        exact absurd H (by simp)
                    · rw [if_neg c17] at H
                      exact absurd H (by simp)
                · rw [if_neg c14] at H
                  exact absurd H (by simp)
              · rw [if_neg c13] at H
                have c13b0 : decide (x11_1 < 150) = false := decide_eq_false c13
                clear c13
                have H' := Aside0.mk H
                clear H
                go_wp2
                go_meet
                case rel => exact ⟨_, (x9_1), (x10_1), H', ⟨by have := HK1.out; first | omega | exact Nat.le_refl _⟩, ⟨by (with_reducible repeat (first | apply Kd.R_alloc | apply Kd.R_drewN | apply Kd.R_drew)); exact HO_9.out⟩, ⟨by (with_reducible repeat (first | apply Kd.S_alloc | apply Kd.S_drewN | apply Kd.S_drew)); exact HO_10.out⟩, ⟨by repeat (first | (with_reducible first | exact HB.out | apply below_alloc | apply pw_below_drewN | apply below_drew1) | exact HB.out)⟩⟩
            · rw [if_neg c12] at H
              have c12b0 : decide (x11_1 < (l1.length : Int)) = false := decide_eq_false c12
              clear c12
              (first | rw [c12b0] | (simp only [i64_w, i32_w]; rw [c12b0]) | skip)
              have H' := Aside0.mk H
              clear H
              go_wp2
              go_meet
              case rel => exact ⟨_, (x9_1), (x10_1), H', ⟨by have := HK1.out; first | omega | exact Nat.le_refl _⟩, ⟨by (with_reducible repeat (first | apply Kd.R_alloc | apply Kd.R_drewN | apply Kd.R_drew)); exact HO_9.out⟩, ⟨by (with_reducible repeat (first | apply Kd.S_alloc | apply Kd.S_drewN | apply Kd.S_drew)); exact HO_10.out⟩, ⟨by repeat (first | (with_reducible first | exact HB.out | apply below_alloc | apply pw_below_drewN | apply below_drew1) | exact HB.out)⟩⟩
      case rest =>
        clear HC8
        try clear c1
        try clear p1
        try clear q1
        try clear hx1
        try clear c2
        try clear p2
        try clear c3
        try clear c6
        try clear c6b0
        try clear c6b1
        try clear p6
        try clear c7
        try clear c7b0
        try clear c7b1
        try clear c8
        try clear c9
        try clear c12
        try clear c12b0
        try clear c13
        try clear c13b0
        try clear c14
        try clear c14b0
        try clear p14
        try clear q14
        try clear hx14
        try clear c15
        try clear c15b0
        try clear c15b1
        try clear c17
        try clear c17b0
        try clear c18
        try clear c18b0
        try clear p19
        try clear q19
        try clear hx19
        try clear hf19
        try clear c20
        try clear hx143_0
        try clear hx144_0
        try clear hx19_0
        try clear p143
        try clear p144
        try clear p19
        try clear p2
        try clear p6
        try clear q143
        try clear q144
        try clear q19
        obtain ⟨kq, x9_7, x10_7, HA, HJ7, HO_9, HO_10, HB⟩ := hcut
        cases kq with
        | zero => exact absurd HA.out (by simp [law20_AggJoins.j1])
        | succ kj7 =>
          have H := HA.out
          clear HA
          simp only [law20_AggJoins.j1] at H
          obtain ⟨y152, hy152⟩ : ∃ y_ : List (S36), y_ = (([(⟨1, 0⟩ : S36), (⟨2, 1⟩ : S36)] : List (S36))) := ⟨_, rfl⟩
          replace H : ((agg_Group.f kj7 x10_7 1 y152).bind fun bt155 => (if bt155.2 = 0 then (law20_AggJoins.l1 kj7 a2 t139 ji5 x9_7 bt155.1 0) else (some false))) = some r := by first | (rw [hy152]; with_reducible exact H) | (have H2_ := (Option.bind_some _ _).symm.trans H; rw [hy152]; with_reducible exact H2_) | (have H2_ := (Option.bind_some _ _).symm.trans H; with_reducible exact H2_) | with_reducible exact H | (rw [hy152]; exact H) | exact H
          have Ny152 := Aside0.mk hy152
          clear hy152
          replace H := Option.bind_eq_some_iff.mp H
          obtain ⟨⟨t155, t156⟩, A280, H⟩ := H
          replace H : (if t156 = 0 then (law20_AggJoins.l1 kj7 a2 t139 ji5 x9_7 t155 0) else (some false)) = some r := H
          have A28 := Aside0.mk A280
          clear A280
          by_cases c29 : t156 = 0
          · rw [if_pos c29] at H
            have c29b0 : (t156 == 0) = true := beq_iff_eq.mpr c29
            have c29b1 : (t156 != 0) = false := bne_eq_false_iff_eq.mpr c29
            clear c29
            have H' := Aside0.mk H
            clear H
            go_wp2_with (first | ((with_reducible refine gate_dst (N := 63) rfl ?_); refine Kd.R_lit k36 _ 36 ?hg (N := 63) ?hd (xs := ([(⟨1, 0⟩ : S36), (⟨2, 1⟩ : S36)] : List (S36))) (inner := [.int .i64 1, .int .i64 0, .int .i64 2, .int .i64 1]) (ok := fun _ => True) (okp := fun _ => True) ?hr ?hp (fun _ hk => hk) trivial (Below.refl _ _) (Nat.le_refl _) (by simp) ?_; (case hd => rfl); (case hg => rfl); (case hr => first | (go_simp; done) | (go_simp; rfl)); (case hp => exact (Reps.c2 (show Kd.M k36 _ _ _ (⟨1, 0⟩ : S36) [.int .i64 1, .int .i64 0] from (k36_mkM _ _ _ (⟨1, 0⟩ : S36) )) (Reps.c2 (show Kd.M k36 _ _ _ (⟨2, 1⟩ : S36) [.int .i64 2, .int .i64 1] from (k36_mkM _ _ _ (⟨2, 1⟩ : S36) )) (Reps.none _ _)))); intro v153 w30 ho31 hb hg_ hnew_; clear hg_ hnew_; (first | rw [← Ny152.out] at ho31 | (simp only [Int.reduceToNat] at ho31; rw [← Ny152.out] at ho31)); have n0_ := Aside0.mk (Kd.R_below (by (with_reducible repeat (first | apply Kd.R_alloc | apply Kd.R_drewN | apply Kd.R_drew)); exact HO_9.out) hb); have n1_ := Aside0.mk (Kd.S_below (by (with_reducible repeat (first | apply Kd.S_alloc | apply Kd.S_drewN | apply Kd.S_drew)); exact HO_10.out) hb); have n2_ := Aside0.mk (Kd.R_lower ho31 (below_size (by repeat (first | (with_reducible first | exact HB.out | apply below_alloc | apply pw_below_drewN | apply below_drew1) | exact HB.out)))); have n3_ := Aside0.mk (below_step (by repeat (first | (with_reducible first | exact HB.out | apply below_alloc | apply pw_below_drewN | apply below_drew1) | exact HB.out)) hb); clear HO_9; clear HO_10; clear HB; have HO_9 := n0_; have HO_10 := n1_; have HO154 := n2_; have HB := n3_; clear n0_ n1_ n2_ n3_; clear hb ho31; obtain ⟨Ao32, co32, eo32⟩ := Kd.S_slice HO_10.out; subst eo32; obtain ⟨Ao33, co33, eo33⟩ := Kd.R_slice HO154.out; subst eo33) | ((with_reducible refine gate_callee (f := 12) rfl ?_); refine goesL_ (some 64) rfl rfl Try.func12 (by kernel_rfl) rfl #[.slice Ao32 x10_7.length co32, .int .i64 1, .slice Ao33 y152.length co33] rfl (by (try simp only [List.map_toArray, List.map_cons, List.map_nil]); first | done | rfl | (simp only [List.length_drop, List.length_take]; rfl)) ?_; (with_reducible refine (agg_Group.calls kj7 _ _ x10_7 1 _ _ y152 t155 t156 _ ?side1 ?side2 ?side3 ?side4 A28.out).mono ?_); (case side1 => repeat (first | exact (Kd.S_reads' HO_10.out).2.2 | (with_reducible refine Kd.C_alloc ?_ _) | (with_reducible refine Kd.C_drewN ?_ _) | (with_reducible refine Kd.C_drew ?_))); (case side2 => exact (Kd.S_reads' HO_10.out).2.1); (case side3 => repeat (first | exact (Kd.R_reads' HO154.out).2.2 | (with_reducible refine Kd.C_alloc ?_ _) | (with_reducible refine Kd.C_drewN ?_ _) | (with_reducible refine Kd.C_drew ?_))); (case side4 => exact (Kd.R_reads' HO154.out).2.1); rintro e w34 ⟨v157, rfl, ho0, hb⟩; refine ⟨_, rfl, ?_⟩; have n0_ := Aside0.mk (Kd.R_below (by (with_reducible repeat (first | apply Kd.R_alloc | apply Kd.R_drewN | apply Kd.R_drew)); exact HO_9.out) hb); have n1_ := Aside0.mk (Kd.S_elder' (by (with_reducible repeat (first | apply Kd.S_alloc | apply Kd.S_drewN | apply Kd.S_drew)); exact HO_10.out) (Kd.S_base ho0) hb); have n2_ := Aside0.mk (Kd.R_below (by (with_reducible repeat (first | apply Kd.R_alloc | apply Kd.R_drewN | apply Kd.R_drew)); exact HO154.out) hb); have n3_ := Aside0.mk (Kd.S_lower (Kd.S_new' ho0 (Kd.S_lt (by (with_reducible repeat (first | apply Kd.S_alloc | apply Kd.S_drewN | apply Kd.S_drew)); exact HO_10.out))) (below_size (by repeat (first | (with_reducible first | exact HB.out | apply below_alloc | apply pw_below_drewN | apply below_drew1) | exact HB.out)))); have n4_ := Aside0.mk (below_step (by repeat (first | (with_reducible first | exact HB.out | apply below_alloc | apply pw_below_drewN | apply below_drew1) | exact HB.out)) hb); clear HO_9; clear HO_10; clear HO154; clear HB; have HO_9 := n0_; have HO_10 := n1_; have HO154 := n2_; have HO158 := n3_; have HB := n4_; clear n0_ n1_ n2_ n3_ n4_; (try clear hb); (try clear hb2); (try clear hk); (try clear hi); (try clear ho0)))
            go_loopg [15] kj7 (fun kq v15 w' => ∃ (x9_2 : List Int) (x15_2 : Int), v15 = .int .i64 x15_2 ∧ Aside0 (law20_AggJoins.l1 kq a2 t139 ji5 x9_2 t155 x15_2 = some r) ∧ Aside0 (kq ≤ kj7) ∧ Aside0 (Kd.R (Kd.int .i64) 2 w' w.heap.size (fun _ => True) v141 x9_2) ∧ Aside0 (Kd.S (Kd.slice 39 k39) 32 w' w.heap.size (fun _ => True) v157 t155) ∧ Aside0 (Below w.heap.size w w'))
            case atStart => exact ⟨(x9_7), (0), (by first | rfl | (simp; done) | (simp [*]; done)), H', ⟨Nat.le_refl _⟩, ⟨by (with_reducible repeat (first | apply Kd.R_alloc | apply Kd.R_drewN | apply Kd.R_drew)); exact HO_9.out⟩, ⟨by (with_reducible repeat (first | apply Kd.S_alloc | apply Kd.S_drewN | apply Kd.S_drew)); exact Kd.S_mono HO158.out (fun _ hk => trivial)⟩, ⟨by repeat (first | (with_reducible first | exact HB.out | apply below_alloc | apply pw_below_drewN | apply below_drew1) | exact HB.out)⟩⟩
            case round =>
              clear H'
              try clear c1
              try clear p1
              try clear q1
              try clear hx1
              try clear c2
              try clear p2
              try clear c3
              try clear c6
              try clear c6b0
              try clear c6b1
              try clear p6
              try clear c7
              try clear c7b0
              try clear c7b1
              try clear c8
              try clear c9
              try clear c12
              try clear c12b0
              try clear c13
              try clear c13b0
              try clear c14
              try clear c14b0
              try clear p14
              try clear q14
              try clear hx14
              try clear c15
              try clear c15b0
              try clear c15b1
              try clear c17
              try clear c17b0
              try clear c18
              try clear c18b0
              try clear p19
              try clear q19
              try clear hx19
              try clear hf19
              try clear c20
              try clear c29
              try clear c29b0
              try clear c29b1
              try clear hx143_0
              try clear hx144_0
              try clear hx19_0
              try clear p1
              try clear p14
              try clear p143
              try clear p144
              try clear p19
              try clear p2
              try clear p6
              try clear q1
              try clear q14
              try clear q143
              try clear q144
              try clear q19
              obtain ⟨x9_2, x15_2, rfl, HA, HK2, HO_9, HO_13, HB⟩ := hrel
              cases gk with
              | zero => exact absurd HA.out (by simp [law20_AggJoins.l1])
              | succ k2 =>
                have H := HA.out
                clear HA
                simp only [law20_AggJoins.l1] at H
                by_cases c35 : x15_2 < (t155.length : Int)
                · rw [if_pos c35] at H
                  have c35b0 : decide (x15_2 < (t155.length : Int)) = true := decide_eq_true c35
                  clear c35
                  have HC36 := Aside0.mk H
                  clear H
                  obtain ⟨Ao37, co37, eo37⟩ := Kd.S_slice HO_13.out
                  subst eo37
                  go_upto_region 17 with (fail)
                  go_cut [101] (fun v101 wc => ∃ (kq : Nat) (x101_35 : Bool), v101 = .bool x101_35 ∧ Aside0 (law20_AggJoins.j3 kq a2 t139 ji5 x9_2 t155 x15_2 x101_35 = some r) ∧ Aside0 (kq ≤ k2) ∧ Aside0 (Kd.R (Kd.int .i64) 2 wc w.heap.size (fun _ => True) v141 x9_2) ∧ Aside0 (Kd.S (Kd.slice 39 k39) 32 wc w.heap.size (fun _ => True) (.slice Ao37 t155.length co37) t155) ∧ Aside0 (Below w.heap.size w wc))
                  case first =>
                    have H := HC36.out
                    clear HC36
                    by_cases c38 : 0 ≤ x15_2
                    · rw [if_pos c38] at H
                      have c38b0 : decide (0 ≤ x15_2) = true := decide_eq_true c38
                      clear c38
                      (first | rw [c38b0] | (simp only [i64_w, i32_w]; rw [c38b0]) | skip)
                      by_cases c39 : ((rd_L3 t155 x15_2).length : Int) = 3
                      · rw [if_pos c39] at H
                        have c39b0 : (((rd_L3 t155 x15_2).length : Int) == 3) = true := beq_iff_eq.mpr c39
                        have c39b1 : (((rd_L3 t155 x15_2).length : Int) != 3) = false := bne_eq_false_iff_eq.mpr c39
                        clear c39
                        by_cases c40 : 0 < ((rd_L3 t155 x15_2).length : Int)
                        · rw [if_pos c40] at H
                          have c40b0 : decide (0 < ((rd_L3 t155 x15_2).length : Int)) = true := decide_eq_true c40
                          have c40b1 : decide (0 < (rd_L3 t155 x15_2).length) = true := decide_eq_true (by omega)
                          clear c40
                          by_cases c41 : ((rd_T39 (rd_L3 t155 x15_2) 0).f1) < 0
                          · rw [if_pos c41] at H
                            have c41b0 : decide (((rd_T39 (rd_L3 t155 x15_2) 0).f1) < 0) = true := decide_eq_true c41
                            clear c41
                            have H' := Aside0.mk H
                            clear H
                            have p159 : 0 ≤ (x15_2 : Int) := of_decide_eq_true (by first | (with_reducible assumption) | assumption)
                            have q159 : x15_2 < (t155.length : Int) := of_decide_eq_true (by first | (with_reducible assumption) | assumption)
                            obtain ⟨ad159, A159_0, c159_0, e159, hx159_0, hl159_0, hi159_0⟩ := at_L3 (Kd.S_reads' HO_13.out).2.2 x15_2 p159 q159
                            cases e159
                            obtain ⟨ce159, hce159, hMe159, hcc159⟩ := Kd.S_get HO_13.out [] x15_2 p159 (by first | exact q159 | exact of_decide_eq_true (by first | (with_reducible assumption) | assumption) | (have e_ := (Kd.S_reads' HO_13.out).1; omega))
                            obtain ⟨ve159_0, rfl, ge159_0⟩ := hMe159
                            have hv159_0 := hcc159 0 _ rfl
                            rw [Nat.add_zero, show ((Kd.slice 39 k39)).sz = 1 from rfl, Nat.mul_one] at hv159_0
                            replace hv159_0 := Option.some.inj (hv159_0.symm.trans hx159_0)
                            rw [hv159_0] at ge159_0
                            have HL159_0 := Aside0.mk (show Kd.R k39 39 _ _ _ _ (rd_L3 t155 x15_2) from ge159_0)
                            clear hv159_0 ge159_0
                            clear hcc159 hce159
                            have HR159_0 := Aside0.mk hi159_0
                            have HC159_0 := Aside0.mk hl159_0
                            clear hi159_0 hl159_0
                            replace p159 := eq_true p159
                            replace q159 := eq_true q159
                            have p160 : 0 ≤ (x15_2 : Int) := of_decide_eq_true (by first | (with_reducible assumption) | assumption)
                            have q160 : x15_2 < (t155.length : Int) := of_decide_eq_true (by first | (with_reducible assumption) | assumption)
                            obtain ⟨ad160, A160_0, c160_0, e160, hx160_0, hl160_0, hi160_0⟩ := at_L3 (Kd.S_reads' HO_13.out).2.2 x15_2 p160 q160
                            obtain rfl : ad159 = ad160 := (by injection e160)
                            obtain ⟨ce160, hce160, hMe160, hcc160⟩ := Kd.S_get HO_13.out [] x15_2 p160 (by first | exact q160 | exact of_decide_eq_true (by first | (with_reducible assumption) | assumption) | (have e_ := (Kd.S_reads' HO_13.out).1; omega))
                            obtain ⟨ve160_0, rfl, ge160_0⟩ := hMe160
                            have hv160_0 := hcc160 0 _ rfl
                            rw [Nat.add_zero, show ((Kd.slice 39 k39)).sz = 1 from rfl, Nat.mul_one] at hv160_0
                            replace hv160_0 := Option.some.inj (hv160_0.symm.trans hx160_0)
                            rw [hv160_0] at ge160_0
                            have HL160_0 := Aside0.mk (show Kd.R k39 39 _ _ _ _ (rd_L3 t155 x15_2) from ge160_0)
                            clear hv160_0 ge160_0
                            clear hcc160 hce160
                            have HR160_0 := Aside0.mk hi160_0
                            have HC160_0 := Aside0.mk hl160_0
                            clear hi160_0 hl160_0
                            replace p160 := eq_true p160
                            replace q160 := eq_true q160
                            have ea_ := Option.some.inj (hx159_0.symm.trans hx160_0)
                            injection ea_ with ea_ en_ ec_
                            subst ea_
                            subst ec_
                            clear en_
                            have p161 : 0 ≤ (0 : Int) := (by omega)
                            have q161 : 0 < ((rd_L3 t155 x15_2).length : Int) := of_decide_eq_true (by first | (with_reducible assumption) | assumption)
                            obtain ⟨ad161, e161, hx161_0, hx161_1, hx161_2⟩ := at_T39 (by repeat (first | (with_reducible exact HR160_0.out) | (with_reducible refine Kd.C_alloc ?_ _) | (with_reducible refine Kd.C_drewN ?_ _) | (with_reducible refine Kd.C_drew ?_) | exact HR160_0.out)) 0 p161 q161
                            cases e161
                            have qi161 : (0 < (rd_L3 t155 x15_2).length) = True := eq_true (by omega)
                            (try rw [show ((0 : Int)).toNat = 0 from rfl] at hx161_0)
                            (try rw [show 0 * 3 = 0 from rfl] at hx161_0)
                            (try rw [Addr.add_zero'] at hx161_0)
                            (try rw [show ((0 : Int)).toNat = 0 from rfl] at hx161_1)
                            (try rw [show 0 * 3 = 0 from rfl] at hx161_1)
                            (try rw [Addr.add_zero'] at hx161_1)
                            (try rw [show ((0 : Int)).toNat = 0 from rfl] at hx161_2)
                            (try rw [show 0 * 3 = 0 from rfl] at hx161_2)
                            (try rw [Addr.add_zero'] at hx161_2)
                            replace p161 := eq_true p161
                            replace q161 := eq_true q161
                            go_wp2
                            go_meet
                            case rel => exact ⟨_, (true), (by first | rfl | (simp; done) | (simp [*]; done)), H', ⟨by have := HJ7.out; have := HK2.out; first | omega | exact Nat.le_refl _⟩, ⟨by (with_reducible repeat (first | apply Kd.R_alloc | apply Kd.R_drewN | apply Kd.R_drew)); exact HO_9.out⟩, ⟨by (with_reducible repeat (first | apply Kd.S_alloc | apply Kd.S_drewN | apply Kd.S_drew)); exact HO_13.out⟩, ⟨by repeat (first | (with_reducible first | exact HB.out | apply below_alloc | apply pw_below_drewN | apply below_drew1) | exact HB.out)⟩⟩
                          · rw [if_neg c41] at H
                            have c41b0 : decide (((rd_T39 (rd_L3 t155 x15_2) 0).f1) < 0) = false := decide_eq_false c41
                            clear c41
                            have H' := Aside0.mk H
                            clear H
                            have p159 : 0 ≤ (x15_2 : Int) := of_decide_eq_true (by first | (with_reducible assumption) | assumption)
                            have q159 : x15_2 < (t155.length : Int) := of_decide_eq_true (by first | (with_reducible assumption) | assumption)
                            obtain ⟨ad159, A159_0, c159_0, e159, hx159_0, hl159_0, hi159_0⟩ := at_L3 (Kd.S_reads' HO_13.out).2.2 x15_2 p159 q159
                            cases e159
                            obtain ⟨ce159, hce159, hMe159, hcc159⟩ := Kd.S_get HO_13.out [] x15_2 p159 (by first | exact q159 | exact of_decide_eq_true (by first | (with_reducible assumption) | assumption) | (have e_ := (Kd.S_reads' HO_13.out).1; omega))
                            obtain ⟨ve159_0, rfl, ge159_0⟩ := hMe159
                            have hv159_0 := hcc159 0 _ rfl
                            rw [Nat.add_zero, show ((Kd.slice 39 k39)).sz = 1 from rfl, Nat.mul_one] at hv159_0
                            replace hv159_0 := Option.some.inj (hv159_0.symm.trans hx159_0)
                            rw [hv159_0] at ge159_0
                            have HL159_0 := Aside0.mk (show Kd.R k39 39 _ _ _ _ (rd_L3 t155 x15_2) from ge159_0)
                            clear hv159_0 ge159_0
                            clear hcc159 hce159
                            have HR159_0 := Aside0.mk hi159_0
                            have HC159_0 := Aside0.mk hl159_0
                            clear hi159_0 hl159_0
                            replace p159 := eq_true p159
                            replace q159 := eq_true q159
                            have p160 : 0 ≤ (x15_2 : Int) := of_decide_eq_true (by first | (with_reducible assumption) | assumption)
                            have q160 : x15_2 < (t155.length : Int) := of_decide_eq_true (by first | (with_reducible assumption) | assumption)
                            obtain ⟨ad160, A160_0, c160_0, e160, hx160_0, hl160_0, hi160_0⟩ := at_L3 (Kd.S_reads' HO_13.out).2.2 x15_2 p160 q160
                            obtain rfl : ad159 = ad160 := (by injection e160)
                            obtain ⟨ce160, hce160, hMe160, hcc160⟩ := Kd.S_get HO_13.out [] x15_2 p160 (by first | exact q160 | exact of_decide_eq_true (by first | (with_reducible assumption) | assumption) | (have e_ := (Kd.S_reads' HO_13.out).1; omega))
                            obtain ⟨ve160_0, rfl, ge160_0⟩ := hMe160
                            have hv160_0 := hcc160 0 _ rfl
                            rw [Nat.add_zero, show ((Kd.slice 39 k39)).sz = 1 from rfl, Nat.mul_one] at hv160_0
                            replace hv160_0 := Option.some.inj (hv160_0.symm.trans hx160_0)
                            rw [hv160_0] at ge160_0
                            have HL160_0 := Aside0.mk (show Kd.R k39 39 _ _ _ _ (rd_L3 t155 x15_2) from ge160_0)
                            clear hv160_0 ge160_0
                            clear hcc160 hce160
                            have HR160_0 := Aside0.mk hi160_0
                            have HC160_0 := Aside0.mk hl160_0
                            clear hi160_0 hl160_0
                            replace p160 := eq_true p160
                            replace q160 := eq_true q160
                            have ea_ := Option.some.inj (hx159_0.symm.trans hx160_0)
                            injection ea_ with ea_ en_ ec_
                            subst ea_
                            subst ec_
                            clear en_
                            have p161 : 0 ≤ (0 : Int) := (by omega)
                            have q161 : 0 < ((rd_L3 t155 x15_2).length : Int) := of_decide_eq_true (by first | (with_reducible assumption) | assumption)
                            obtain ⟨ad161, e161, hx161_0, hx161_1, hx161_2⟩ := at_T39 (by repeat (first | (with_reducible exact HR160_0.out) | (with_reducible refine Kd.C_alloc ?_ _) | (with_reducible refine Kd.C_drewN ?_ _) | (with_reducible refine Kd.C_drew ?_) | exact HR160_0.out)) 0 p161 q161
                            cases e161
                            have qi161 : (0 < (rd_L3 t155 x15_2).length) = True := eq_true (by omega)
                            (try rw [show ((0 : Int)).toNat = 0 from rfl] at hx161_0)
                            (try rw [show 0 * 3 = 0 from rfl] at hx161_0)
                            (try rw [Addr.add_zero'] at hx161_0)
                            (try rw [show ((0 : Int)).toNat = 0 from rfl] at hx161_1)
                            (try rw [show 0 * 3 = 0 from rfl] at hx161_1)
                            (try rw [Addr.add_zero'] at hx161_1)
                            (try rw [show ((0 : Int)).toNat = 0 from rfl] at hx161_2)
                            (try rw [show 0 * 3 = 0 from rfl] at hx161_2)
                            (try rw [Addr.add_zero'] at hx161_2)
                            replace p161 := eq_true p161
                            replace q161 := eq_true q161
                            have p162 : 0 ≤ (x15_2 : Int) := of_decide_eq_true (by first | (with_reducible assumption) | assumption)
                            have q162 : x15_2 < (t155.length : Int) := of_decide_eq_true (by first | (with_reducible assumption) | assumption)
                            obtain ⟨ad162, A162_0, c162_0, e162, hx162_0, hl162_0, hi162_0⟩ := at_L3 (Kd.S_reads' HO_13.out).2.2 x15_2 p162 q162
                            obtain rfl : ad159 = ad162 := (by injection e162)
                            obtain ⟨ce162, hce162, hMe162, hcc162⟩ := Kd.S_get HO_13.out [] x15_2 p162 (by first | exact q162 | exact of_decide_eq_true (by first | (with_reducible assumption) | assumption) | (have e_ := (Kd.S_reads' HO_13.out).1; omega))
                            obtain ⟨ve162_0, rfl, ge162_0⟩ := hMe162
                            have hv162_0 := hcc162 0 _ rfl
                            rw [Nat.add_zero, show ((Kd.slice 39 k39)).sz = 1 from rfl, Nat.mul_one] at hv162_0
                            replace hv162_0 := Option.some.inj (hv162_0.symm.trans hx162_0)
                            rw [hv162_0] at ge162_0
                            have HL162_0 := Aside0.mk (show Kd.R k39 39 _ _ _ _ (rd_L3 t155 x15_2) from ge162_0)
                            clear hv162_0 ge162_0
                            clear hcc162 hce162
                            have HR162_0 := Aside0.mk hi162_0
                            have HC162_0 := Aside0.mk hl162_0
                            clear hi162_0 hl162_0
                            replace p162 := eq_true p162
                            replace q162 := eq_true q162
                            have ea_ := Option.some.inj (hx159_0.symm.trans hx162_0)
                            injection ea_ with ea_ en_ ec_
                            subst ea_
                            subst ec_
                            clear en_
                            have p163 : 0 ≤ (0 : Int) := (by omega)
                            have q163 : 0 < ((rd_L3 t155 x15_2).length : Int) := of_decide_eq_true (by first | (with_reducible assumption) | assumption)
                            obtain ⟨ad163, e163, hx163_0, hx163_1, hx163_2⟩ := at_T39 (by repeat (first | (with_reducible exact HR162_0.out) | (with_reducible refine Kd.C_alloc ?_ _) | (with_reducible refine Kd.C_drewN ?_ _) | (with_reducible refine Kd.C_drew ?_) | exact HR162_0.out)) 0 p163 q163
                            cases e163
                            have qi163 : (0 < (rd_L3 t155 x15_2).length) = True := eq_true (by omega)
                            (try rw [show ((0 : Int)).toNat = 0 from rfl] at hx163_0)
                            (try rw [show 0 * 3 = 0 from rfl] at hx163_0)
                            (try rw [Addr.add_zero'] at hx163_0)
                            (try rw [show ((0 : Int)).toNat = 0 from rfl] at hx163_1)
                            (try rw [show 0 * 3 = 0 from rfl] at hx163_1)
                            (try rw [Addr.add_zero'] at hx163_1)
                            (try rw [show ((0 : Int)).toNat = 0 from rfl] at hx163_2)
                            (try rw [show 0 * 3 = 0 from rfl] at hx163_2)
                            (try rw [Addr.add_zero'] at hx163_2)
                            replace p163 := eq_true p163
                            replace q163 := eq_true q163
                            go_wp2
                            go_meet
                            case rel => exact ⟨_, (decide (((rd_T39 (rd_L3 t155 x15_2) 0).f1) ≥ ji5)), (by first | rfl | (simp; done) | (simp only [← hji5] <;> (first | rfl | simp)) | (simp [*]; done)), H', ⟨by have := HJ7.out; have := HK2.out; first | omega | exact Nat.le_refl _⟩, ⟨by (with_reducible repeat (first | apply Kd.R_alloc | apply Kd.R_drewN | apply Kd.R_drew)); exact HO_9.out⟩, ⟨by (with_reducible repeat (first | apply Kd.S_alloc | apply Kd.S_drewN | apply Kd.S_drew)); exact HO_13.out⟩, ⟨by repeat (first | (with_reducible first | exact HB.out | apply below_alloc | apply pw_below_drewN | apply below_drew1) | exact HB.out)⟩⟩
                        · rw [if_neg c40] at H
                          exact absurd H (by simp)
                      · rw [if_neg c39] at H
                        have c39b0 : (((rd_L3 t155 x15_2).length : Int) == 3) = false := beq_eq_false_iff_ne.mpr c39
                        (try (have c39b0q_hl159_0 := c39b0; rw [hl159_0] at c39b0q_hl159_0))
                        (try (have c39b0q_hl160_0 := c39b0; rw [hl160_0] at c39b0q_hl160_0))
                        (try (have c39b0q_hl162_0 := c39b0; rw [hl162_0] at c39b0q_hl162_0))
                        have c39b1 : (((rd_L3 t155 x15_2).length : Int) != 3) = true := bne_iff_ne.mpr c39
                        (try (have c39b1q_hl159_0 := c39b1; rw [hl159_0] at c39b1q_hl159_0))
                        (try (have c39b1q_hl160_0 := c39b1; rw [hl160_0] at c39b1q_hl160_0))
                        (try (have c39b1q_hl162_0 := c39b1; rw [hl162_0] at c39b1q_hl162_0))
                        have H' := Aside0.mk H
                        clear H
                        have p159 : 0 ≤ (x15_2 : Int) := of_decide_eq_true (by first | (with_reducible assumption) | assumption)
                        have q159 : x15_2 < (t155.length : Int) := of_decide_eq_true (by first | (with_reducible assumption) | assumption)
                        obtain ⟨ad159, A159_0, c159_0, e159, hx159_0, hl159_0, hi159_0⟩ := at_L3 (Kd.S_reads' HO_13.out).2.2 x15_2 p159 q159
                        cases e159
                        obtain ⟨ce159, hce159, hMe159, hcc159⟩ := Kd.S_get HO_13.out [] x15_2 p159 (by first | exact q159 | exact of_decide_eq_true (by first | (with_reducible assumption) | assumption) | (have e_ := (Kd.S_reads' HO_13.out).1; omega))
                        obtain ⟨ve159_0, rfl, ge159_0⟩ := hMe159
                        have hv159_0 := hcc159 0 _ rfl
                        rw [Nat.add_zero, show ((Kd.slice 39 k39)).sz = 1 from rfl, Nat.mul_one] at hv159_0
                        replace hv159_0 := Option.some.inj (hv159_0.symm.trans hx159_0)
                        rw [hv159_0] at ge159_0
                        have HL159_0 := Aside0.mk (show Kd.R k39 39 _ _ _ _ (rd_L3 t155 x15_2) from ge159_0)
                        clear hv159_0 ge159_0
                        clear hcc159 hce159
                        have HR159_0 := Aside0.mk hi159_0
                        have HC159_0 := Aside0.mk hl159_0
                        clear hi159_0 hl159_0
                        replace p159 := eq_true p159
                        replace q159 := eq_true q159
                        go_wp2
                        go_meet
                        case rel => exact ⟨_, (true), (by first | rfl | (simp; done) | (simp [*]; done)), H', ⟨by have := HJ7.out; have := HK2.out; first | omega | exact Nat.le_refl _⟩, ⟨by (with_reducible repeat (first | apply Kd.R_alloc | apply Kd.R_drewN | apply Kd.R_drew)); exact HO_9.out⟩, ⟨by (with_reducible repeat (first | apply Kd.S_alloc | apply Kd.S_drewN | apply Kd.S_drew)); exact HO_13.out⟩, ⟨by repeat (first | (with_reducible first | exact HB.out | apply below_alloc | apply pw_below_drewN | apply below_drew1) | exact HB.out)⟩⟩
                    · rw [if_neg c38] at H
                      exact absurd H (by simp)
                  case rest =>
                    clear HC36
                    try clear c1
                    try clear p1
                    try clear q1
                    try clear hx1
                    try clear qi1
                    try clear c2
                    try clear p2
                    try clear c3
                    try clear c4
                    try clear c6
                    try clear c6b0
                    try clear c6b1
                    try clear p6
                    try clear c7
                    try clear c7b0
                    try clear c7b1
                    try clear c8
                    try clear c9
                    try clear c12
                    try clear c12b0
                    try clear c13
                    try clear c13b0
                    try clear c14
                    try clear c14b0
                    try clear p14
                    try clear q14
                    try clear hx14
                    try clear c15
                    try clear c15b0
                    try clear c15b1
                    try clear p15
                    try clear q15
                    try clear hx15
                    try clear c16
                    try clear p16
                    try clear q16
                    try clear hx16
                    try clear qi16
                    try clear c17
                    try clear c17b0
                    try clear c18
                    try clear c18b0
                    try clear p19
                    try clear q19
                    try clear hx19
                    try clear hf19
                    try clear c20
                    try clear c29
                    try clear c29b0
                    try clear c29b1
                    try clear c35
                    try clear c35b0
                    try clear c38
                    try clear c38b0
                    try clear c39
                    try clear c39b0
                    try clear c39b1
                    try clear c40
                    try clear c40b0
                    try clear c40b1
                    try clear c41
                    try clear c41b0
                    try clear hx143_0
                    try clear hx144_0
                    try clear hx159_0
                    try clear hx160_0
                    try clear hx161_0
                    try clear hx161_1
                    try clear hx161_2
                    try clear hx162_0
                    try clear hx163_0
                    try clear hx163_1
                    try clear hx163_2
                    try clear hx19_0
                    try clear p1
                    try clear p14
                    try clear p143
                    try clear p144
                    try clear p159
                    try clear p160
                    try clear p161
                    try clear p162
                    try clear p163
                    try clear p19
                    try clear p2
                    try clear p6
                    try clear q1
                    try clear q14
                    try clear q143
                    try clear q144
                    try clear q159
                    try clear q160
                    try clear q161
                    try clear q162
                    try clear q163
                    try clear q19
                    obtain ⟨kq, x101_35, rfl, HA, HJ35, HO_9, HO_13, HB⟩ := hcut
                    cases kq with
                    | zero => exact absurd HA.out (by simp [law20_AggJoins.j3])
                    | succ kj35 =>
                      have H := HA.out
                      clear HA
                      simp only [law20_AggJoins.j3] at H
                      by_cases c42 : x101_35 = true
                      · subst c42
                        have H1 : (some false) = some r := by rw [if_pos rfl] at H; exact H
                        clear H
                        have H := H1
                        clear H1
                        exact absurd ((Option.some.inj H).trans hr_.out) (by decide)
                      · replace c42 := Bool.eq_false_iff.mpr c42
                        subst c42
                        have H1 : (if 0 ≤ x15_2 then (if x15_2 < (t155.length : Int) then (if 0 < ((rd_L3 t155 x15_2).length : Int) then (if 0 ≤ ((rd_T39 (rd_L3 t155 x15_2) 0).f1) then (if ((rd_T39 (rd_L3 t155 x15_2) 0).f1) < (x9_2.length : Int) then (if 1 < ((rd_L3 t155 x15_2).length : Int) then (if ((rd_T39 (rd_L3 t155 x15_2) 1).f1) = (rd x9_2 ((rd_T39 (rd_L3 t155 x15_2) 0).f1)) then (if 2 < ((rd_L3 t155 x15_2).length : Int) then (if ((rd_T39 (rd_L3 t155 x15_2) 2).f1) = (wrap64 ((rd x9_2 ((rd_T39 (rd_L3 t155 x15_2) 0).f1)) * (wrap64 (a2)))) then (law20_AggJoins.l1 kj35 a2 t139 ji5 (x9_2.set (((rd_T39 (rd_L3 t155 x15_2) 0).f1) : Int).toNat 0) t155 (wrap64 (x15_2 + 1))) else (some false)) else (none)) else (some false)) else (none)) else (none)) else (none)) else (none)) else (none)) else (none)) = some r := by rw [if_neg (show ¬ (false = true) by decide)] at H; exact H
                        clear H
                        have H := H1
                        clear H1
                        by_cases c43 : 0 ≤ x15_2
                        · rw [if_pos c43] at H
                          have c43b0 : decide (0 ≤ x15_2) = true := decide_eq_true c43
                          clear c43
                          by_cases c44 : x15_2 < (t155.length : Int)
                          · rw [if_pos c44] at H
                            have c44b0 : decide (x15_2 < (t155.length : Int)) = true := decide_eq_true c44
                            (try (have c44b0q_hl159_0 := c44b0; rw [hl159_0] at c44b0q_hl159_0))
                            (try (have c44b0q_hl160_0 := c44b0; rw [hl160_0] at c44b0q_hl160_0))
                            (try (have c44b0q_hl162_0 := c44b0; rw [hl162_0] at c44b0q_hl162_0))
                            clear c44
                            by_cases c45 : 0 < ((rd_L3 t155 x15_2).length : Int)
                            · rw [if_pos c45] at H
                              have c45b0 : decide (0 < ((rd_L3 t155 x15_2).length : Int)) = true := decide_eq_true c45
                              (try (have c45b0q_hl159_0 := c45b0; rw [hl159_0] at c45b0q_hl159_0))
                              (try (have c45b0q_hl160_0 := c45b0; rw [hl160_0] at c45b0q_hl160_0))
                              (try (have c45b0q_hl162_0 := c45b0; rw [hl162_0] at c45b0q_hl162_0))
                              have c45b1 : decide (0 < (rd_L3 t155 x15_2).length) = true := decide_eq_true (by omega)
                              (try (have c45b1q_hl159_0 := c45b1; rw [hl159_0] at c45b1q_hl159_0))
                              (try (have c45b1q_hl160_0 := c45b1; rw [hl160_0] at c45b1q_hl160_0))
                              (try (have c45b1q_hl162_0 := c45b1; rw [hl162_0] at c45b1q_hl162_0))
                              clear c45
                              by_cases c46 : 0 ≤ ((rd_T39 (rd_L3 t155 x15_2) 0).f1)
                              · rw [if_pos c46] at H
                                have c46b0 : decide (0 ≤ ((rd_T39 (rd_L3 t155 x15_2) 0).f1)) = true := decide_eq_true c46
                                clear c46
                                by_cases c47 : ((rd_T39 (rd_L3 t155 x15_2) 0).f1) < (x9_2.length : Int)
                                · rw [if_pos c47] at H
                                  have c47b0 : decide (((rd_T39 (rd_L3 t155 x15_2) 0).f1) < (x9_2.length : Int)) = true := decide_eq_true c47
                                  (try (have c47b0q_hl159_0 := c47b0; rw [hl159_0] at c47b0q_hl159_0))
                                  (try (have c47b0q_hl160_0 := c47b0; rw [hl160_0] at c47b0q_hl160_0))
                                  (try (have c47b0q_hl162_0 := c47b0; rw [hl162_0] at c47b0q_hl162_0))
                                  clear c47
                                  by_cases c48 : 1 < ((rd_L3 t155 x15_2).length : Int)
                                  · rw [if_pos c48] at H
                                    have c48b0 : decide (1 < ((rd_L3 t155 x15_2).length : Int)) = true := decide_eq_true c48
                                    (try (have c48b0q_hl159_0 := c48b0; rw [hl159_0] at c48b0q_hl159_0))
                                    (try (have c48b0q_hl160_0 := c48b0; rw [hl160_0] at c48b0q_hl160_0))
                                    (try (have c48b0q_hl162_0 := c48b0; rw [hl162_0] at c48b0q_hl162_0))
                                    have c48b1 : decide (1 < (rd_L3 t155 x15_2).length) = true := decide_eq_true (by omega)
                                    (try (have c48b1q_hl159_0 := c48b1; rw [hl159_0] at c48b1q_hl159_0))
                                    (try (have c48b1q_hl160_0 := c48b1; rw [hl160_0] at c48b1q_hl160_0))
                                    (try (have c48b1q_hl162_0 := c48b1; rw [hl162_0] at c48b1q_hl162_0))
                                    clear c48
                                    by_cases c49 : ((rd_T39 (rd_L3 t155 x15_2) 1).f1) = (rd x9_2 ((rd_T39 (rd_L3 t155 x15_2) 0).f1))
                                    · rw [if_pos c49] at H
                                      have c49b0 : (((rd_T39 (rd_L3 t155 x15_2) 1).f1) == (rd x9_2 ((rd_T39 (rd_L3 t155 x15_2) 0).f1))) = true := beq_iff_eq.mpr c49
                                      have c49b1 : (((rd_T39 (rd_L3 t155 x15_2) 1).f1) != (rd x9_2 ((rd_T39 (rd_L3 t155 x15_2) 0).f1))) = false := bne_eq_false_iff_eq.mpr c49
                                      clear c49
                                      by_cases c50 : 2 < ((rd_L3 t155 x15_2).length : Int)
                                      · rw [if_pos c50] at H
                                        have c50b0 : decide (2 < ((rd_L3 t155 x15_2).length : Int)) = true := decide_eq_true c50
                                        (try (have c50b0q_hl159_0 := c50b0; rw [hl159_0] at c50b0q_hl159_0))
                                        (try (have c50b0q_hl160_0 := c50b0; rw [hl160_0] at c50b0q_hl160_0))
                                        (try (have c50b0q_hl162_0 := c50b0; rw [hl162_0] at c50b0q_hl162_0))
                                        have c50b1 : decide (2 < (rd_L3 t155 x15_2).length) = true := decide_eq_true (by omega)
                                        (try (have c50b1q_hl159_0 := c50b1; rw [hl159_0] at c50b1q_hl159_0))
                                        (try (have c50b1q_hl160_0 := c50b1; rw [hl160_0] at c50b1q_hl160_0))
                                        (try (have c50b1q_hl162_0 := c50b1; rw [hl162_0] at c50b1q_hl162_0))
                                        clear c50
                                        by_cases c51 : ((rd_T39 (rd_L3 t155 x15_2) 2).f1) = (wrap64 ((rd x9_2 ((rd_T39 (rd_L3 t155 x15_2) 0).f1)) * (wrap64 (a2))))
                                        · rw [if_pos c51] at H
                                          have c51b0 : (((rd_T39 (rd_L3 t155 x15_2) 2).f1) == (wrap64 ((rd x9_2 ((rd_T39 (rd_L3 t155 x15_2) 0).f1)) * (wrap64 (a2))))) = true := beq_iff_eq.mpr c51
                                          have c51b1 : (((rd_T39 (rd_L3 t155 x15_2) 2).f1) != (wrap64 ((rd x9_2 ((rd_T39 (rd_L3 t155 x15_2) 0).f1)) * (wrap64 (a2))))) = false := bne_eq_false_iff_eq.mpr c51
                                          clear c51
                                          obtain ⟨y173, hy173⟩ : ∃ y_ : List Int, y_ = (x9_2.set (((rd_T39 (rd_L3 t155 x15_2) 0).f1) : Int).toNat 0) := ⟨_, rfl⟩
                                          replace H : (law20_AggJoins.l1 kj35 a2 t139 ji5 y173 t155 (wrap64 (x15_2 + 1))) = some r := by first | (rw [hy173]; with_reducible exact H) | (have H2_ := (Option.bind_some _ _).symm.trans H; rw [hy173]; with_reducible exact H2_) | (have H2_ := (Option.bind_some _ _).symm.trans H; with_reducible exact H2_) | with_reducible exact H | (rw [hy173]; exact H) | exact H
                                          have Ny173 := Aside0.mk hy173
                                          clear hy173
                                          have H' := Aside0.mk H
                                          clear H
                                          have p164 : 0 ≤ (x15_2 : Int) := of_decide_eq_true (by first | (with_reducible assumption) | assumption)
                                          have q164 : x15_2 < (t155.length : Int) := of_decide_eq_true (by first | (with_reducible assumption) | assumption)
                                          obtain ⟨ad164, A164_0, c164_0, e164, hx164_0, hl164_0, hi164_0⟩ := at_L3 (Kd.S_reads' HO_13.out).2.2 x15_2 p164 q164
                                          cases e164
                                          obtain ⟨ce164, hce164, hMe164, hcc164⟩ := Kd.S_get HO_13.out [] x15_2 p164 (by first | exact q164 | exact of_decide_eq_true (by first | (with_reducible assumption) | assumption) | (have e_ := (Kd.S_reads' HO_13.out).1; omega))
                                          obtain ⟨ve164_0, rfl, ge164_0⟩ := hMe164
                                          have hv164_0 := hcc164 0 _ rfl
                                          rw [Nat.add_zero, show ((Kd.slice 39 k39)).sz = 1 from rfl, Nat.mul_one] at hv164_0
                                          replace hv164_0 := Option.some.inj (hv164_0.symm.trans hx164_0)
                                          rw [hv164_0] at ge164_0
                                          have HL164_0 := Aside0.mk (show Kd.R k39 39 _ _ _ _ (rd_L3 t155 x15_2) from ge164_0)
                                          clear hv164_0 ge164_0
                                          clear hcc164 hce164
                                          have HR164_0 := Aside0.mk hi164_0
                                          have HC164_0 := Aside0.mk hl164_0
                                          clear hi164_0 hl164_0
                                          replace p164 := eq_true p164
                                          replace q164 := eq_true q164
                                          have p165 : 0 ≤ (0 : Int) := (by omega)
                                          have q165 : 0 < ((rd_L3 t155 x15_2).length : Int) := of_decide_eq_true (by first | (with_reducible assumption) | assumption)
                                          obtain ⟨ad165, e165, hx165_0, hx165_1, hx165_2⟩ := at_T39 (by repeat (first | (with_reducible exact HR164_0.out) | (with_reducible refine Kd.C_alloc ?_ _) | (with_reducible refine Kd.C_drewN ?_ _) | (with_reducible refine Kd.C_drew ?_) | exact HR164_0.out)) 0 p165 q165
                                          cases e165
                                          have qi165 : (0 < (rd_L3 t155 x15_2).length) = True := eq_true (by omega)
                                          (try rw [show ((0 : Int)).toNat = 0 from rfl] at hx165_0)
                                          (try rw [show 0 * 3 = 0 from rfl] at hx165_0)
                                          (try rw [Addr.add_zero'] at hx165_0)
                                          (try rw [show ((0 : Int)).toNat = 0 from rfl] at hx165_1)
                                          (try rw [show 0 * 3 = 0 from rfl] at hx165_1)
                                          (try rw [Addr.add_zero'] at hx165_1)
                                          (try rw [show ((0 : Int)).toNat = 0 from rfl] at hx165_2)
                                          (try rw [show 0 * 3 = 0 from rfl] at hx165_2)
                                          (try rw [Addr.add_zero'] at hx165_2)
                                          replace p165 := eq_true p165
                                          replace q165 := eq_true q165
                                          obtain ⟨Ao53, co53, eo53⟩ := Kd.R_slice HO_9.out
                                          subst eo53
                                          have p166 : 0 ≤ (((rd_T39 (rd_L3 t155 x15_2) 0).f1) : Int) := of_decide_eq_true (by first | (with_reducible assumption) | assumption)
                                          have q166 : ((rd_T39 (rd_L3 t155 x15_2) 0).f1) < (x9_2.length : Int) := of_decide_eq_true (by first | (with_reducible assumption) | assumption)
                                          obtain ⟨ad166, e166, hx166_0⟩ := Kd.at_int (Kd.R_reads' HO_9.out).2.2 ((rd_T39 (rd_L3 t155 x15_2) 0).f1) p166 q166
                                          cases e166
                                          replace p166 := eq_true p166
                                          replace q166 := eq_true q166
                                          have p167 : 0 ≤ (x15_2 : Int) := of_decide_eq_true (by first | (with_reducible assumption) | assumption)
                                          have q167 : x15_2 < (t155.length : Int) := of_decide_eq_true (by first | (with_reducible assumption) | assumption)
                                          obtain ⟨ad167, A167_0, c167_0, e167, hx167_0, hl167_0, hi167_0⟩ := at_L3 (Kd.S_reads' HO_13.out).2.2 x15_2 p167 q167
                                          obtain rfl : ad164 = ad167 := (by injection e167)
                                          obtain ⟨ce167, hce167, hMe167, hcc167⟩ := Kd.S_get HO_13.out [] x15_2 p167 (by first | exact q167 | exact of_decide_eq_true (by first | (with_reducible assumption) | assumption) | (have e_ := (Kd.S_reads' HO_13.out).1; omega))
                                          obtain ⟨ve167_0, rfl, ge167_0⟩ := hMe167
                                          have hv167_0 := hcc167 0 _ rfl
                                          rw [Nat.add_zero, show ((Kd.slice 39 k39)).sz = 1 from rfl, Nat.mul_one] at hv167_0
                                          replace hv167_0 := Option.some.inj (hv167_0.symm.trans hx167_0)
                                          rw [hv167_0] at ge167_0
                                          have HL167_0 := Aside0.mk (show Kd.R k39 39 _ _ _ _ (rd_L3 t155 x15_2) from ge167_0)
                                          clear hv167_0 ge167_0
                                          clear hcc167 hce167
                                          have HR167_0 := Aside0.mk hi167_0
                                          have HC167_0 := Aside0.mk hl167_0
                                          clear hi167_0 hl167_0
                                          replace p167 := eq_true p167
                                          replace q167 := eq_true q167
                                          have ea_ := Option.some.inj (hx164_0.symm.trans hx167_0)
                                          injection ea_ with ea_ en_ ec_
                                          subst ea_
                                          subst ec_
                                          clear en_
                                          have p168 : 0 ≤ (1 : Int) := (by omega)
                                          have q168 : 1 < ((rd_L3 t155 x15_2).length : Int) := of_decide_eq_true (by first | (with_reducible assumption) | assumption)
                                          obtain ⟨ad168, e168, hx168_0, hx168_1, hx168_2⟩ := at_T39 (by repeat (first | (with_reducible exact HR167_0.out) | (with_reducible refine Kd.C_alloc ?_ _) | (with_reducible refine Kd.C_drewN ?_ _) | (with_reducible refine Kd.C_drew ?_) | exact HR167_0.out)) 1 p168 q168
                                          cases e168
                                          (try simp only [show (1 : Int).toNat = 1 from rfl, Nat.reduceMul, Nat.reduceEqDiff, Go.Addr.add, ↓reduceIte] at hx168_0)
                                          (try simp only [show (1 : Int).toNat = 1 from rfl, Nat.reduceMul, Nat.reduceEqDiff, Go.Addr.add, ↓reduceIte] at hx168_1)
                                          (try simp only [show (1 : Int).toNat = 1 from rfl, Nat.reduceMul, Nat.reduceEqDiff, Go.Addr.add, ↓reduceIte] at hx168_2)
                                          have qi168 : (1 < (rd_L3 t155 x15_2).length) = True := eq_true (by omega)
                                          (try rw [show ((1 : Int)).toNat = 1 from rfl] at hx168_0)
                                          (try rw [show 1 * 3 = 3 from rfl] at hx168_0)
                                          (try rw [show ((1 : Int)).toNat = 1 from rfl] at hx168_1)
                                          (try rw [show 1 * 3 = 3 from rfl] at hx168_1)
                                          (try rw [show ((1 : Int)).toNat = 1 from rfl] at hx168_2)
                                          (try rw [show 1 * 3 = 3 from rfl] at hx168_2)
                                          replace p168 := eq_true p168
                                          replace q168 := eq_true q168
                                          have p169 : 0 ≤ (x15_2 : Int) := of_decide_eq_true (by first | (with_reducible assumption) | assumption)
                                          have q169 : x15_2 < (t155.length : Int) := of_decide_eq_true (by first | (with_reducible assumption) | assumption)
                                          obtain ⟨ad169, A169_0, c169_0, e169, hx169_0, hl169_0, hi169_0⟩ := at_L3 (Kd.S_reads' HO_13.out).2.2 x15_2 p169 q169
                                          obtain rfl : ad164 = ad169 := (by injection e169)
                                          obtain ⟨ce169, hce169, hMe169, hcc169⟩ := Kd.S_get HO_13.out [] x15_2 p169 (by first | exact q169 | exact of_decide_eq_true (by first | (with_reducible assumption) | assumption) | (have e_ := (Kd.S_reads' HO_13.out).1; omega))
                                          obtain ⟨ve169_0, rfl, ge169_0⟩ := hMe169
                                          have hv169_0 := hcc169 0 _ rfl
                                          rw [Nat.add_zero, show ((Kd.slice 39 k39)).sz = 1 from rfl, Nat.mul_one] at hv169_0
                                          replace hv169_0 := Option.some.inj (hv169_0.symm.trans hx169_0)
                                          rw [hv169_0] at ge169_0
                                          have HL169_0 := Aside0.mk (show Kd.R k39 39 _ _ _ _ (rd_L3 t155 x15_2) from ge169_0)
                                          clear hv169_0 ge169_0
                                          clear hcc169 hce169
                                          have HR169_0 := Aside0.mk hi169_0
                                          have HC169_0 := Aside0.mk hl169_0
                                          clear hi169_0 hl169_0
                                          replace p169 := eq_true p169
                                          replace q169 := eq_true q169
                                          have ea_ := Option.some.inj (hx164_0.symm.trans hx169_0)
                                          injection ea_ with ea_ en_ ec_
                                          subst ea_
                                          subst ec_
                                          clear en_
                                          have p170 : 0 ≤ (2 : Int) := (by omega)
                                          have q170 : 2 < ((rd_L3 t155 x15_2).length : Int) := of_decide_eq_true (by first | (with_reducible assumption) | assumption)
                                          obtain ⟨ad170, e170, hx170_0, hx170_1, hx170_2⟩ := at_T39 (by repeat (first | (with_reducible exact HR169_0.out) | (with_reducible refine Kd.C_alloc ?_ _) | (with_reducible refine Kd.C_drewN ?_ _) | (with_reducible refine Kd.C_drew ?_) | exact HR169_0.out)) 2 p170 q170
                                          cases e170
                                          (try simp only [show (2 : Int).toNat = 2 from rfl, Nat.reduceMul, Nat.reduceEqDiff, Go.Addr.add, ↓reduceIte] at hx170_0)
                                          (try simp only [show (2 : Int).toNat = 2 from rfl, Nat.reduceMul, Nat.reduceEqDiff, Go.Addr.add, ↓reduceIte] at hx170_1)
                                          (try simp only [show (2 : Int).toNat = 2 from rfl, Nat.reduceMul, Nat.reduceEqDiff, Go.Addr.add, ↓reduceIte] at hx170_2)
                                          have qi170 : (2 < (rd_L3 t155 x15_2).length) = True := eq_true (by omega)
                                          (try rw [show ((2 : Int)).toNat = 2 from rfl] at hx170_0)
                                          (try rw [show 2 * 3 = 6 from rfl] at hx170_0)
                                          (try rw [show ((2 : Int)).toNat = 2 from rfl] at hx170_1)
                                          (try rw [show 2 * 3 = 6 from rfl] at hx170_1)
                                          (try rw [show ((2 : Int)).toNat = 2 from rfl] at hx170_2)
                                          (try rw [show 2 * 3 = 6 from rfl] at hx170_2)
                                          replace p170 := eq_true p170
                                          replace q170 := eq_true q170
                                          have p171 : 0 ≤ (x15_2 : Int) := of_decide_eq_true (by first | (with_reducible assumption) | assumption)
                                          have q171 : x15_2 < (t155.length : Int) := of_decide_eq_true (by first | (with_reducible assumption) | assumption)
                                          obtain ⟨ad171, A171_0, c171_0, e171, hx171_0, hl171_0, hi171_0⟩ := at_L3 (Kd.S_reads' HO_13.out).2.2 x15_2 p171 q171
                                          obtain rfl : ad164 = ad171 := (by injection e171)
                                          obtain ⟨ce171, hce171, hMe171, hcc171⟩ := Kd.S_get HO_13.out [] x15_2 p171 (by first | exact q171 | exact of_decide_eq_true (by first | (with_reducible assumption) | assumption) | (have e_ := (Kd.S_reads' HO_13.out).1; omega))
                                          obtain ⟨ve171_0, rfl, ge171_0⟩ := hMe171
                                          have hv171_0 := hcc171 0 _ rfl
                                          rw [Nat.add_zero, show ((Kd.slice 39 k39)).sz = 1 from rfl, Nat.mul_one] at hv171_0
                                          replace hv171_0 := Option.some.inj (hv171_0.symm.trans hx171_0)
                                          rw [hv171_0] at ge171_0
                                          have HL171_0 := Aside0.mk (show Kd.R k39 39 _ _ _ _ (rd_L3 t155 x15_2) from ge171_0)
                                          clear hv171_0 ge171_0
                                          clear hcc171 hce171
                                          have HR171_0 := Aside0.mk hi171_0
                                          have HC171_0 := Aside0.mk hl171_0
                                          clear hi171_0 hl171_0
                                          replace p171 := eq_true p171
                                          replace q171 := eq_true q171
                                          have ea_ := Option.some.inj (hx164_0.symm.trans hx171_0)
                                          injection ea_ with ea_ en_ ec_
                                          subst ea_
                                          subst ec_
                                          clear en_
                                          have p172 : 0 ≤ (0 : Int) := (by omega)
                                          have q172 : 0 < ((rd_L3 t155 x15_2).length : Int) := of_decide_eq_true (by first | (with_reducible assumption) | assumption)
                                          obtain ⟨ad172, e172, hx172_0, hx172_1, hx172_2⟩ := at_T39 (by repeat (first | (with_reducible exact HR171_0.out) | (with_reducible refine Kd.C_alloc ?_ _) | (with_reducible refine Kd.C_drewN ?_ _) | (with_reducible refine Kd.C_drew ?_) | exact HR171_0.out)) 0 p172 q172
                                          cases e172
                                          have qi172 : (0 < (rd_L3 t155 x15_2).length) = True := eq_true (by omega)
                                          (try rw [show ((0 : Int)).toNat = 0 from rfl] at hx172_0)
                                          (try rw [show 0 * 3 = 0 from rfl] at hx172_0)
                                          (try rw [Addr.add_zero'] at hx172_0)
                                          (try rw [show ((0 : Int)).toNat = 0 from rfl] at hx172_1)
                                          (try rw [show 0 * 3 = 0 from rfl] at hx172_1)
                                          (try rw [Addr.add_zero'] at hx172_1)
                                          (try rw [show ((0 : Int)).toNat = 0 from rfl] at hx172_2)
                                          (try rw [show 0 * 3 = 0 from rfl] at hx172_2)
                                          (try rw [Addr.add_zero'] at hx172_2)
                                          replace p172 := eq_true p172
                                          replace q172 := eq_true q172
                                          have p52 : 0 ≤ (((rd_T39 (rd_L3 t155 x15_2) 0).f1) : Int) := of_decide_eq_true (by first | (with_reducible assumption) | assumption)
                                          have q52 : (((rd_T39 (rd_L3 t155 x15_2) 0).f1) : Int) < ((x9_2.length : Int) : Int) := of_decide_eq_true (by first | (with_reducible assumption) | assumption)
                                          obtain ⟨go52, co52, eo52, gb52, gl52, cl52, HG52⟩ := Kd.R_form HO_9.out (by omega)
                                          (first | cases eo52 | (injection eo52 with ea_ en_ ec_; (first | subst ea_ | (injection ea_ with ea_; subst ea_)); subst ec_; clear en_))
                                          have GB52 := Aside0.mk gb52
                                          have GG52 := Aside0.mk HG52
                                          clear gb52 gl52 HG52
                                          (first | simp only [add_plain] at hx166_0 | skip)
                                          obtain ⟨hx52_0, hf52_0⟩ := Kd.R_celln 0 HO_9.out (((rd_T39 (rd_L3 t155 x15_2) 0).f1) : Int) p52 q52
                                          replace p52 := eq_true p52
                                          replace q52 := eq_true q52
                                          have HP54 := Kd.R_putg HO_9.out (((rd_T39 (rd_L3 t155 x15_2) 0).f1) : Int) 0
                                          go_wp2_with (first | ((with_reducible refine gate_store (t := 2) (p := 143) rfl ?_); refine store_event (t := 2) (p := 143) (v := ?vo_w55) (w1 := (wc.setCell ⟨go52, (((rd_T39 (rd_L3 t155 x15_2) 0).f1) : Int).toNat, none⟩ (.int .i64 0))) ?hg ?ho ?hn ?hr ?_; (case ho => rfl); (case hg => rfl); (case hn => rfl); (case hr => first | (go_simp; done) | (go_simp; rfl)); intro w55 hw; have hg : wc.grownBy w55 (some go52) := (by rw [hw]; exact HP54.2); have hp_ : Kd.R (Kd.int .i64) 2 w55 w.heap.size (fun _ => True) (.slice (some ⟨go52, 0, none⟩) x9_2.length co53) y173 := (by rw [hw, Ny173.out]; exact HP54.1); clear HP54; have n0_ := Aside0.mk (hp_); have n1_ := Aside0.mk (Kd.S_over' (v := (.slice (some ⟨go52, 0, none⟩) x9_2.length co53)) (by (with_reducible repeat (first | apply Kd.S_alloc | apply Kd.S_drewN | apply Kd.S_drew)); exact HO_13.out) (Kd.R_typed HO_9.out) (by decide) hg); have n2_ := Aside0.mk (Kd.R_over' (v := (.slice (some ⟨go52, 0, none⟩) x9_2.length co53)) (by (with_reducible repeat (first | apply Kd.R_alloc | apply Kd.R_drewN | apply Kd.R_drew)); exact HL164_0.out) (Kd.R_typed HO_9.out) (by decide) hg); have n3_ := Aside0.mk (Kd.R_over' (v := (.slice (some ⟨go52, 0, none⟩) x9_2.length co53)) (by (with_reducible repeat (first | apply Kd.R_alloc | apply Kd.R_drewN | apply Kd.R_drew)); exact HL167_0.out) (Kd.R_typed HO_9.out) (by decide) hg); have n4_ := Aside0.mk (Kd.R_over' (v := (.slice (some ⟨go52, 0, none⟩) x9_2.length co53)) (by (with_reducible repeat (first | apply Kd.R_alloc | apply Kd.R_drewN | apply Kd.R_drew)); exact HL169_0.out) (Kd.R_typed HO_9.out) (by decide) hg); have n5_ := Aside0.mk (Kd.R_over' (v := (.slice (some ⟨go52, 0, none⟩) x9_2.length co53)) (by (with_reducible repeat (first | apply Kd.R_alloc | apply Kd.R_drewN | apply Kd.R_drew)); exact HL171_0.out) (Kd.R_typed HO_9.out) (by decide) hg); have n6_ := Aside0.mk ((by rw [hw]; exact below_set (HB.out) GB52.out : Below w.heap.size w w55)); clear HO_9; clear HO_13; clear HL164_0; clear HL167_0; clear HL169_0; clear HL171_0; clear HB; have HO_9 := n0_; have HO_13 := n1_; have HL164_0 := n2_; have HL167_0 := n3_; have HL169_0 := n4_; have HL171_0 := n5_; have HB := n6_; clear n0_ n1_ n2_ n3_ n4_ n5_ n6_; clear hg hw hp_))
                                          go_roundg kj35
                                          case measure => have := HJ7.out; have := HK2.out; have := HJ35.out; omega
                                          case rel => exact ⟨(y173), (wrap64 (x15_2 + 1)), (by first | rfl | (simp; done) | (simp [*]; done)), H', ⟨by have := HJ7.out; have := HK2.out; have := HJ35.out; omega⟩, ⟨by (with_reducible repeat (first | apply Kd.R_alloc | apply Kd.R_drewN | apply Kd.R_drew)); exact HO_9.out⟩, ⟨by (with_reducible repeat (first | apply Kd.S_alloc | apply Kd.S_drewN | apply Kd.S_drew)); exact HO_13.out⟩, ⟨by repeat (first | (with_reducible first | exact HB.out | apply below_alloc | apply pw_below_drewN | apply below_drew1) | exact HB.out)⟩⟩
                                        · rw [if_neg c51] at H
                                          have c51b0 : (((rd_T39 (rd_L3 t155 x15_2) 2).f1) == (wrap64 ((rd x9_2 ((rd_T39 (rd_L3 t155 x15_2) 0).f1)) * (wrap64 (a2))))) = false := beq_eq_false_iff_ne.mpr c51
                                          have c51b1 : (((rd_T39 (rd_L3 t155 x15_2) 2).f1) != (wrap64 ((rd x9_2 ((rd_T39 (rd_L3 t155 x15_2) 0).f1)) * (wrap64 (a2))))) = true := bne_iff_ne.mpr c51
                                          exact absurd ((Option.some.inj H).trans hr_.out) (by decide)
                                      · rw [if_neg c50] at H
                                        exact absurd H (by simp)
                                    · rw [if_neg c49] at H
                                      have c49b0 : (((rd_T39 (rd_L3 t155 x15_2) 1).f1) == (rd x9_2 ((rd_T39 (rd_L3 t155 x15_2) 0).f1))) = false := beq_eq_false_iff_ne.mpr c49
                                      have c49b1 : (((rd_T39 (rd_L3 t155 x15_2) 1).f1) != (rd x9_2 ((rd_T39 (rd_L3 t155 x15_2) 0).f1))) = true := bne_iff_ne.mpr c49
                                      exact absurd ((Option.some.inj H).trans hr_.out) (by decide)
                                  · rw [if_neg c48] at H
                                    exact absurd H (by simp)
                                · rw [if_neg c47] at H
                                  exact absurd H (by simp)
                              · rw [if_neg c46] at H
                                exact absurd H (by simp)
                            · rw [if_neg c45] at H
                              exact absurd H (by simp)
                          · rw [if_neg c44] at H
                            exact absurd H (by simp)
                        · rw [if_neg c43] at H
                          exact absurd H (by simp)
                · rw [if_neg c35] at H
                  have c35b0 : decide (x15_2 < (t155.length : Int)) = false := decide_eq_false c35
                  (try (have c35b0q_hl159_0 := c35b0; rw [hl159_0] at c35b0q_hl159_0))
                  (try (have c35b0q_hl160_0 := c35b0; rw [hl160_0] at c35b0q_hl160_0))
                  (try (have c35b0q_hl162_0 := c35b0; rw [hl162_0] at c35b0q_hl162_0))
                  (try (have c35b0q_hl164_0 := c35b0; rw [hl164_0] at c35b0q_hl164_0))
                  (try (have c35b0q_hl167_0 := c35b0; rw [hl167_0] at c35b0q_hl167_0))
                  (try (have c35b0q_hl169_0 := c35b0; rw [hl169_0] at c35b0q_hl169_0))
                  (try (have c35b0q_hl171_0 := c35b0; rw [hl171_0] at c35b0q_hl171_0))
                  clear c35
                  have H' := Aside0.mk H
                  clear H
                  obtain ⟨Ao56, co56, eo56⟩ := Kd.S_slice HO_13.out
                  subst eo56
                  go_wp2
                  go_loopg [17] k2 (fun kq v17 w' => ∃ (x17_3 : Int), v17 = .int .i64 x17_3 ∧ Aside0 (law20_AggJoins.l2 kq t139 ji5 x9_2 x17_3 = some r) ∧ Aside0 (kq ≤ k2) ∧ Aside0 (Kd.R (Kd.int .i64) 2 w' w.heap.size (fun _ => True) v141 x9_2) ∧ Aside0 (Below w.heap.size w w'))
                  case atStart => exact ⟨(0), (by first | rfl | (simp; done) | (simp [*]; done)), H', ⟨Nat.le_refl _⟩, ⟨by (with_reducible repeat (first | apply Kd.R_alloc | apply Kd.R_drewN | apply Kd.R_drew)); exact HO_9.out⟩, ⟨by repeat (first | (with_reducible first | exact HB.out | apply below_alloc | apply pw_below_drewN | apply below_drew1) | exact HB.out)⟩⟩
                  case round =>
                    clear H'
                    try clear c1
                    try clear p1
                    try clear q1
                    try clear hx1
                    try clear qi1
                    try clear c2
                    try clear p2
                    try clear c3
                    try clear c4
                    try clear c5
                    try clear p5
                    try clear q5
                    try clear hx5
                    try clear hf5
                    try clear c6
                    try clear c6b0
                    try clear c6b1
                    try clear p6
                    try clear c7
                    try clear c7b0
                    try clear c7b1
                    try clear c8
                    try clear c9
                    try clear c12
                    try clear c12b0
                    try clear c13
                    try clear c13b0
                    try clear c14
                    try clear c14b0
                    try clear p14
                    try clear q14
                    try clear hx14
                    try clear c15
                    try clear c15b0
                    try clear c15b1
                    try clear p15
                    try clear q15
                    try clear hx15
                    try clear c16
                    try clear p16
                    try clear q16
                    try clear hx16
                    try clear qi16
                    try clear c17
                    try clear c17b0
                    try clear p17
                    try clear q17
                    try clear hx17
                    try clear qi17
                    try clear c18
                    try clear c18b0
                    try clear p19
                    try clear q19
                    try clear hx19
                    try clear hf19
                    try clear c20
                    try clear c29
                    try clear c29b0
                    try clear c29b1
                    try clear c35
                    try clear c35b0
                    try clear c38
                    try clear c38b0
                    try clear c39
                    try clear c39b0
                    try clear c39b1
                    try clear c40
                    try clear c40b0
                    try clear c40b1
                    try clear c41
                    try clear c41b0
                    try clear c42
                    try clear c43
                    try clear c43b0
                    try clear c44
                    try clear c44b0
                    try clear c45
                    try clear c45b0
                    try clear c45b1
                    try clear c46
                    try clear c46b0
                    try clear c47
                    try clear c47b0
                    try clear c48
                    try clear c48b0
                    try clear c48b1
                    try clear c49
                    try clear c49b0
                    try clear c49b1
                    try clear c50
                    try clear c50b0
                    try clear c50b1
                    try clear c51
                    try clear c51b0
                    try clear c51b1
                    try clear p52
                    try clear q52
                    try clear hx52
                    try clear hf52
                    try clear hx143_0
                    try clear hx144_0
                    try clear hx159_0
                    try clear hx160_0
                    try clear hx161_0
                    try clear hx161_1
                    try clear hx161_2
                    try clear hx162_0
                    try clear hx163_0
                    try clear hx163_1
                    try clear hx163_2
                    try clear hx164_0
                    try clear hx165_0
                    try clear hx165_1
                    try clear hx165_2
                    try clear hx166_0
                    try clear hx167_0
                    try clear hx168_0
                    try clear hx168_1
                    try clear hx168_2
                    try clear hx169_0
                    try clear hx170_0
                    try clear hx170_1
                    try clear hx170_2
                    try clear hx171_0
                    try clear hx172_0
                    try clear hx172_1
                    try clear hx172_2
                    try clear hx19_0
                    try clear hx52_0
                    try clear p1
                    try clear p14
                    try clear p143
                    try clear p144
                    try clear p15
                    try clear p159
                    try clear p16
                    try clear p160
                    try clear p161
                    try clear p162
                    try clear p163
                    try clear p164
                    try clear p165
                    try clear p166
                    try clear p167
                    try clear p168
                    try clear p169
                    try clear p170
                    try clear p171
                    try clear p172
                    try clear p19
                    try clear p2
                    try clear p52
                    try clear p6
                    try clear q1
                    try clear q14
                    try clear q143
                    try clear q144
                    try clear q15
                    try clear q159
                    try clear q16
                    try clear q160
                    try clear q161
                    try clear q162
                    try clear q163
                    try clear q164
                    try clear q165
                    try clear q166
                    try clear q167
                    try clear q168
                    try clear q169
                    try clear q170
                    try clear q171
                    try clear q172
                    try clear q19
                    try clear q52
                    obtain ⟨x17_3, rfl, HA, HK3, HO_9, HB⟩ := hrel
                    cases gk with
                    | zero => exact absurd HA.out (by simp [law20_AggJoins.l2])
                    | succ k3 =>
                      have H := HA.out
                      clear HA
                      simp only [law20_AggJoins.l2] at H
                      by_cases c57 : x17_3 < ji5
                      · rw [if_pos c57] at H
                        have c57b0 : decide (x17_3 < ji5) = true := decide_eq_true c57
                        clear c57
                        by_cases c58 : 0 ≤ x17_3
                        · rw [if_pos c58] at H
                          have c58b0 : decide (0 ≤ x17_3) = true := decide_eq_true c58
                          clear c58
                          by_cases c59 : x17_3 < (x9_2.length : Int)
                          · rw [if_pos c59] at H
                            have c59b0 : decide (x17_3 < (x9_2.length : Int)) = true := decide_eq_true c59
                            (try (have c59b0q_hl159_0 := c59b0; rw [hl159_0] at c59b0q_hl159_0))
                            (try (have c59b0q_hl160_0 := c59b0; rw [hl160_0] at c59b0q_hl160_0))
                            (try (have c59b0q_hl162_0 := c59b0; rw [hl162_0] at c59b0q_hl162_0))
                            (try (have c59b0q_hl164_0 := c59b0; rw [hl164_0] at c59b0q_hl164_0))
                            (try (have c59b0q_hl167_0 := c59b0; rw [hl167_0] at c59b0q_hl167_0))
                            (try (have c59b0q_hl169_0 := c59b0; rw [hl169_0] at c59b0q_hl169_0))
                            (try (have c59b0q_hl171_0 := c59b0; rw [hl171_0] at c59b0q_hl171_0))
                            clear c59
                            by_cases c60 : (rd x9_2 x17_3) = 0
                            · rw [if_pos c60] at H
                              have c60b0 : ((rd x9_2 x17_3) == 0) = true := beq_iff_eq.mpr c60
                              have c60b1 : ((rd x9_2 x17_3) != 0) = false := bne_eq_false_iff_eq.mpr c60
                              clear c60
                              have H' := Aside0.mk H
                              clear H
                              obtain ⟨Ao61, co61, eo61⟩ := Kd.R_slice HO_9.out
                              subst eo61
                              have p174 : 0 ≤ (x17_3 : Int) := of_decide_eq_true (by first | (with_reducible assumption) | assumption)
                              have q174 : x17_3 < (x9_2.length : Int) := of_decide_eq_true (by first | (with_reducible assumption) | assumption)
                              obtain ⟨ad174, e174, hx174_0⟩ := Kd.at_int (Kd.R_reads' HO_9.out).2.2 x17_3 p174 q174
                              cases e174
                              replace p174 := eq_true p174
                              replace q174 := eq_true q174
                              go_wp2
                              go_roundg k3
                              case measure => have := HJ7.out; have := HK2.out; have := HK3.out; omega
                              case rel => exact ⟨(wrap64 (x17_3 + 1)), (by first | rfl | (simp; done) | (simp [*]; done)), H', ⟨by have := HJ7.out; have := HK2.out; have := HK3.out; omega⟩, ⟨by (with_reducible repeat (first | apply Kd.R_alloc | apply Kd.R_drewN | apply Kd.R_drew)); exact HO_9.out⟩, ⟨by repeat (first | (with_reducible first | exact HB.out | apply below_alloc | apply pw_below_drewN | apply below_drew1) | exact HB.out)⟩⟩
                            · rw [if_neg c60] at H
                              have c60b0 : ((rd x9_2 x17_3) == 0) = false := beq_eq_false_iff_ne.mpr c60
                              have c60b1 : ((rd x9_2 x17_3) != 0) = true := bne_iff_ne.mpr c60
                              exact absurd ((Option.some.inj H).trans hr_.out) (by decide)
                          · rw [if_neg c59] at H
                            exact absurd H (by simp)
                        · rw [if_neg c58] at H
                          exact absurd H (by simp)
                      · rw [if_neg c57] at H
                        have c57b0 : decide (x17_3 < ji5) = false := decide_eq_false c57
                        clear c57
                        obtain rfl := Option.some.inj H
                        go_wp2
                        go_ret
                        exact ⟨by first | rfl | (simp [errW_none, errW_some] <;> rfl) | (simp only [← hji5]; first | rfl | (simp [errW_none, errW_some] <;> rfl)) | (simp [*, errW_none, errW_some] <;> rfl), by repeat (first | (with_reducible first | exact HB.out | apply below_alloc | apply pw_below_drewN | apply below_drew1) | exact HB.out)⟩
          · rw [if_neg c29] at H
            have c29b0 : (t156 == 0) = false := beq_eq_false_iff_ne.mpr c29
            have c29b1 : (t156 != 0) = true := bne_iff_ne.mpr c29
            exact absurd ((Option.some.inj H).trans hr_.out) (by decide)
    · rw [if_neg c7] at H
      exact absurd H (by simp)
  · rw [if_neg c6] at H
    exact absurd H (by simp)

/-- THE ONE PURE STATEMENT of law20_AggJoins: yours. -/
def law20_AggJoins.Pure : Prop := ∀ (a0 : Int) (l1 : List Int) (a2 : Int), (Lit.int .u8 a0).wf = true → l1.length ≤ maxLen → l1.length * 1 ≤ 140737488351232 → (∀ x ∈ l1, (Lit.int .u8 x).wf = true) → (Lit.int .i32 a2).wf = true → ∃ k, law20_AggJoins.f k a0 l1 a2 = some true
theorem law20_AggJoins.walk (P : law20_AggJoins.Pure) (a0 : Int) (a1 : Option Addr) (len1 cap1 : Nat) (z1 : List Int) (a2 : Int) (w : World) (w0 : (Lit.int .u8 a0).wf = true) (w1 : (a1 = none ∧ len1 = 0 ∧ cap1 = 0 ∧ z1 = []) ∨ ∃ x, a1 = some x ∧ len1 ≤ cap1 ∧ cap1 ≤ maxLen ∧ z1.length = cap1 ∧ (∀ i, i < z1.length → w.cell? (x.add i) = some (.int .u8 (z1.getD i 0))) ∧ ∀ n ∈ z1, (Lit.int .u8 n).wf = true) (y1 : len1 * 1 ≤ 140737488351232) (w2 : (Lit.int .i32 a2).wf = true) :
    Calls Try.prog 8 #[.int .u8 a0, .slice a1 len1 cap1, .int .i32 a2] w fun e w' => e = .returned (.bool true) ∧ Below w.heap.size w w' := by
  obtain ⟨l1, rfl, hr1, hm1, hw1, hc1⟩ := ReadsInt.ofRowC w1
  obtain ⟨k, h⟩ := P a0 l1 a2 w0 hm1 y1 hw1 w2
  refine (law20_AggJoins.calls k a0 _ _ l1 a2 true w (Kd.C_of_reads (d := (0 : Int)) (h1 := fun _ => rfl) hr1) hc1 ⟨rfl⟩ h).mono ?_
  rintro e w' ⟨rfl, hd⟩
  exact ⟨rfl, hd⟩

end Go.Proofs.Ytedgfhijkkedaaa.PAgg
