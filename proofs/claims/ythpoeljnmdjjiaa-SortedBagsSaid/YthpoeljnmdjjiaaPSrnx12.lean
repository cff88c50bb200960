-- Written by this session's program wip/gprint/gprint.py, over the kit's print, with given functions; no text of print.sh's.
import Derived.Test.YthpoeljnmdjjiaaPSrnx0
import Derived.Test.YthpoeljnmdjjiaaPSrnx7
import Derived.Test.YthpoeljnmdjjiaaPSrnx9
import Derived.Test.YthpoeljnmdjjiaaPSrnx11
namespace Go.Proofs.Ythpoeljnmdjjiaa.PSrn
open Go.RowKit Go.Proofs.YthpoeljnmdjjiaaW.PrintWords Go.Proofs.YthpoeljnmdjjiaaW.PrintLast Go.Proofs.YthpoeljnmdjjiaaW.PrintMore
attribute [local go_sem] max2_int min2_int max_two min_two max_three min_three max_four min_four   -- for this text's walks alone
set_option linter.unusedVariables false
set_option linter.unusedSimpArgs false

/-! ### law16_few: function 10 -/
mutual
def law16_few.l0 : Nat → List (List (S28)) → List (List (S28)) → Int → Option ((List (List (S28))))
  | 0, _, _, _ => none
  | k + 1, x0, x3, x4 => if x4 < (x0.length : Int) then (law16_few.j1 k x0 x3 x4 (decide (x4 < 150))) else (law16_few.j1 k x0 x3 x4 false)
def law16_few.j1 : Nat → List (List (S28)) → List (List (S28)) → Int → Bool → Option ((List (List (S28))))
  | 0, _, _, _, _ => none
  | k + 1, x0, x3, x4, x13 => if x13 = true then (if 0 ≤ x4 then (if x4 < (x0.length : Int) then (if ((rd_L3 x0 x4).length : Int) > 9 then (if 9 ≤ ((rd_L3 x0 x4).length : Int) then (if x3.length < 5864062014805 then (law16_few.l0 k x0 (x3 ++ [((rd_L3 x0 x4).take 9)]) (wrap64 (x4 + 1))) else (none)) else (none)) else (if x3.length < 5864062014805 then (law16_few.l0 k x0 (x3 ++ [rd_L3 x0 x4]) (wrap64 (x4 + 1))) else (none))) else (none)) else (none)) else (some x3)
end
def law16_few.f (k : Nat) (l0 : List (List (S28))) : Option ((List (List (S28)))) := law16_few.l0 k l0 ([] : List (List (S28))) 0
theorem law16_few.mono_l : ∀ k, (∀ y0 y1 y2, LeO (law16_few.l0 k y0 y1 y2) (law16_few.l0 (k + 1) y0 y1 y2)) ∧ (∀ y0 y1 y2 y3, LeO (law16_few.j1 k y0 y1 y2 y3) (law16_few.j1 (k + 1) y0 y1 y2 y3))
  | 0 => ⟨fun _ _ _ r h => by simp [law16_few.l0] at h, fun _ _ _ _ r h => by simp [law16_few.j1] at h⟩
  | k + 1 => by
    obtain ⟨ih0, ih1⟩ := law16_few.mono_l k
    refine ⟨?_, ?_⟩
    · intro y0 y1 y2
      unfold law16_few.l0
      repeat' first
      | (with_reducible exact ih0 _ _ _)
      | (with_reducible exact ih1 _ _ _ _)
      | (with_reducible exact LeO.refl _)
      | (with_reducible exact LeO.none _)
      | (with_reducible refine LeO.ite ?_ ?_)
      | (with_reducible refine LeO.bind ?_ (fun _ => ?_))
      | exact ih0 _ _ _
      | exact ih1 _ _ _ _
      | exact LeO.none _
      | refine LeO.ite ?_ ?_
      | refine LeO.bind ?_ (fun _ => ?_)
    · intro y0 y1 y2 y3
      unfold law16_few.j1
      repeat' first
      | (with_reducible exact ih0 _ _ _)
      | (with_reducible exact ih1 _ _ _ _)
      | (with_reducible exact LeO.refl _)
      | (with_reducible exact LeO.none _)
      | (with_reducible refine LeO.ite ?_ ?_)
      | (with_reducible refine LeO.bind ?_ (fun _ => ?_))
      | exact ih0 _ _ _
      | exact ih1 _ _ _ _
      | exact LeO.none _
      | refine LeO.ite ?_ ?_
      | refine LeO.bind ?_ (fun _ => ?_)
theorem law16_few.mono : ∀ a0 k, LeO (law16_few.f k a0) (law16_few.f (k + 1) a0) := by
  intro a0 k
  obtain ⟨ih0, ih1⟩ := law16_few.mono_l k
  unfold law16_few.f
  repeat' first
      | (with_reducible exact ih0 _ _ _)
      | (with_reducible exact ih1 _ _ _ _)
      | (with_reducible exact LeO.refl _)
      | (with_reducible exact LeO.none _)
      | (with_reducible refine LeO.ite ?_ ?_)
      | (with_reducible refine LeO.bind ?_ (fun _ => ?_))
      | exact ih0 _ _ _
      | exact ih1 _ _ _ _
      | exact LeO.none _
      | refine LeO.ite ?_ ?_
      | refine LeO.bind ?_ (fun _ => ?_)
set_option maxHeartbeats 8000000 in
set_option maxRecDepth 100000 in
theorem law16_few.calls (k : Nat) (P0_ : Nat → Prop) (A0 : Option Addr) (c0 : Nat) (l0 : List (List (S28))) (r : List (List (S28))) (w : World) (hs0 : Kd.V (Kd.slice 28 k28) 26 w w.heap.size (fun k_ => P0_ k_) (.slice A0 l0.length c0) l0) (h : law16_few.f k l0 = some r) :
    Calls Try.prog 10 #[.slice A0 l0.length c0] w fun e w' => ∃ v0_ : Value, e = .returned (v0_) ∧ Kd.N (Kd.slice 28 k28) 26 w' w.heap.size (fun k_ => (P0_ k_ ∨ w.heap.size ≤ k_)) v0_ r ∧ Below w.heap.size w w' := by
  have HO0 := Aside0.mk (show Kd.V (Kd.slice 28 k28) 26 w w.heap.size (fun k_ => (P0_ k_ ∨ w.heap.size ≤ k_)) (.slice A0 l0.length c0) l0 from Kd.V_mono hs0 (fun k_ hk => .inl hk))
  have HB := Aside0.mk (Below.refl w.heap.size w)
  have H : (law16_few.l0 k l0 ([] : List (List (S28))) 0) = some r := h
  clear h
  have H' := Aside0.mk H
  clear H
  go_enter Try.func10, Try.ntmps10
  go_wp2
  go_loopg [3, 4] k (fun kq v3 v4 w' => ∃ (x3_1 : List (List (S28))) (x4_1 : Int), v4 = .int .i64 x4_1 ∧ Aside0 (law16_few.l0 kq l0 x3_1 x4_1 = some r) ∧ Aside0 (kq ≤ k) ∧ Aside0 (Kd.V (Kd.slice 28 k28) 26 w' w.heap.size (fun k_ => (P0_ k_ ∨ w.heap.size ≤ k_) ∧ some k_ ≠ (v3 : Value).ownBlock) (.slice A0 l0.length c0) l0) ∧ Aside0 (Kd.N (Kd.slice 28 k28) 26 w' w.heap.size (fun k_ => (P0_ k_ ∨ w.heap.size ≤ k_)) v3 x3_1) ∧ Aside0 (Below w.heap.size w w'))
  case atStart => exact ⟨(([] : List (List (S28)))), (0), (by first | rfl | (simp; done) | (simp [*]; done)), H', ⟨Nat.le_refl _⟩, ⟨by (with_reducible repeat (first | apply Kd.V_alloc | apply Kd.V_drewN | apply Kd.V_drew)); exact Kd.V_mono HO0.out (fun _ hk => ⟨hk, (by simp [Value.ownBlock])⟩)⟩, ⟨by first | exact Kd.S_nil _ _ _ _ _ | exact Kd.N_nil _ _ _ _ _ | exact Kd.V_nil _ _ _ _ _ | exact Kd.Q_nil _ _ _ _ _ | exact Kd.R_nil _ _ _ _ _⟩, ⟨by repeat (first | (with_reducible first | exact HB.out | apply below_alloc | apply pw_below_drewN | apply below_drew1) | exact HB.out)⟩⟩
  case round =>
    clear H'
    try clear c1
    obtain ⟨x3_1, x4_1, rfl, HA, HK1, HO_0, HO_3, HB⟩ := hrel
    cases gk with
    | zero => exact absurd HA.out (by simp [law16_few.l0])
    | succ k1 =>
      have H := HA.out
      clear HA
      simp only [law16_few.l0] at H
      have HC2 := Aside0.mk H
      clear H
      go_upto_region 3 with (fail)
      go_cut [13] (fun v13 wc => ∃ (kq : Nat) (x13_1 : Bool), v13 = .bool x13_1 ∧ Aside0 (law16_few.j1 kq l0 x3_1 x4_1 x13_1 = some r) ∧ Aside0 (kq ≤ k1) ∧ Aside0 (Kd.V (Kd.slice 28 k28) 26 wc w.heap.size (fun k_ => (P0_ k_ ∨ w.heap.size ≤ k_) ∧ some k_ ≠ (u3 : Value).ownBlock) (.slice A0 l0.length c0) l0) ∧ Aside0 (Kd.N (Kd.slice 28 k28) 26 wc w.heap.size (fun k_ => (P0_ k_ ∨ w.heap.size ≤ k_)) u3 x3_1) ∧ Aside0 (Below w.heap.size w wc))
      case first =>
        have H := HC2.out
        clear HC2
        by_cases c3 : x4_1 < (l0.length : Int)
        · rw [if_pos c3] at H
          have c3b0 : decide (x4_1 < (l0.length : Int)) = true := decide_eq_true c3
          clear c3
          (first | rw [c3b0] | (simp only [i64_w, i32_w]; rw [c3b0]) | skip)
          have H' := Aside0.mk H
          clear H
          go_wp2
          go_meet
          case rel => exact ⟨_, (decide (x4_1 < 150)), (by first | rfl | (simp; done) | (simp [*]; done)), H', ⟨by have := HK1.out; first | omega | exact Nat.le_refl _⟩, ⟨by (with_reducible repeat (first | apply Kd.V_alloc | apply Kd.V_drewN | apply Kd.V_drew)); exact HO_0.out⟩, ⟨by (with_reducible repeat (first | apply Kd.N_alloc | apply Kd.N_drewN | apply Kd.N_drew)); exact HO_3.out⟩, ⟨by repeat (first | (with_reducible first | exact HB.out | apply below_alloc | apply pw_below_drewN | apply below_drew1) | exact HB.out)⟩⟩
        · rw [if_neg c3] at H
          have c3b0 : decide (x4_1 < (l0.length : Int)) = false := decide_eq_false c3
          clear c3
          (first | rw [c3b0] | (simp only [i64_w, i32_w]; rw [c3b0]) | skip)
          have H' := Aside0.mk H
          clear H
          go_wp2
          go_meet
          case rel => exact ⟨_, (false), (by first | rfl | (simp; done) | (simp [*]; done)), H', ⟨by have := HK1.out; first | omega | exact Nat.le_refl _⟩, ⟨by (with_reducible repeat (first | apply Kd.V_alloc | apply Kd.V_drewN | apply Kd.V_drew)); exact HO_0.out⟩, ⟨by (with_reducible repeat (first | apply Kd.N_alloc | apply Kd.N_drewN | apply Kd.N_drew)); exact HO_3.out⟩, ⟨by repeat (first | (with_reducible first | exact HB.out | apply below_alloc | apply pw_below_drewN | apply below_drew1) | exact HB.out)⟩⟩
      case rest =>
        clear HC2
        try clear c1
        try clear p2
        try clear c3
        try clear c3b0
        obtain ⟨kq, x13_1, rfl, HA, HJ1, HO_0, HO_3, HB⟩ := hcut
        cases kq with
        | zero => exact absurd HA.out (by simp [law16_few.j1])
        | succ kj1 =>
          have H := HA.out
          clear HA
          simp only [law16_few.j1] at H
          by_cases c4 : x13_1 = true
          · subst c4
            have H1 : (if 0 ≤ x4_1 then (if x4_1 < (l0.length : Int) then (if ((rd_L3 l0 x4_1).length : Int) > 9 then (if 9 ≤ ((rd_L3 l0 x4_1).length : Int) then (if x3_1.length < 5864062014805 then (law16_few.l0 kj1 l0 (x3_1 ++ [((rd_L3 l0 x4_1).take 9)]) (wrap64 (x4_1 + 1))) else (none)) else (none)) else (if x3_1.length < 5864062014805 then (law16_few.l0 kj1 l0 (x3_1 ++ [rd_L3 l0 x4_1]) (wrap64 (x4_1 + 1))) else (none))) else (none)) else (none)) = some r := by rw [if_pos rfl] at H; exact H
            clear H
            have H := H1
            clear H1
            by_cases c5 : 0 ≤ x4_1
            · rw [if_pos c5] at H
              have c5b0 : decide (0 ≤ x4_1) = true := decide_eq_true c5
              clear c5
              by_cases c6 : x4_1 < (l0.length : Int)
              · rw [if_pos c6] at H
                have c6b0 : decide (x4_1 < (l0.length : Int)) = true := decide_eq_true c6
                clear c6
                by_cases c7 : ((rd_L3 l0 x4_1).length : Int) > 9
                · rw [if_pos c7] at H
                  have c7b0 : decide (9 < ((rd_L3 l0 x4_1).length : Int)) = true := decide_eq_true c7
                  have c7b1 : decide (9 < (rd_L3 l0 x4_1).length) = true := decide_eq_true (by omega)
                  clear c7
                  by_cases c8 : 9 ≤ ((rd_L3 l0 x4_1).length : Int)
                  · rw [if_pos c8] at H
                    have c8b0 := eq_true c8
                    have c8b1 : decide (9 ≤ ((rd_L3 l0 x4_1).length : Int)) = true := decide_eq_true c8
                    clear c8
                    obtain ⟨y123, hy123⟩ : ∃ y_ : List (S28), y_ = ((rd_L3 l0 x4_1).take 9) := ⟨_, rfl⟩
                    replace H : (if x3_1.length < 5864062014805 then (law16_few.l0 kj1 l0 (x3_1 ++ [y123]) (wrap64 (x4_1 + 1))) else (none)) = some r := by first | (rw [hy123]; with_reducible exact H) | (have H2_ := (Option.bind_some _ _).symm.trans H; rw [hy123]; with_reducible exact H2_) | (have H2_ := (Option.bind_some _ _).symm.trans H; with_reducible exact H2_) | with_reducible exact H | (rw [hy123]; exact H) | exact H
                    have Ny123 := Aside0.mk hy123
                    clear hy123
                    by_cases c9 : x3_1.length < 5864062014805
                    · rw [if_pos c9] at H
                      have LMc9 := Aside0.mk c9
                      clear c9
                      obtain ⟨y128, hy128⟩ : ∃ y_ : List (List (S28)), y_ = (x3_1 ++ [y123]) := ⟨_, rfl⟩
                      replace H : (law16_few.l0 kj1 l0 y128 (wrap64 (x4_1 + 1))) = some r := by first | (rw [hy128]; with_reducible exact H) | (have H2_ := (Option.bind_some _ _).symm.trans H; rw [hy128]; with_reducible exact H2_) | (have H2_ := (Option.bind_some _ _).symm.trans H; with_reducible exact H2_) | with_reducible exact H | (rw [hy128]; exact H) | exact H
                      have Ny128 := Aside0.mk hy128
                      clear hy128
                      have H' := Aside0.mk H
                      clear H
                      have p122 : 0 ≤ (x4_1 : Int) := of_decide_eq_true (by first | (with_reducible assumption) | assumption)
                      have q122 : x4_1 < (l0.length : Int) := of_decide_eq_true (by first | (with_reducible assumption) | assumption)
                      obtain ⟨ad122, A122_0, c122_0, e122, hx122_0, hl122_0, hi122_0⟩ := at_L3 (Kd.V_reads' HO_0.out).2.2 x4_1 p122 q122
                      cases e122
                      obtain ⟨ce122, hce122, hMe122, hcc122⟩ := Kd.V_get HO_0.out [] x4_1 p122 (by first | exact q122 | exact of_decide_eq_true (by first | (with_reducible assumption) | assumption) | (have e_ := (Kd.V_reads' HO_0.out).1; omega))
                      obtain ⟨ua122_0, uc122_0, rfl, ul122_0, ge122_0⟩ := Kd.FK_slice_open hMe122
                      have hv122_0 := hcc122 0 _ rfl
                      rw [Nat.add_zero, show ((Kd.slice 28 k28)).sz = 1 from rfl, Nat.mul_one] at hv122_0
                      replace hv122_0 := Option.some.inj (hv122_0.symm.trans hx122_0)
                      injection hv122_0 with hva_ hvn_ hvc_
                      rw [hva_] at ge122_0
                      rw [hvc_] at ul122_0
                      have HL122_0 := Aside0.mk (show Kd.V k28 28 _ w.heap.size _ _ (rd_L3 l0 x4_1) from Kd.V_mk ul122_0 ge122_0)
                      clear hva_ hvn_ hvc_ ge122_0 ul122_0
                      clear hcc122 hce122
                      have HR122_0 := Aside0.mk hi122_0
                      have HC122_0 := Aside0.mk hl122_0
                      clear hi122_0 hl122_0
                      replace p122 := eq_true p122
                      replace q122 := eq_true q122
                      have q10 : (9 : Int) ≤ (((rd_L3 l0 x4_1).length : Int) : Int) := of_decide_eq_true (by first | (with_reducible assumption) | assumption)
                      obtain ⟨i010, hi010, _, hsz10, _⟩ := info_parts info28
                      have hroom10 : (rd_L3 l0 x4_1).length ≤ c122_0 := HC122_0.out
                      have hC10 : Kd.F k28 _ _ A122_0 (rd_L3 l0 x4_1).length (rd_L3 l0 x4_1) := (Kd.V_at (base := w.heap.size) HL122_0.out).2.2
                      have hcut10 := cut_to (P := Try.prog) 26 28 .i64 Try.underlying26 hi010 A122_0 (rd_L3 l0 x4_1).length c122_0 9 (by omega) q10 hroom10
                      have hr10 := Kd.F_take (m := 9) hC10 (by omega)
                      have hy10 : y123.length = (9 : Int).toNat := (by rw [Ny123.out, List.length_take]; omega)
                      rw [← Ny123.out] at hr10
                      rw [← hy10] at hcut10
                      have HO127 := Aside0.mk (show Kd.V k28 28 _ w.heap.size _ (.slice A122_0 y123.length c122_0) y123 from Kd.V_mk (by omega) hr10)
                      have HC127 := Aside0.mk (show y123.length ≤ c122_0 from by omega)
                      clear hr10 hC10 hroom10 hi010 hsz10
                      have KY10 := Aside0.mk hy10
                      clear hy10
                      replace q10 := eq_true q10
                      go_wp2_with (first | ((with_reducible refine gate_builtin (b := .append) (xs := #[.tmp 25, .tmp 27]) rfl ?_); at_builtin; refine Kd.N_append (Kd.slice 28 k28) (w0 := w) w.heap.size rfl (.tmp 25) (.tmp 27) 22 26 (.slice none 0 0) 24 rfl Try.underlying22 info26 rfl (by decide) (by omega) u3 x3_1 y123 [.slice A122_0 y123.length c122_0] (fun k_ => (P0_ k_ ∨ w.heap.size ≤ k_)) (fun k_ => ((fun k_ => (P0_ k_ ∨ w.heap.size ≤ k_))) k_ ∧ some k_ ≠ (u3 : Value).ownBlock) rfl rfl ?aP (fun _ hk => hk) ?aF ?aO ?aB ?aS ?aL ?_; (case aP => exact (Kd.FK_slice_mk (Kd.V_reads' (Kd.V_mono (ok' := (fun k_ => ((fun k_ => (P0_ k_ ∨ w.heap.size ≤ k_))) k_ ∧ some k_ ≠ (u3 : Value).ownBlock)) (HO127.out) (fun k_ hk => ⟨hk.1, hk.2⟩))).2.1 (Kd.V_F (Kd.V_mono (ok' := (fun k_ => ((fun k_ => (P0_ k_ ∨ w.heap.size ≤ k_))) k_ ∧ some k_ ≠ (u3 : Value).ownBlock)) (HO127.out) (fun k_ hk => ⟨hk.1, hk.2⟩))))); (case aB => exact (by repeat (first | (with_reducible first | exact HB.out | apply below_alloc | apply pw_below_drewN | apply below_drew1) | exact HB.out))); (case aF => exact (fun k_ hk => (.inr (Nat.le_trans (below_size (by repeat (first | (with_reducible first | exact HB.out | apply below_alloc | apply pw_below_drewN | apply below_drew1) | exact HB.out))) hk)))); (case aO => exact (by (with_reducible repeat (first | apply Kd.N_alloc | apply Kd.N_drewN | apply Kd.N_drew)); exact HO_3.out)); (case aS => exact (below_size (by repeat (first | (with_reducible first | exact HB.out | apply below_alloc | apply pw_below_drewN | apply below_drew1) | exact HB.out)))); (case aL => have := LMc9.out; omega); intro v129 w11 ho hb hg hat; rw [← Ny128.out] at ho; have n0_ := Aside0.mk (Kd.V_afterv (ok := (fun k_ => (P0_ k_ ∨ w.heap.size ≤ k_))) (by (with_reducible repeat (first | apply Kd.V_alloc | apply Kd.V_drewN | apply Kd.V_drew)); exact HO_0.out) hg hat); have n1_ := Aside0.mk (Kd.V_afterv (ok := (fun k_ => (P0_ k_ ∨ w.heap.size ≤ k_))) (by (with_reducible repeat (first | apply Kd.V_alloc | apply Kd.V_drewN | apply Kd.V_drew)); exact HL122_0.out) hg hat); have n2_ := Aside0.mk (Kd.V_afterv (ok := (fun k_ => (P0_ k_ ∨ w.heap.size ≤ k_))) (by (with_reducible repeat (first | apply Kd.V_alloc | apply Kd.V_drewN | apply Kd.V_drew)); exact HO127.out) hg hat); have n3_ := Aside0.mk (hb); have n4_ := Aside0.mk (ho); clear HO_0; clear HL122_0; clear HO127; clear HB; clear HO_3; have HO_0 := n0_; have HL122_0 := n1_; have HO127 := n2_; have HB := n3_; have HO130 := n4_; clear n0_ n1_ n2_ n3_ n4_; clear ho hb hg hat))
                      go_roundg kj1
                      case measure => have := HK1.out; have := HJ1.out; omega
                      case rel => exact ⟨(y128), (wrap64 (x4_1 + 1)), (by first | rfl | (simp; done) | (simp [*]; done)), H', ⟨by have := HK1.out; have := HJ1.out; omega⟩, ⟨by (with_reducible repeat (first | apply Kd.V_alloc | apply Kd.V_drewN | apply Kd.V_drew)); exact HO_0.out⟩, ⟨by (with_reducible repeat (first | apply Kd.N_alloc | apply Kd.N_drewN | apply Kd.N_drew)); exact HO130.out⟩, ⟨by repeat (first | (with_reducible first | exact HB.out | apply below_alloc | apply pw_below_drewN | apply below_drew1) | exact HB.out)⟩⟩
                    · rw [if_neg c9] at H
                      exact absurd H (by simp)
                  · rw [if_neg c8] at H
                    exact absurd H (by simp)
                · rw [if_neg c7] at H
                  have c7b0 : decide (9 < ((rd_L3 l0 x4_1).length : Int)) = false := decide_eq_false c7
                  (try (have c7b0q_hl122_0 := c7b0; rw [hl122_0] at c7b0q_hl122_0))
                  have c7b1 : decide (9 < (rd_L3 l0 x4_1).length) = false := decide_eq_false (by omega)
                  (try (have c7b1q_hl122_0 := c7b1; rw [hl122_0] at c7b1q_hl122_0))
                  clear c7
                  by_cases c12 : x3_1.length < 5864062014805
                  · rw [if_pos c12] at H
                    have LMc12 := Aside0.mk c12
                    clear c12
                    obtain ⟨y131, hy131⟩ : ∃ y_ : List (List (S28)), y_ = (x3_1 ++ [rd_L3 l0 x4_1]) := ⟨_, rfl⟩
                    replace H : (law16_few.l0 kj1 l0 y131 (wrap64 (x4_1 + 1))) = some r := by first | (rw [hy131]; with_reducible exact H) | (have H2_ := (Option.bind_some _ _).symm.trans H; rw [hy131]; with_reducible exact H2_) | (have H2_ := (Option.bind_some _ _).symm.trans H; with_reducible exact H2_) | with_reducible exact H | (rw [hy131]; exact H) | exact H
                    have Ny131 := Aside0.mk hy131
                    clear hy131
                    have H' := Aside0.mk H
                    clear H
                    have p122 : 0 ≤ (x4_1 : Int) := of_decide_eq_true (by first | (with_reducible assumption) | assumption)
                    have q122 : x4_1 < (l0.length : Int) := of_decide_eq_true (by first | (with_reducible assumption) | assumption)
                    obtain ⟨ad122, A122_0, c122_0, e122, hx122_0, hl122_0, hi122_0⟩ := at_L3 (Kd.V_reads' HO_0.out).2.2 x4_1 p122 q122
                    cases e122
                    obtain ⟨ce122, hce122, hMe122, hcc122⟩ := Kd.V_get HO_0.out [] x4_1 p122 (by first | exact q122 | exact of_decide_eq_true (by first | (with_reducible assumption) | assumption) | (have e_ := (Kd.V_reads' HO_0.out).1; omega))
                    obtain ⟨ua122_0, uc122_0, rfl, ul122_0, ge122_0⟩ := Kd.FK_slice_open hMe122
                    have hv122_0 := hcc122 0 _ rfl
                    rw [Nat.add_zero, show ((Kd.slice 28 k28)).sz = 1 from rfl, Nat.mul_one] at hv122_0
                    replace hv122_0 := Option.some.inj (hv122_0.symm.trans hx122_0)
                    injection hv122_0 with hva_ hvn_ hvc_
                    rw [hva_] at ge122_0
                    rw [hvc_] at ul122_0
                    have HL122_0 := Aside0.mk (show Kd.V k28 28 _ w.heap.size _ _ (rd_L3 l0 x4_1) from Kd.V_mk ul122_0 ge122_0)
                    clear hva_ hvn_ hvc_ ge122_0 ul122_0
                    clear hcc122 hce122
                    have HR122_0 := Aside0.mk hi122_0
                    have HC122_0 := Aside0.mk hl122_0
                    clear hi122_0 hl122_0
                    replace p122 := eq_true p122
                    replace q122 := eq_true q122
                    go_wp2_with (first | ((with_reducible refine gate_builtin (b := .append) (xs := #[.tmp 25, .tmp 27]) rfl ?_); at_builtin; refine Kd.N_append (Kd.slice 28 k28) (w0 := w) w.heap.size rfl (.tmp 25) (.tmp 27) 22 26 (.slice none 0 0) 24 rfl Try.underlying22 info26 rfl (by decide) (by omega) u3 x3_1 (rd_L3 l0 x4_1) [.slice A122_0 (rd_L3 l0 x4_1).length c122_0] (fun k_ => (P0_ k_ ∨ w.heap.size ≤ k_)) (fun k_ => ((fun k_ => (P0_ k_ ∨ w.heap.size ≤ k_))) k_ ∧ some k_ ≠ (u3 : Value).ownBlock) rfl rfl ?aP (fun _ hk => hk) ?aF ?aO ?aB ?aS ?aL ?_; (case aP => exact (Kd.FK_slice_mk (Kd.V_reads' (Kd.V_mono (ok' := (fun k_ => ((fun k_ => (P0_ k_ ∨ w.heap.size ≤ k_))) k_ ∧ some k_ ≠ (u3 : Value).ownBlock)) (HL122_0.out) (fun k_ hk => ⟨hk.1, hk.2⟩))).2.1 (Kd.V_F (Kd.V_mono (ok' := (fun k_ => ((fun k_ => (P0_ k_ ∨ w.heap.size ≤ k_))) k_ ∧ some k_ ≠ (u3 : Value).ownBlock)) (HL122_0.out) (fun k_ hk => ⟨hk.1, hk.2⟩))))); (case aB => exact (by repeat (first | (with_reducible first | exact HB.out | apply below_alloc | apply pw_below_drewN | apply below_drew1) | exact HB.out))); (case aF => exact (fun k_ hk => (.inr (Nat.le_trans (below_size (by repeat (first | (with_reducible first | exact HB.out | apply below_alloc | apply pw_below_drewN | apply below_drew1) | exact HB.out))) hk)))); (case aO => exact (by (with_reducible repeat (first | apply Kd.N_alloc | apply Kd.N_drewN | apply Kd.N_drew)); exact HO_3.out)); (case aS => exact (below_size (by repeat (first | (with_reducible first | exact HB.out | apply below_alloc | apply pw_below_drewN | apply below_drew1) | exact HB.out)))); (case aL => have := LMc12.out; omega); intro v132 w13 ho hb hg hat; rw [← Ny131.out] at ho; have n0_ := Aside0.mk (Kd.V_afterv (ok := (fun k_ => (P0_ k_ ∨ w.heap.size ≤ k_))) (by (with_reducible repeat (first | apply Kd.V_alloc | apply Kd.V_drewN | apply Kd.V_drew)); exact HO_0.out) hg hat); have n1_ := Aside0.mk (Kd.V_afterv (ok := (fun k_ => (P0_ k_ ∨ w.heap.size ≤ k_))) (by (with_reducible repeat (first | apply Kd.V_alloc | apply Kd.V_drewN | apply Kd.V_drew)); exact HL122_0.out) hg hat); have n2_ := Aside0.mk (hb); have n3_ := Aside0.mk (ho); clear HO_0; clear HL122_0; clear HB; clear HO_3; have HO_0 := n0_; have HL122_0 := n1_; have HB := n2_; have HO133 := n3_; clear n0_ n1_ n2_ n3_; clear ho hb hg hat))
                    go_roundg kj1
                    case measure => have := HK1.out; have := HJ1.out; omega
                    case rel => exact ⟨(y131), (wrap64 (x4_1 + 1)), (by first | rfl | (simp; done) | (simp [*]; done)), H', ⟨by have := HK1.out; have := HJ1.out; omega⟩, ⟨by (with_reducible repeat (first | apply Kd.V_alloc | apply Kd.V_drewN | apply Kd.V_drew)); exact HO_0.out⟩, ⟨by (with_reducible repeat (first | apply Kd.N_alloc | apply Kd.N_drewN | apply Kd.N_drew)); exact HO133.out⟩, ⟨by repeat (first | (with_reducible first | exact HB.out | apply below_alloc | apply pw_below_drewN | apply below_drew1) | exact HB.out)⟩⟩
                  · rw [if_neg c12] at H
                    exact absurd H (by simp)
              · rw [if_neg c6] at H
                exact absurd H (by simp)
            · rw [if_neg c5] at H
              exact absurd H (by simp)
          · replace c4 := Bool.eq_false_iff.mpr c4
            subst c4
            have H1 : (some x3_1) = some r := by rw [if_neg (show ¬ (false = true) by decide)] at H; exact H
            clear H
            have H := H1
            clear H1
            obtain rfl := Option.some.inj H
            go_wp2
            go_ret
            exact ⟨_, by first | rfl | (simp [errW_none, errW_some] <;> rfl) | (simp [*, errW_none, errW_some] <;> rfl), by (with_reducible repeat (first | apply Kd.N_alloc | apply Kd.N_drewN | apply Kd.N_drew)); exact HO_3.out, by repeat (first | (with_reducible first | exact HB.out | apply below_alloc | apply pw_below_drewN | apply below_drew1) | exact HB.out)⟩

/-! ### law16_SortedBags: function 4 -/
mutual
def law16_SortedBags.j0 : Nat → List Int → Int → Bool → List (List (S28)) → Bool → Int → Int → ByteArray → Option (Bool)
  | 0, _, _, _, _, _, _, _, _ => none
  | k + 1, x1, x2, x9, x10, x27, x135000, x135001, x135002 => if x27 = true then (some x9) else (law16_SortedBags.l0 k x1 x2 x9 x10 ([] : List (List (S28))) (wrap64 ((x10.length : Int) - 1)) x135000 x135001 x135002)
def law16_SortedBags.l0 : Nat → List Int → Int → Bool → List (List (S28)) → List (List (S28)) → Int → Int → Int → ByteArray → Option (Bool)
  | 0, _, _, _, _, _, _, _, _, _ => none
  | k + 1, x1, x2, x9, x10, x11, x12, x135000, x135001, x135002 => if x12 ≥ 0 then (if 0 ≤ x12 then (if x12 < (x10.length : Int) then (if x11.length < 5864062014805 then (law16_SortedBags.l0 k x1 x2 x9 x10 (x11 ++ [rd_L3 x10 x12]) (wrap64 (x12 - 1)) x135000 x135001 x135002) else (none)) else (none)) else (none)) else (if (x10.length : Int) = 0 then (none) else (law16_SortedBags.l1 k x1 x9 x10 x11 (Int.tmod (wrap64 (x2)) (x10.length : Int)) ([] : List (List (S28))) 0 x135000 x135001 x135002))
def law16_SortedBags.l1 : Nat → List Int → Bool → List (List (S28)) → List (List (S28)) → Int → List (List (S28)) → Int → Int → Int → ByteArray → Option (Bool)
  | 0, _, _, _, _, _, _, _, _, _, _ => none
  | k + 1, x1, x9, x10, x11, x13, x14, x15, x135000, x135001, x135002 => if x15 < (x10.length : Int) then ((some (([] : List (S28)) : List (S28))).bind fun y143 => (if 0 ≤ x15 then (if y143.length + (rd_L3 x10 x15).length < 4398046511104 then ((some (y143 ++ (rd_L3 x10 x15) : List (S28))).bind fun y147 => (if x15 = x13 then (if y147.length < 4398046511104 then (if x14.length < 5864062014805 then (law16_SortedBags.l1 k x1 x9 x10 x11 x13 (x14 ++ [(y147 ++ [(⟨x135000, x135001, x135002⟩ : S28)])]) (wrap64 (x15 + 1)) x135000 x135001 x135002) else (none)) else (none)) else (if x14.length < 5864062014805 then (law16_SortedBags.l1 k x1 x9 x10 x11 x13 (x14 ++ [y147]) (wrap64 (x15 + 1)) x135000 x135001 x135002) else (none)))) else (none)) else (none))) else (if x9 = true then ((sorted_Bag.f x10 x11).bind fun t159 => (if t159 = true then ((sorted_By.f x10 x1).bind fun t160 => ((sorted_Bag.f x11 t160).bind fun t163 => (if t163 = true then ((sorted_Bag.f x10 x14).bind fun t164 => (if t164 = true then (some false) else (if 1 ≤ (x10.length : Int) then ((sorted_Bag.f x10 (x10.drop 1)).bind fun t170 => (some (!t170))) else (none)))) else (some false)))) else (some false))) else (some false))
end
def law16_SortedBags.f (k : Nat) (l0 : List (List (S28))) (l1 : List Int) (a2 : Int) (a3_0 : Int) (a3_1 : Int) (a3_2 : ByteArray) : Option (Bool) := (law16_shown.f).bind fun t135 => ((law16_few.f k l0).bind fun t136 => (if (l1.length : Int) > 9 then (law16_SortedBags.j0 k l1 a2 t135 t136 true a3_0 a3_1 a3_2) else (law16_SortedBags.j0 k l1 a2 t135 t136 ((t136.length : Int) == 0) a3_0 a3_1 a3_2)))
theorem law16_SortedBags.mono_l : ∀ k, (∀ y0 y1 y2 y3 y4 y5 y6 y7, LeO (law16_SortedBags.j0 k y0 y1 y2 y3 y4 y5 y6 y7) (law16_SortedBags.j0 (k + 1) y0 y1 y2 y3 y4 y5 y6 y7)) ∧ (∀ y0 y1 y2 y3 y4 y5 y6 y7 y8, LeO (law16_SortedBags.l0 k y0 y1 y2 y3 y4 y5 y6 y7 y8) (law16_SortedBags.l0 (k + 1) y0 y1 y2 y3 y4 y5 y6 y7 y8)) ∧ (∀ y0 y1 y2 y3 y4 y5 y6 y7 y8 y9, LeO (law16_SortedBags.l1 k y0 y1 y2 y3 y4 y5 y6 y7 y8 y9) (law16_SortedBags.l1 (k + 1) y0 y1 y2 y3 y4 y5 y6 y7 y8 y9))
  | 0 => ⟨fun _ _ _ _ _ _ _ _ r h => by simp [law16_SortedBags.j0] at h, fun _ _ _ _ _ _ _ _ _ r h => by simp [law16_SortedBags.l0] at h, fun _ _ _ _ _ _ _ _ _ _ r h => by simp [law16_SortedBags.l1] at h⟩
  | k + 1 => by
    obtain ⟨ih0, ih1, ih2⟩ := law16_SortedBags.mono_l k
    refine ⟨?_, ?_, ?_⟩
    · intro y0 y1 y2 y3 y4 y5 y6 y7
      unfold law16_SortedBags.j0
      repeat' first
      | (with_reducible exact ih0 _ _ _ _ _ _ _ _)
      | (with_reducible exact ih1 _ _ _ _ _ _ _ _ _)
      | (with_reducible exact ih2 _ _ _ _ _ _ _ _ _ _)
      | (with_reducible exact law16_few.mono _ _)
      | (with_reducible exact LeO.refl _)
      | (with_reducible exact LeO.none _)
      | (with_reducible refine LeO.ite ?_ ?_)
      | (with_reducible refine LeO.bind ?_ (fun _ => ?_))
      | exact ih0 _ _ _ _ _ _ _ _
      | exact ih1 _ _ _ _ _ _ _ _ _
      | exact ih2 _ _ _ _ _ _ _ _ _ _
      | exact law16_few.mono _ _
      | exact LeO.none _
      | refine LeO.ite ?_ ?_
      | refine LeO.bind ?_ (fun _ => ?_)
    · intro y0 y1 y2 y3 y4 y5 y6 y7 y8
      unfold law16_SortedBags.l0
      repeat' first
      | (with_reducible exact ih0 _ _ _ _ _ _ _ _)
      | (with_reducible exact ih1 _ _ _ _ _ _ _ _ _)
      | (with_reducible exact ih2 _ _ _ _ _ _ _ _ _ _)
      | (with_reducible exact law16_few.mono _ _)
      | (with_reducible exact LeO.refl _)
      | (with_reducible exact LeO.none _)
      | (with_reducible refine LeO.ite ?_ ?_)
      | (with_reducible refine LeO.bind ?_ (fun _ => ?_))
      | exact ih0 _ _ _ _ _ _ _ _
      | exact ih1 _ _ _ _ _ _ _ _ _
      | exact ih2 _ _ _ _ _ _ _ _ _ _
      | exact law16_few.mono _ _
      | exact LeO.none _
      | refine LeO.ite ?_ ?_
      | refine LeO.bind ?_ (fun _ => ?_)
    · intro y0 y1 y2 y3 y4 y5 y6 y7 y8 y9
      unfold law16_SortedBags.l1
      repeat' first
      | (with_reducible exact ih0 _ _ _ _ _ _ _ _)
      | (with_reducible exact ih1 _ _ _ _ _ _ _ _ _)
      | (with_reducible exact ih2 _ _ _ _ _ _ _ _ _ _)
      | (with_reducible exact law16_few.mono _ _)
      | (with_reducible exact LeO.refl _)
      | (with_reducible exact LeO.none _)
      | (with_reducible refine LeO.ite ?_ ?_)
      | (with_reducible refine LeO.bind ?_ (fun _ => ?_))
      | exact ih0 _ _ _ _ _ _ _ _
      | exact ih1 _ _ _ _ _ _ _ _ _
      | exact ih2 _ _ _ _ _ _ _ _ _ _
      | exact law16_few.mono _ _
      | exact LeO.none _
      | refine LeO.ite ?_ ?_
      | refine LeO.bind ?_ (fun _ => ?_)
theorem law16_SortedBags.mono : ∀ a0 a1 a2 a3 a4 a5 k, LeO (law16_SortedBags.f k a0 a1 a2 a3 a4 a5) (law16_SortedBags.f (k + 1) a0 a1 a2 a3 a4 a5) := by
  intro a0 a1 a2 a3 a4 a5 k
  obtain ⟨ih0, ih1, ih2⟩ := law16_SortedBags.mono_l k
  unfold law16_SortedBags.f
  repeat' first
      | (with_reducible exact ih0 _ _ _ _ _ _ _ _)
      | (with_reducible exact ih1 _ _ _ _ _ _ _ _ _)
      | (with_reducible exact ih2 _ _ _ _ _ _ _ _ _ _)
      | (with_reducible exact law16_few.mono _ _)
      | (with_reducible exact LeO.refl _)
      | (with_reducible exact LeO.none _)
      | (with_reducible refine LeO.ite ?_ ?_)
      | (with_reducible refine LeO.bind ?_ (fun _ => ?_))
      | exact ih0 _ _ _ _ _ _ _ _
      | exact ih1 _ _ _ _ _ _ _ _ _
      | exact ih2 _ _ _ _ _ _ _ _ _ _
      | exact law16_few.mono _ _
      | exact LeO.none _
      | refine LeO.ite ?_ ?_
      | refine LeO.bind ?_ (fun _ => ?_)
set_option maxHeartbeats 8000000 in
set_option maxRecDepth 100000 in
theorem law16_SortedBags.calls (k : Nat) (A0 : Option Addr) (c0 : Nat) (l0 : List (List (S28))) (A1 : Option Addr) (c1 : Nat) (l1 : List Int) (a2 : Int) (a3_0 : Int) (a3_1 : Int) (a3_2 : ByteArray) (r : Bool) (w : World) (hr0 : Kd.C (Kd.slice 28 k28) w A0 l0.length l0) (hc0 : l0.length ≤ c0) (hr1 : Kd.C (Kd.int .i64) w A1 l1.length l1) (hc1 : l1.length ≤ c1) (hr_ : Aside0 (r = true)) (h : law16_SortedBags.f k l0 l1 a2 a3_0 a3_1 a3_2 = some r) :
    Calls Try.prog 4 #[.slice A0 l0.length c0, .slice A1 l1.length c1, .int .u16 a2, .agg #[.int .i64 a3_0, .int .i64 a3_1, .string a3_2]] w fun e w' => e = .returned (.bool r) ∧ Below w.heap.size w w' := by
  have hu28 := Try.underlying28
  have HR0 := Aside0.mk hr0
  have HC0 := Aside0.mk hc0
  clear hr0 hc0
  have HR1 := Aside0.mk hr1
  have HC1 := Aside0.mk hc1
  clear hr1 hc1
  have HB := Aside0.mk (Below.refl w.heap.size w)
  have H : ((law16_shown.f).bind fun t135 => ((law16_few.f k l0).bind fun t136 => (if (l1.length : Int) > 9 then (law16_SortedBags.j0 k l1 a2 t135 t136 true a3_0 a3_1 a3_2) else (law16_SortedBags.j0 k l1 a2 t135 t136 ((t136.length : Int) == 0) a3_0 a3_1 a3_2)))) = some r := h
  clear h
  replace H := Option.bind_eq_some_iff.mp H
  obtain ⟨t135, A50, H⟩ := H
  replace H : ((law16_few.f k l0).bind fun t136 => (if (l1.length : Int) > 9 then (law16_SortedBags.j0 k l1 a2 t135 t136 true a3_0 a3_1 a3_2) else (law16_SortedBags.j0 k l1 a2 t135 t136 ((t136.length : Int) == 0) a3_0 a3_1 a3_2))) = some r := H
  have A5 := Aside0.mk A50
  clear A50
  replace H := Option.bind_eq_some_iff.mp H
  obtain ⟨t136, A60, H⟩ := H
  replace H : (if (l1.length : Int) > 9 then (law16_SortedBags.j0 k l1 a2 t135 t136 true a3_0 a3_1 a3_2) else (law16_SortedBags.j0 k l1 a2 t135 t136 ((t136.length : Int) == 0) a3_0 a3_1 a3_2)) = some r := H
  have A6 := Aside0.mk A60
  clear A60
  have HC7 := Aside0.mk H
  clear H
  go_enter Try.func4, Try.ntmps4
  go_upto_region 3 with (first | ((with_reducible refine gate_dst (N := 7) rfl ?_); (try (refine gate_guard (by rfl) ?_; dsimp only)); refine box_event ?hg (N := 7) ?hd (cs := #[.int .i64 a3_0, .int .i64 a3_1, .string a3_2]) (t := 28) ?hr ?_; (case hd => rfl); (case hg => rfl); (case hr => first | (go_simp; done) | (go_simp; rfl)); intro gb134 hg w8 hbox hb; have n0_ := Aside0.mk (below_step (by repeat (first | (with_reducible first | exact HB.out | apply below_alloc | apply pw_below_drewN | apply below_drew1) | exact HB.out)) hb); have n1_ := Aside0.mk (hbox); have n2_ := Aside0.mk ((by rw [hg]; exact (below_size (by repeat (first | (with_reducible first | exact HB.out | apply below_alloc | apply pw_below_drewN | apply below_drew1) | exact HB.out))) : w.heap.size ≤ gb134)); have n3_ := Aside0.mk ((by rw [hg]; exact (below_size (by repeat (first | (with_reducible first | exact HB.out | apply below_alloc | apply pw_below_drewN | apply below_drew1) | exact HB.out))) : w.heap.size ≤ gb134)); clear HB; have HB := n0_; have BK134 := n1_; have GW134 := n2_; have GE134 := n3_; clear n0_ n1_ n2_ n3_; clear hb hbox hg) | ((with_reducible refine gate_callee (f := 9) rfl ?_); refine goesL_ (some 17) rfl rfl Try.func9 (by kernel_rfl) rfl #[] rfl (by (try simp only [List.map_toArray, List.map_cons, List.map_nil]); first | done | rfl | (simp only [List.length_drop, List.length_take]; rfl)) ?_; (with_reducible refine (law16_shown.calls  t135 _ A5.out).mono ?_); rintro e w9 ⟨rfl, hb⟩; refine ⟨_, rfl, ?_⟩; have n0_ := Aside0.mk (blk_below (g := gb134) (o := .cells #[.int .i64 a3_0, .int .i64 a3_1, .string a3_2] 28 (0, 0)) (by (with_reducible repeat (first | refine blk_drewN ?_ _ | refine blk_drew ?_ | refine blk_alloc ?_ _)); exact BK134.out) hb); have n1_ := Aside0.mk (below_step (by repeat (first | (with_reducible first | exact HB.out | apply below_alloc | apply pw_below_drewN | apply below_drew1 | refine below_set ?_ GE134.out) | exact HB.out)) hb); clear BK134; clear HB; have BK134 := n0_; have HB := n1_; clear n0_ n1_; (try clear hb); (try clear hb2); (try clear hk); (try clear hi)) | ((with_reducible refine gate_callee (f := 10) rfl ?_); refine goesL_ (some 19) rfl rfl Try.func10 (by kernel_rfl) rfl #[.slice A0 l0.length c0] rfl (by (try simp only [List.map_toArray, List.map_cons, List.map_nil]); first | done | rfl | (simp only [List.length_drop, List.length_take]; rfl)) ?_; (with_reducible refine (law16_few.calls k (fun k_ => k_ < w.heap.size) _ _ l0 t136 _ ?side1 A6.out).mono ?_); (case side1 => exact Kd.V_mk HC0.out (Kd.F_below (Kd.C_F (Kd.heap_slice 28 k28_heap) HR0.out) (by repeat (first | (with_reducible first | exact HB.out | apply below_alloc | apply pw_below_drewN | apply below_drew1 | refine below_set ?_ GE134.out) | exact HB.out)))); rintro e w10 ⟨v137, rfl, ho0, hb⟩; refine ⟨_, rfl, ?_⟩; have n0_ := Aside0.mk (Kd.N_lower (Kd.N_mono (ok' := fun k_ => k_ ≠ gb134) ho0 (fun k_ hk_ => Or.elim hk_ (fun hs_ => fun e_ => Nat.not_le.2 hs_ (by rw [e_]; exact GW134.out)) (fun hn_ => (Kd.freshB (g := gb134) (o := .cells #[.int .i64 a3_0, .int .i64 a3_1, .string a3_2] 28 (0, 0)) (by (with_reducible repeat (first | refine blk_drewN ?_ _ | refine blk_drew ?_ | refine blk_alloc ?_ _)); exact BK134.out) k_ hn_)))) (below_size (by repeat (first | (with_reducible first | exact HB.out | apply below_alloc | apply pw_below_drewN | apply below_drew1 | refine below_set ?_ GE134.out) | exact HB.out)))); have n1_ := Aside0.mk (blk_below (g := gb134) (o := .cells #[.int .i64 a3_0, .int .i64 a3_1, .string a3_2] 28 (0, 0)) (by (with_reducible repeat (first | refine blk_drewN ?_ _ | refine blk_drew ?_ | refine blk_alloc ?_ _)); exact BK134.out) hb); have n2_ := Aside0.mk (below_step (by repeat (first | (with_reducible first | exact HB.out | apply below_alloc | apply pw_below_drewN | apply below_drew1 | refine below_set ?_ GE134.out) | exact HB.out)) hb); clear BK134; clear HB; have HO138 := n0_; have BK134 := n1_; have HB := n2_; clear n0_ n1_ n2_; (try clear hb); (try clear hb2); (try clear hk); (try clear hi); (try clear ho0)))
  (try simp only [Act.put, List.setIfInBounds_toArray, List.set_cons_zero, List.set_cons_succ])
  go_cut [27] (fun v27 wc => ∃ (kq : Nat) (x27_6 : Bool), v27 = .bool x27_6 ∧ Aside0 (law16_SortedBags.j0 kq l1 a2 t135 t136 x27_6 a3_0 a3_1 a3_2 = some r) ∧ Aside0 (kq ≤ k) ∧ Aside0 (Kd.N (Kd.slice 28 k28) 26 wc w.heap.size (fun k_ => k_ ≠ gb134) v137 t136) ∧ Aside0 (wc.heap[gb134]? = some (.cells #[.int .i64 a3_0, .int .i64 a3_1, .string a3_2] 28 (0, 0))) ∧ Aside0 (Below w.heap.size w wc))
  case first =>
    have H := HC7.out
    clear HC7
    by_cases c11 : (l1.length : Int) > 9
    · rw [if_pos c11] at H
      have c11b0 : decide (9 < (l1.length : Int)) = true := decide_eq_true c11
      have c11b1 : decide (9 < l1.length) = true := decide_eq_true (by omega)
      clear c11
      (first | rw [c11b0] | (simp only [i64_w, i32_w]; rw [c11b0]) | skip)
      have H' := Aside0.mk H
      clear H
      go_wp2
      go_meet
      case rel => exact ⟨_, (true), (by first | rfl | (simp; done) | (simp [*]; done)), H', ⟨by first | omega | exact Nat.le_refl _⟩, ⟨by (with_reducible repeat (first | apply Kd.N_alloc | apply Kd.N_drewN | apply Kd.N_drew)); exact HO138.out⟩, ⟨by (with_reducible repeat (first | refine blk_drewN ?_ _ | refine blk_drew ?_ | refine blk_alloc ?_ _)); exact BK134.out⟩, ⟨by repeat (first | (with_reducible first | exact HB.out | apply below_alloc | apply pw_below_drewN | apply below_drew1 | refine below_set ?_ GE134.out) | exact HB.out)⟩⟩
    · rw [if_neg c11] at H
      have c11b0 : decide (9 < (l1.length : Int)) = false := decide_eq_false c11
      have c11b1 : decide (9 < l1.length) = false := decide_eq_false (by omega)
      clear c11
      (first | rw [c11b0] | (simp only [i64_w, i32_w]; rw [c11b0]) | skip)
      have H' := Aside0.mk H
      clear H
      obtain ⟨Ao12, co12, eo12⟩ := Kd.N_slice HO138.out
      subst eo12
      go_wp2
      go_meet
      case rel => exact ⟨_, (((t136.length : Int) == 0)), (by first | rfl | (simp; done) | (simp [*]; done)), H', ⟨by first | omega | exact Nat.le_refl _⟩, ⟨by (with_reducible repeat (first | apply Kd.N_alloc | apply Kd.N_drewN | apply Kd.N_drew)); exact HO138.out⟩, ⟨by (with_reducible repeat (first | refine blk_drewN ?_ _ | refine blk_drew ?_ | refine blk_alloc ?_ _)); exact BK134.out⟩, ⟨by repeat (first | (with_reducible first | exact HB.out | apply below_alloc | apply pw_below_drewN | apply below_drew1 | refine below_set ?_ GE134.out) | exact HB.out)⟩⟩
  case rest =>
    clear HC7
    try clear c1
    try clear p2
    try clear c4
    try clear c9
    try clear c10
    try clear c11
    try clear c11b0
    try clear c11b1
    obtain ⟨kq, x27_6, rfl, HA, HJ6, HO_10, BK134, HB⟩ := hcut
    cases kq with
    | zero => exact absurd HA.out (by simp [law16_SortedBags.j0])
    | succ kj6 =>
      have H := HA.out
      clear HA
      simp only [law16_SortedBags.j0] at H
      by_cases c13 : x27_6 = true
      · subst c13
        have H1 : (some t135) = some r := by rw [if_pos rfl] at H; exact H
        clear H
        have H := H1
        clear H1
        obtain rfl := Option.some.inj H
        go_wp2
        go_ret
        exact ⟨by first | rfl | (simp [errW_none, errW_some] <;> rfl) | (simp [*, errW_none, errW_some] <;> rfl), by repeat (first | (with_reducible first | exact HB.out | apply below_alloc | apply pw_below_drewN | apply below_drew1 | refine below_set ?_ GE134.out) | exact HB.out)⟩
      · replace c13 := Bool.eq_false_iff.mpr c13
        subst c13
        have H1 : (law16_SortedBags.l0 kj6 l1 a2 t135 t136 ([] : List (List (S28))) (wrap64 ((t136.length : Int) - 1)) a3_0 a3_1 a3_2) = some r := by rw [if_neg (show ¬ (false = true) by decide)] at H; exact H
        clear H
        have H := H1
        clear H1
        have H' := Aside0.mk H
        clear H
        obtain ⟨Ao14, co14, eo14⟩ := Kd.N_slice HO_10.out
        subst eo14
        go_wp2
        go_loopg [11, 12] kj6 (fun kq v11 v12 w' => ∃ (x11_2 : List (List (S28))) (x12_2 : Int), v12 = .int .i64 x12_2 ∧ Aside0 (law16_SortedBags.l0 kq l1 a2 t135 t136 x11_2 x12_2 a3_0 a3_1 a3_2 = some r) ∧ Aside0 (kq ≤ kj6) ∧ Aside0 (Kd.N (Kd.slice 28 k28) 26 w' w.heap.size (fun k_ => some k_ ≠ (v11 : Value).ownBlock ∧ k_ ≠ gb134) (.slice Ao14 t136.length co14) t136) ∧ Aside0 (Kd.N (Kd.slice 28 k28) 26 w' w.heap.size (fun k_ => some k_ ≠ ((.slice Ao14 t136.length co14) : Value).ownBlock ∧ k_ ≠ gb134) v11 x11_2) ∧ Aside0 (w'.heap[gb134]? = some (.cells #[.int .i64 a3_0, .int .i64 a3_1, .string a3_2] 28 (0, 0))) ∧ Aside0 (Below w.heap.size w w'))
        case atStart => exact ⟨(([] : List (List (S28)))), (wrap64 ((t136.length : Int) - 1)), (by first | rfl | (simp; done) | (simp [*]; done)), H', ⟨Nat.le_refl _⟩, ⟨by (with_reducible repeat (first | apply Kd.N_alloc | apply Kd.N_drewN | apply Kd.N_drew)); exact Kd.N_mono HO_10.out (fun _ hk => ⟨(by simp [Value.ownBlock]), hk⟩)⟩, ⟨by first | exact Kd.S_nil _ _ _ _ _ | exact Kd.N_nil _ _ _ _ _ | exact Kd.V_nil _ _ _ _ _ | exact Kd.Q_nil _ _ _ _ _ | exact Kd.R_nil _ _ _ _ _⟩, ⟨by (with_reducible repeat (first | refine blk_drewN ?_ _ | refine blk_drew ?_ | refine blk_alloc ?_ _)); exact BK134.out⟩, ⟨by repeat (first | (with_reducible first | exact HB.out | apply below_alloc | apply pw_below_drewN | apply below_drew1 | refine below_set ?_ GE134.out) | exact HB.out)⟩⟩
        case round =>
          clear H'
          try clear c1
          try clear p2
          try clear c4
          try clear p6
          try clear c9
          try clear c10
          try clear c11
          try clear c11b0
          try clear c11b1
          try clear c13
          try clear p2
          obtain ⟨x11_2, x12_2, rfl, HA, HK2, HO_10, HO_11, BK134, HB⟩ := hrel
          cases gk with
          | zero => exact absurd HA.out (by simp [law16_SortedBags.l0])
          | succ k2 =>
            have H := HA.out
            clear HA
            simp only [law16_SortedBags.l0] at H
            by_cases c15 : x12_2 ≥ 0
            · rw [if_pos c15] at H
              have c15b0 : decide (0 ≤ x12_2) = true := decide_eq_true c15
              clear c15
              by_cases c16 : 0 ≤ x12_2
              · rw [if_pos c16] at H
                have c16b0 : decide (0 ≤ x12_2) = true := decide_eq_true c16
                clear c16
                by_cases c17 : x12_2 < (t136.length : Int)
                · rw [if_pos c17] at H
                  have c17b0 : decide (x12_2 < (t136.length : Int)) = true := decide_eq_true c17
                  clear c17
                  by_cases c18 : x11_2.length < 5864062014805
                  · rw [if_pos c18] at H
                    have LMc18 := Aside0.mk c18
                    clear c18
                    obtain ⟨y140, hy140⟩ : ∃ y_ : List (List (S28)), y_ = (x11_2 ++ [rd_L3 t136 x12_2]) := ⟨_, rfl⟩
                    replace H : (law16_SortedBags.l0 k2 l1 a2 t135 t136 y140 (wrap64 (x12_2 - 1)) a3_0 a3_1 a3_2) = some r := by first | (rw [hy140]; with_reducible exact H) | (have H2_ := (Option.bind_some _ _).symm.trans H; rw [hy140]; with_reducible exact H2_) | (have H2_ := (Option.bind_some _ _).symm.trans H; with_reducible exact H2_) | with_reducible exact H | (rw [hy140]; exact H) | exact H
                    have Ny140 := Aside0.mk hy140
                    clear hy140
                    have H' := Aside0.mk H
                    clear H
                    have p139 : 0 ≤ (x12_2 : Int) := of_decide_eq_true (by first | (with_reducible assumption) | assumption)
                    have q139 : x12_2 < (t136.length : Int) := of_decide_eq_true (by first | (with_reducible assumption) | assumption)
                    obtain ⟨ad139, A139_0, c139_0, e139, hx139_0, hl139_0, hi139_0⟩ := at_L3 (Kd.N_reads' HO_10.out).2.2 x12_2 p139 q139
                    cases e139
                    obtain ⟨ce139, hce139, hMe139, hcc139⟩ := Kd.N_get HO_10.out [] x12_2 p139 (by first | exact q139 | exact of_decide_eq_true (by first | (with_reducible assumption) | assumption) | (have e_ := (Kd.N_reads' HO_10.out).1; omega))
                    obtain ⟨ua139_0, uc139_0, rfl, ul139_0, ge139_0⟩ := Kd.FK_slice_open hMe139
                    have hv139_0 := hcc139 0 _ rfl
                    rw [Nat.add_zero, show ((Kd.slice 28 k28)).sz = 1 from rfl, Nat.mul_one] at hv139_0
                    replace hv139_0 := Option.some.inj (hv139_0.symm.trans hx139_0)
                    injection hv139_0 with hva_ hvn_ hvc_
                    rw [hva_] at ge139_0
                    rw [hvc_] at ul139_0
                    have HL139_0 := Aside0.mk (show Kd.V k28 28 _ w.heap.size _ _ (rd_L3 t136 x12_2) from Kd.V_mk ul139_0 ge139_0)
                    clear hva_ hvn_ hvc_ ge139_0 ul139_0
                    clear hcc139 hce139
                    have HR139_0 := Aside0.mk hi139_0
                    have HC139_0 := Aside0.mk hl139_0
                    clear hi139_0 hl139_0
                    replace p139 := eq_true p139
                    replace q139 := eq_true q139
                    go_wp2_with (first | ((with_reducible refine gate_builtin (b := .append) (xs := #[.tmp 36, .tmp 41]) rfl ?_); (try (refine gate_guard (by rfl) ?_; dsimp only)); at_builtin; refine Kd.N_append (Kd.slice 28 k28) (w0 := w) w.heap.size rfl (.tmp 36) (.tmp 41) 22 26 (.slice none 0 0) 24 rfl Try.underlying22 info26 rfl (by decide) (by omega) u11 x11_2 (rd_L3 t136 x12_2) [.slice A139_0 (rd_L3 t136 x12_2).length c139_0] (fun k_ => some k_ ≠ (.slice (some ad139) t136.length co14 : Value).ownBlock ∧ k_ ≠ gb134) (fun k_ => ((fun k_ => some k_ ≠ (.slice (some ad139) t136.length co14 : Value).ownBlock ∧ k_ ≠ gb134)) k_ ∧ some k_ ≠ (u11 : Value).ownBlock) rfl rfl ?aP (fun _ hk => hk) ?aF ?aO ?aB ?aS ?aL ?_; (case aP => exact (Kd.FK_slice_mk (Kd.V_reads' (Kd.V_mono (ok' := (fun k_ => ((fun k_ => some k_ ≠ (.slice (some ad139) t136.length co14 : Value).ownBlock ∧ k_ ≠ gb134)) k_ ∧ some k_ ≠ (u11 : Value).ownBlock)) (HL139_0.out) (fun k_ hk => ⟨⟨hk.2, hk.1.2⟩, hk.1.1⟩))).2.1 (Kd.V_F (Kd.V_mono (ok' := (fun k_ => ((fun k_ => some k_ ≠ (.slice (some ad139) t136.length co14 : Value).ownBlock ∧ k_ ≠ gb134)) k_ ∧ some k_ ≠ (u11 : Value).ownBlock)) (HL139_0.out) (fun k_ hk => ⟨⟨hk.2, hk.1.2⟩, hk.1.1⟩))))); (case aB => exact (by repeat (first | (with_reducible first | exact HB.out | apply below_alloc | apply pw_below_drewN | apply below_drew1 | refine below_set ?_ GE134.out) | exact HB.out))); (case aF => exact (fun k_ hk => ⟨Kd.fresh' (Kd.N_lt (by (with_reducible repeat (first | apply Kd.N_alloc | apply Kd.N_drewN | apply Kd.N_drew)); exact HO_10.out)) k_ hk, Kd.freshB (g := gb134) (o := .cells #[.int .i64 a3_0, .int .i64 a3_1, .string a3_2] 28 (0, 0)) (by (with_reducible repeat (first | refine blk_drewN ?_ _ | refine blk_drew ?_ | refine blk_alloc ?_ _)); exact BK134.out) k_ hk⟩)); (case aO => exact (by (with_reducible repeat (first | apply Kd.N_alloc | apply Kd.N_drewN | apply Kd.N_drew)); exact HO_11.out)); (case aS => exact (below_size (by repeat (first | (with_reducible first | exact HB.out | apply below_alloc | apply pw_below_drewN | apply below_drew1 | refine below_set ?_ GE134.out) | exact HB.out)))); (case aL => have := LMc18.out; omega); intro v141 w19 ho hb hg hat; rw [← Ny140.out] at ho; have n0_ := Aside0.mk (Kd.N_afterv (ok := (fun k_ => k_ ≠ gb134)) (by (with_reducible repeat (first | apply Kd.N_alloc | apply Kd.N_drewN | apply Kd.N_drew)); exact Kd.N_mono HO_10.out (fun _ hk => ⟨hk.2, hk.1⟩)) hg hat); have n1_ := Aside0.mk (blk_grown (g := gb134) (o := .cells #[.int .i64 a3_0, .int .i64 a3_1, .string a3_2] 28 (0, 0)) (by (with_reducible repeat (first | refine blk_drewN ?_ _ | refine blk_drew ?_ | refine blk_alloc ?_ _)); exact BK134.out) hg (Kd.N_ne HO_11.out BK134.out (by decide))); have n2_ := Aside0.mk (Kd.V_afterv (ok := (fun k_ => some k_ ≠ (.slice (some ad139) t136.length co14 : Value).ownBlock ∧ k_ ≠ gb134)) (by (with_reducible repeat (first | apply Kd.V_alloc | apply Kd.V_drewN | apply Kd.V_drew)); exact Kd.V_mono HL139_0.out (fun _ hk => ⟨⟨hk.2, hk.1.2⟩, hk.1.1⟩)) hg hat); have n3_ := Aside0.mk (hb); have n4_ := Aside0.mk (ho); clear HO_10; clear BK134; clear HL139_0; clear HB; clear HO_11; have HO_10 := n0_; have BK134 := n1_; have HL139_0 := n2_; have HB := n3_; have HO142 := n4_; clear n0_ n1_ n2_ n3_ n4_; clear ho hb hg hat))
                    go_roundg k2
                    case measure => have := HJ6.out; have := HK2.out; omega
                    case rel => exact ⟨(y140), (wrap64 (x12_2 - 1)), (by first | rfl | (simp; done) | (simp [*]; done)), H', ⟨by have := HJ6.out; have := HK2.out; omega⟩, ⟨by (with_reducible repeat (first | apply Kd.N_alloc | apply Kd.N_drewN | apply Kd.N_drew)); exact Kd.N_mono HO_10.out (fun _ hk => ⟨hk.2, hk.1⟩)⟩, ⟨by (with_reducible repeat (first | apply Kd.N_alloc | apply Kd.N_drewN | apply Kd.N_drew)); exact HO142.out⟩, ⟨by (with_reducible repeat (first | refine blk_drewN ?_ _ | refine blk_drew ?_ | refine blk_alloc ?_ _)); exact BK134.out⟩, ⟨by repeat (first | (with_reducible first | exact HB.out | apply below_alloc | apply pw_below_drewN | apply below_drew1 | refine below_set ?_ GE134.out) | exact HB.out)⟩⟩
                  · rw [if_neg c18] at H
                    exact absurd H (by simp)
                · rw [if_neg c17] at H
                  exact absurd H (by simp)
              · rw [if_neg c16] at H
                exact absurd H (by simp)
            · rw [if_neg c15] at H
              have c15b0 : decide (0 ≤ x12_2) = false := decide_eq_false c15
              clear c15
              by_cases c20 : (t136.length : Int) = 0
              · rw [if_pos c20] at H
                exact absurd H (by simp)
              · rw [if_neg c20] at H
                have c20b0 : ((t136.length : Int) == 0) = false := beq_eq_false_iff_ne.mpr c20
                (try (have c20b0q_hl139_0 := c20b0; rw [hl139_0] at c20b0q_hl139_0))
                have c20b1 : ((t136.length : Int) != 0) = true := bne_iff_ne.mpr c20
                (try (have c20b1q_hl139_0 := c20b1; rw [hl139_0] at c20b1q_hl139_0))
                have c20b2 : ¬ (t136 = []) := fun h_ => c20 (by rw [h_]; rfl)
                have H' := Aside0.mk H
                clear H
                go_wp2
                go_loopg [14, 15] k2 (fun kq v14 v15 w' => ∃ (x14_3 : List (List (S28))) (x15_3 : Int), v15 = .int .i64 x15_3 ∧ Aside0 (law16_SortedBags.l1 kq l1 t135 t136 x11_2 (Int.tmod (wrap64 (a2)) (t136.length : Int)) x14_3 x15_3 a3_0 a3_1 a3_2 = some r) ∧ Aside0 (kq ≤ k2) ∧ Aside0 (Kd.N (Kd.slice 28 k28) 26 w' w.heap.size (fun k_ => some k_ ≠ (u11 : Value).ownBlock ∧ some k_ ≠ (v14 : Value).ownBlock ∧ k_ ≠ gb134) (.slice Ao14 t136.length co14) t136) ∧ Aside0 (Kd.N (Kd.slice 28 k28) 26 w' w.heap.size (fun k_ => some k_ ≠ ((.slice Ao14 t136.length co14) : Value).ownBlock ∧ some k_ ≠ (v14 : Value).ownBlock ∧ k_ ≠ gb134) u11 x11_2) ∧ Aside0 (Kd.N (Kd.slice 28 k28) 26 w' w.heap.size (fun k_ => some k_ ≠ ((.slice Ao14 t136.length co14) : Value).ownBlock ∧ some k_ ≠ (u11 : Value).ownBlock ∧ k_ ≠ gb134) v14 x14_3) ∧ Aside0 (w'.heap[gb134]? = some (.cells #[.int .i64 a3_0, .int .i64 a3_1, .string a3_2] 28 (0, 0))) ∧ Aside0 (Below w.heap.size w w'))
                case atStart => exact ⟨(([] : List (List (S28)))), (0), (by first | rfl | (simp; done) | (simp [*]; done)), H', ⟨Nat.le_refl _⟩, ⟨by (with_reducible repeat (first | apply Kd.N_alloc | apply Kd.N_drewN | apply Kd.N_drew)); exact Kd.N_mono HO_10.out (fun _ hk => ⟨hk.1, ⟨(by simp [Value.ownBlock]), hk.2⟩⟩)⟩, ⟨by (with_reducible repeat (first | apply Kd.N_alloc | apply Kd.N_drewN | apply Kd.N_drew)); exact Kd.N_mono HO_11.out (fun _ hk => ⟨hk.1, ⟨(by simp [Value.ownBlock]), hk.2⟩⟩)⟩, ⟨by first | exact Kd.S_nil _ _ _ _ _ | exact Kd.N_nil _ _ _ _ _ | exact Kd.V_nil _ _ _ _ _ | exact Kd.Q_nil _ _ _ _ _ | exact Kd.R_nil _ _ _ _ _⟩, ⟨by (with_reducible repeat (first | refine blk_drewN ?_ _ | refine blk_drew ?_ | refine blk_alloc ?_ _)); exact BK134.out⟩, ⟨by repeat (first | (with_reducible first | exact HB.out | apply below_alloc | apply pw_below_drewN | apply below_drew1 | refine below_set ?_ GE134.out) | exact HB.out)⟩⟩
                case round =>
                  clear H'
                  try clear c1
                  try clear p1
                  try clear q1
                  try clear hx1
                  try clear c2
                  try clear p2
                  try clear c4
                  try clear p6
                  try clear c9
                  try clear c10
                  try clear c11
                  try clear c11b0
                  try clear c11b1
                  try clear c13
                  try clear p13
                  try clear q13
                  try clear hx13
                  try clear c15
                  try clear c15b0
                  try clear c16
                  try clear c16b0
                  try clear c17
                  try clear c17b0
                  try clear c18
                  try clear c20
                  try clear c20b0
                  try clear c20b1
                  try clear c20b2
                  try clear hx139_0
                  try clear p139
                  try clear p2
                  try clear p6
                  try clear q139
                  obtain ⟨x14_3, x15_3, rfl, HA, HK3, HO_10, HO_11, HO_14, BK134, HB⟩ := hrel
                  cases gk with
                  | zero => exact absurd HA.out (by simp [law16_SortedBags.l1])
                  | succ k3 =>
                    have H := HA.out
                    clear HA
                    simp only [law16_SortedBags.l1] at H
                    by_cases c21 : x15_3 < (t136.length : Int)
                    · rw [if_pos c21] at H
                      have c21b0 : decide (x15_3 < (t136.length : Int)) = true := decide_eq_true c21
                      (try (have c21b0q_hl139_0 := c21b0; rw [hl139_0] at c21b0q_hl139_0))
                      clear c21
                      obtain ⟨y143, hy143⟩ : ∃ y_ : List (S28), y_ = (([] : List (S28))) := ⟨_, rfl⟩
                      replace H : (if 0 ≤ x15_3 then (if y143.length + (rd_L3 t136 x15_3).length < 4398046511104 then ((some (y143 ++ (rd_L3 t136 x15_3) : List (S28))).bind fun y147 => (if x15_3 = (Int.tmod (wrap64 (a2)) (t136.length : Int)) then (if y147.length < 4398046511104 then (if x14_3.length < 5864062014805 then (law16_SortedBags.l1 k3 l1 t135 t136 x11_2 (Int.tmod (wrap64 (a2)) (t136.length : Int)) (x14_3 ++ [(y147 ++ [(⟨a3_0, a3_1, a3_2⟩ : S28)])]) (wrap64 (x15_3 + 1)) a3_0 a3_1 a3_2) else (none)) else (none)) else (if x14_3.length < 5864062014805 then (law16_SortedBags.l1 k3 l1 t135 t136 x11_2 (Int.tmod (wrap64 (a2)) (t136.length : Int)) (x14_3 ++ [y147]) (wrap64 (x15_3 + 1)) a3_0 a3_1 a3_2) else (none)))) else (none)) else (none)) = some r := by first | (rw [hy143]; with_reducible exact H) | (have H2_ := (Option.bind_some _ _).symm.trans H; rw [hy143]; with_reducible exact H2_) | (have H2_ := (Option.bind_some _ _).symm.trans H; with_reducible exact H2_) | with_reducible exact H | (rw [hy143]; exact H) | exact H
                      have Ny143 := Aside0.mk hy143
                      clear hy143
                      by_cases c22 : 0 ≤ x15_3
                      · rw [if_pos c22] at H
                        have c22b0 : decide (0 ≤ x15_3) = true := decide_eq_true c22
                        clear c22
                        by_cases c23 : y143.length + (rd_L3 t136 x15_3).length < 4398046511104
                        · rw [if_pos c23] at H
                          have LMc23 := Aside0.mk c23
                          clear c23
                          obtain ⟨y147, hy147⟩ : ∃ y_ : List (S28), y_ = (y143 ++ (rd_L3 t136 x15_3)) := ⟨_, rfl⟩
                          replace H : (if x15_3 = (Int.tmod (wrap64 (a2)) (t136.length : Int)) then (if y147.length < 4398046511104 then (if x14_3.length < 5864062014805 then (law16_SortedBags.l1 k3 l1 t135 t136 x11_2 (Int.tmod (wrap64 (a2)) (t136.length : Int)) (x14_3 ++ [(y147 ++ [(⟨a3_0, a3_1, a3_2⟩ : S28)])]) (wrap64 (x15_3 + 1)) a3_0 a3_1 a3_2) else (none)) else (none)) else (if x14_3.length < 5864062014805 then (law16_SortedBags.l1 k3 l1 t135 t136 x11_2 (Int.tmod (wrap64 (a2)) (t136.length : Int)) (x14_3 ++ [y147]) (wrap64 (x15_3 + 1)) a3_0 a3_1 a3_2) else (none))) = some r := by first | (rw [hy147]; with_reducible exact H) | (have H2_ := (Option.bind_some _ _).symm.trans H; rw [hy147]; with_reducible exact H2_) | (have H2_ := (Option.bind_some _ _).symm.trans H; with_reducible exact H2_) | with_reducible exact H | (rw [hy147]; exact H) | exact H
                          have Ny147 := Aside0.mk hy147
                          clear hy147
                          by_cases c24 : x15_3 = (Int.tmod (wrap64 (a2)) (t136.length : Int))
                          · rw [if_pos c24] at H
                            have c24b0 : (x15_3 == (Int.tmod (wrap64 (a2)) (t136.length : Int))) = true := beq_iff_eq.mpr c24
                            (try (have c24b0q_hl139_0 := c24b0; rw [hl139_0] at c24b0q_hl139_0))
                            have c24b1 : (x15_3 != (Int.tmod (wrap64 (a2)) (t136.length : Int))) = false := bne_eq_false_iff_eq.mpr c24
                            (try (have c24b1q_hl139_0 := c24b1; rw [hl139_0] at c24b1q_hl139_0))
                            clear c24
                            by_cases c25 : y147.length < 4398046511104
                            · rw [if_pos c25] at H
                              have LMc25 := Aside0.mk c25
                              clear c25
                              obtain ⟨y150, hy150⟩ : ∃ y_ : List (S28), y_ = (y147 ++ [(⟨a3_0, a3_1, a3_2⟩ : S28)]) := ⟨_, rfl⟩
                              replace H : (if x14_3.length < 5864062014805 then (law16_SortedBags.l1 k3 l1 t135 t136 x11_2 (Int.tmod (wrap64 (a2)) (t136.length : Int)) (x14_3 ++ [y150]) (wrap64 (x15_3 + 1)) a3_0 a3_1 a3_2) else (none)) = some r := by first | (rw [hy150]; with_reducible exact H) | (have H2_ := (Option.bind_some _ _).symm.trans H; rw [hy150]; with_reducible exact H2_) | (have H2_ := (Option.bind_some _ _).symm.trans H; with_reducible exact H2_) | with_reducible exact H | (rw [hy150]; exact H) | exact H
                              have Ny150 := Aside0.mk hy150
                              clear hy150
                              by_cases c26 : x14_3.length < 5864062014805
                              · rw [if_pos c26] at H
                                have LMc26 := Aside0.mk c26
                                clear c26
                                obtain ⟨y153, hy153⟩ : ∃ y_ : List (List (S28)), y_ = (x14_3 ++ [y150]) := ⟨_, rfl⟩
                                replace H : (law16_SortedBags.l1 k3 l1 t135 t136 x11_2 (Int.tmod (wrap64 (a2)) (t136.length : Int)) y153 (wrap64 (x15_3 + 1)) a3_0 a3_1 a3_2) = some r := by first | (rw [hy153]; with_reducible exact H) | (have H2_ := (Option.bind_some _ _).symm.trans H; rw [hy153]; with_reducible exact H2_) | (have H2_ := (Option.bind_some _ _).symm.trans H; with_reducible exact H2_) | with_reducible exact H | (rw [hy153]; exact H) | exact H
                                have Ny153 := Aside0.mk hy153
                                clear hy153
                                have H' := Aside0.mk H
                                clear H
                                go_wp2_with (first | ((with_reducible refine gate_dst (N := 54) rfl ?_); (try (refine gate_guard (by rfl) ?_; dsimp only)); refine Kd.R_lit k28 _ 28 ?hg (N := 54) ?hd (xs := ([] : List (S28))) (inner := []) (ok := fun _ => True) (okp := fun _ => True) ?hr ?hp (fun _ hk => hk) trivial (Below.refl _ _) (Nat.le_refl _) (by simp) ?_; (case hd => rfl); (case hg => rfl); (case hr => first | (go_simp; done) | (go_simp; rfl)); (case hp => exact (Reps.none _ _)); intro v144 w27 ho28 hb hg_ hnew_; clear hg_ hnew_; (first | rw [← Ny143.out] at ho28 | (simp only [Int.reduceToNat] at ho28; rw [← Ny143.out] at ho28)); have n0_ := Aside0.mk (Kd.N_elder' (by (with_reducible repeat (first | apply Kd.N_alloc | apply Kd.N_drewN | apply Kd.N_drew)); exact HO_10.out) (Kd.R_base ho28) hb); have n1_ := Aside0.mk (Kd.N_elder' (by (with_reducible repeat (first | apply Kd.N_alloc | apply Kd.N_drewN | apply Kd.N_drew)); exact HO_11.out) (Kd.R_base ho28) hb); have n2_ := Aside0.mk (Kd.N_elder' (by (with_reducible repeat (first | apply Kd.N_alloc | apply Kd.N_drewN | apply Kd.N_drew)); exact HO_14.out) (Kd.R_base ho28) hb); have n3_ := Aside0.mk (Kd.R_lower (Kd.R_newB ho28 (g := gb134) (o := .cells #[.int .i64 a3_0, .int .i64 a3_1, .string a3_2] 28 (0, 0)) (by (with_reducible repeat (first | refine blk_drewN ?_ _ | refine blk_drew ?_ | refine blk_alloc ?_ _)); exact BK134.out)) (below_size (by repeat (first | (with_reducible first | exact HB.out | apply below_alloc | apply pw_below_drewN | apply below_drew1 | refine below_set ?_ GE134.out) | exact HB.out)))); have n4_ := Aside0.mk (blk_below (g := gb134) (o := .cells #[.int .i64 a3_0, .int .i64 a3_1, .string a3_2] 28 (0, 0)) (by (with_reducible repeat (first | refine blk_drewN ?_ _ | refine blk_drew ?_ | refine blk_alloc ?_ _)); exact BK134.out) hb); have n5_ := Aside0.mk (below_step (by repeat (first | (with_reducible first | exact HB.out | apply below_alloc | apply pw_below_drewN | apply below_drew1 | refine below_set ?_ GE134.out) | exact HB.out)) hb); clear HO_10; clear HO_11; clear HO_14; clear BK134; clear HB; have HO_10 := n0_; have HO_11 := n1_; have HO_14 := n2_; have HO145 := n3_; have BK134 := n4_; have HB := n5_; clear n0_ n1_ n2_ n3_ n4_ n5_; clear hb ho28; have p146 : 0 ≤ (x15_3 : Int) := of_decide_eq_true (by first | (with_reducible assumption) | assumption); have q146 : x15_3 < (t136.length : Int) := of_decide_eq_true (by first | (with_reducible assumption) | assumption); obtain ⟨ad146, A146_0, c146_0, e146, hx146_0, hl146_0, hi146_0⟩ := at_L3 (Kd.N_reads' HO_10.out).2.2 x15_3 p146 q146; cases e146; obtain ⟨ce146, hce146, hMe146, hcc146⟩ := Kd.N_get HO_10.out [] x15_3 p146 (by first | exact q146 | exact of_decide_eq_true (by first | (with_reducible assumption) | assumption) | (have e_ := (Kd.N_reads' HO_10.out).1; omega)); obtain ⟨ua146_0, uc146_0, rfl, ul146_0, ge146_0⟩ := Kd.FK_slice_open hMe146; have hv146_0 := hcc146 0 _ rfl; rw [Nat.add_zero, show ((Kd.slice 28 k28)).sz = 1 from rfl, Nat.mul_one] at hv146_0; replace hv146_0 := Option.some.inj (hv146_0.symm.trans hx146_0); injection hv146_0 with hva_ hvn_ hvc_; rw [hva_] at ge146_0; rw [hvc_] at ul146_0; have HL146_0 := Aside0.mk (show Kd.V k28 28 _ w.heap.size _ _ (rd_L3 t136 x15_3) from Kd.V_mk ul146_0 ge146_0); clear hva_ hvn_ hvc_ ge146_0 ul146_0; clear hcc146 hce146; have HR146_0 := Aside0.mk hi146_0; have HC146_0 := Aside0.mk hl146_0; clear hi146_0 hl146_0; replace p146 := eq_true p146; replace q146 := eq_true q146) | ((with_reducible refine gate_builtin (b := .append) (xs := #[.tmp 54, .tmp 58]) rfl ?_); (try (refine gate_guard (by rfl) ?_; dsimp only)); at_builtin; refine Kd.R_append_rows k28 (w0 := w) w.heap.size rfl (.tmp 54) (.tmp 58) 26 28 (.agg #[(.int .i64 0), (.int .i64 0), (.string ⟨#[]⟩)]) 32 rfl Try.underlying26 info28 rfl (by decide) (by omega) v144 y143 (rd_L3 t136 x15_3) _ _ _ (fun k_ => k_ ≠ gb134) (fun _ => False) rfl rfl ?aO ?aR (fun _ _ h => h) (fun _ h => h.elim) ?aF ?aB ?aS ?aL ?_; (case aR => repeat (first | exact (by repeat (first | (with_reducible exact HR146_0.out) | (with_reducible refine Kd.C_alloc ?_ _) | (with_reducible refine Kd.C_drewN ?_ _) | (with_reducible refine Kd.C_drew ?_) | exact HR146_0.out)) | (with_reducible refine Kd.C_alloc ?_ _) | (with_reducible refine Kd.C_drewN ?_ _) | (with_reducible refine Kd.C_drew ?_))); (case aB => exact (by repeat (first | (with_reducible first | exact HB.out | apply below_alloc | apply pw_below_drewN | apply below_drew1 | refine below_set ?_ GE134.out) | exact HB.out))); (case aF => exact (fun k_ hk => Kd.freshB (g := gb134) (o := .cells #[.int .i64 a3_0, .int .i64 a3_1, .string a3_2] 28 (0, 0)) (by (with_reducible repeat (first | refine blk_drewN ?_ _ | refine blk_drew ?_ | refine blk_alloc ?_ _)); exact BK134.out) k_ hk)); (case aO => exact (by (with_reducible repeat (first | apply Kd.R_alloc | apply Kd.R_drewN | apply Kd.R_drew)); exact Kd.R_mono HO145.out (fun _ hk => hk.2))); (case aS => exact (below_size (by repeat (first | (with_reducible first | exact HB.out | apply below_alloc | apply pw_below_drewN | apply below_drew1 | refine below_set ?_ GE134.out) | exact HB.out)))); (case aL => have := LMc23.out; omega); intro v148 w29 ho hb hg hat; rw [← Ny147.out] at ho; have n0_ := Aside0.mk (Kd.N_afterv (ok := (fun k_ => some k_ ≠ (u11 : Value).ownBlock ∧ some k_ ≠ (u14 : Value).ownBlock ∧ k_ ≠ gb134)) (by (with_reducible repeat (first | apply Kd.N_alloc | apply Kd.N_drewN | apply Kd.N_drew)); exact HO_10.out) hg hat); have n1_ := Aside0.mk (Kd.N_afterv (ok := (fun k_ => some k_ ≠ (.slice (some ad146) t136.length co14 : Value).ownBlock ∧ some k_ ≠ (u14 : Value).ownBlock ∧ k_ ≠ gb134)) (by (with_reducible repeat (first | apply Kd.N_alloc | apply Kd.N_drewN | apply Kd.N_drew)); exact HO_11.out) hg hat); have n2_ := Aside0.mk (Kd.N_afterv (ok := (fun k_ => some k_ ≠ (.slice (some ad146) t136.length co14 : Value).ownBlock ∧ some k_ ≠ (u11 : Value).ownBlock ∧ k_ ≠ gb134)) (by (with_reducible repeat (first | apply Kd.N_alloc | apply Kd.N_drewN | apply Kd.N_drew)); exact HO_14.out) hg hat); have n3_ := Aside0.mk (blk_grown (g := gb134) (o := .cells #[.int .i64 a3_0, .int .i64 a3_1, .string a3_2] 28 (0, 0)) (by (with_reducible repeat (first | refine blk_drewN ?_ _ | refine blk_drew ?_ | refine blk_alloc ?_ _)); exact BK134.out) hg (Kd.R_away HO145.out (fun _ hk => hk.2))); have n4_ := Aside0.mk (Kd.V_afterv (ok := (fun k_ => some k_ ≠ (.slice (some ad146) t136.length co14 : Value).ownBlock ∧ some k_ ≠ (u11 : Value).ownBlock ∧ some k_ ≠ (u14 : Value).ownBlock ∧ k_ ≠ gb134)) (by (with_reducible repeat (first | apply Kd.V_alloc | apply Kd.V_drewN | apply Kd.V_drew)); exact Kd.V_mono HL146_0.out (fun _ hk => ⟨⟨hk.2, ⟨hk.1.1.1, ⟨hk.1.1.2.1, hk.1.1.2.2⟩⟩⟩, hk.1.2⟩)) hg hat); have n5_ := Aside0.mk (hb); have n6_ := Aside0.mk (ho); clear HO_10; clear HO_11; clear HO_14; clear BK134; clear HL146_0; clear HB; clear HO145; have HO_10 := n0_; have HO_11 := n1_; have HO_14 := n2_; have BK134 := n3_; have HL146_0 := n4_; have HB := n5_; have HO149 := n6_; clear n0_ n1_ n2_ n3_ n4_ n5_ n6_; clear ho hb hg hat; have hcz30_0 : w29.cell? ⟨gb134, 0, none⟩ = some (.int .i64 a3_0) := (blk_cell BK134.out 0).trans rfl; have hcz30_1 : w29.cell? ⟨gb134, 1, none⟩ = some (.int .i64 a3_1) := (blk_cell BK134.out 1).trans rfl; have hcz30_2 : w29.cell? ⟨gb134, 2, none⟩ = some (.string a3_2) := (blk_cell BK134.out 2).trans rfl; have hfz30_0 := blk_frozen BK134.out 0; have hfz30_1 := blk_frozen BK134.out 1; have hfz30_2 := blk_frozen BK134.out 2) | ((with_reducible refine gate_builtin (b := .append) (xs := #[.tmp 63, .tmp 65]) rfl ?_); (try (refine gate_guard (by rfl) ?_; dsimp only)); at_builtin; refine Kd.R_append k28 (w0 := w) w.heap.size rfl (.tmp 63) (.tmp 65) 26 28 (.agg #[(.int .i64 0), (.int .i64 0), (.string ⟨#[]⟩)]) 32 rfl Try.underlying26 info28 rfl (by decide) (by omega) v148 y147 (⟨a3_0, a3_1, a3_2⟩ : S28) [.int .i64 a3_0, .int .i64 a3_1, .string a3_2] (fun k_ => k_ ≠ gb134) (fun _ => False) rfl rfl ?aP (fun _ hk => hk.elim) ?aF ?aO ?aB ?aS ?aL ?_; (case aP => exact k28_mkM _ _ _ (⟨a3_0, a3_1, a3_2⟩ : S28)); (case aB => exact (by repeat (first | (with_reducible first | exact HB.out | apply below_alloc | apply pw_below_drewN | apply below_drew1 | refine below_set ?_ GE134.out) | exact HB.out))); (case aF => exact (fun k_ hk => Kd.freshB (g := gb134) (o := .cells #[.int .i64 a3_0, .int .i64 a3_1, .string a3_2] 28 (0, 0)) (by (with_reducible repeat (first | refine blk_drewN ?_ _ | refine blk_drew ?_ | refine blk_alloc ?_ _)); exact BK134.out) k_ hk)); (case aO => exact (by (with_reducible repeat (first | apply Kd.R_alloc | apply Kd.R_drewN | apply Kd.R_drew)); exact HO149.out)); (case aS => exact (below_size (by repeat (first | (with_reducible first | exact HB.out | apply below_alloc | apply pw_below_drewN | apply below_drew1 | refine below_set ?_ GE134.out) | exact HB.out)))); (case aL => have := LMc25.out; omega); intro v151 w31 ho hb hg hat; rw [← Ny150.out] at ho; have n0_ := Aside0.mk (Kd.N_afterv (ok := (fun k_ => some k_ ≠ (u11 : Value).ownBlock ∧ some k_ ≠ (u14 : Value).ownBlock ∧ k_ ≠ gb134)) (by (with_reducible repeat (first | apply Kd.N_alloc | apply Kd.N_drewN | apply Kd.N_drew)); exact HO_10.out) hg hat); have n1_ := Aside0.mk (Kd.N_afterv (ok := (fun k_ => some k_ ≠ (.slice (some ad146) t136.length co14 : Value).ownBlock ∧ some k_ ≠ (u14 : Value).ownBlock ∧ k_ ≠ gb134)) (by (with_reducible repeat (first | apply Kd.N_alloc | apply Kd.N_drewN | apply Kd.N_drew)); exact HO_11.out) hg hat); have n2_ := Aside0.mk (Kd.N_afterv (ok := (fun k_ => some k_ ≠ (.slice (some ad146) t136.length co14 : Value).ownBlock ∧ some k_ ≠ (u11 : Value).ownBlock ∧ k_ ≠ gb134)) (by (with_reducible repeat (first | apply Kd.N_alloc | apply Kd.N_drewN | apply Kd.N_drew)); exact HO_14.out) hg hat); have n3_ := Aside0.mk (blk_grown (g := gb134) (o := .cells #[.int .i64 a3_0, .int .i64 a3_1, .string a3_2] 28 (0, 0)) (by (with_reducible repeat (first | refine blk_drewN ?_ _ | refine blk_drew ?_ | refine blk_alloc ?_ _)); exact BK134.out) hg (Kd.R_away HO149.out (fun _ hk => hk))); have n4_ := Aside0.mk (Kd.V_afterv (ok := (fun k_ => some k_ ≠ (.slice (some ad146) t136.length co14 : Value).ownBlock ∧ some k_ ≠ (u11 : Value).ownBlock ∧ some k_ ≠ (u14 : Value).ownBlock ∧ k_ ≠ gb134)) (by (with_reducible repeat (first | apply Kd.V_alloc | apply Kd.V_drewN | apply Kd.V_drew)); exact HL146_0.out) hg hat); have n5_ := Aside0.mk (hb); have n6_ := Aside0.mk (ho); clear HO_10; clear HO_11; clear HO_14; clear BK134; clear HL146_0; clear HB; clear HO149; have HO_10 := n0_; have HO_11 := n1_; have HO_14 := n2_; have BK134 := n3_; have HL146_0 := n4_; have HB := n5_; have HO152 := n6_; clear n0_ n1_ n2_ n3_ n4_ n5_ n6_; clear ho hb hg hat; obtain ⟨Ao33, co33, eo33⟩ := Kd.R_slice HO152.out; subst eo33) | ((with_reducible refine gate_builtin (b := .append) (xs := #[.tmp 67, .tmp 69]) rfl ?_); (try (refine gate_guard (by rfl) ?_; dsimp only)); at_builtin; refine Kd.N_append (Kd.slice 28 k28) (w0 := w) w.heap.size rfl (.tmp 67) (.tmp 69) 22 26 (.slice none 0 0) 24 rfl Try.underlying22 info26 rfl (by decide) (by omega) u14 x14_3 y150 [.slice Ao33 y150.length co33] (fun k_ => some k_ ≠ (.slice (some ad146) t136.length co14 : Value).ownBlock ∧ some k_ ≠ (u11 : Value).ownBlock ∧ k_ ≠ gb134) (fun k_ => ((fun k_ => some k_ ≠ (.slice (some ad146) t136.length co14 : Value).ownBlock ∧ some k_ ≠ (u11 : Value).ownBlock ∧ k_ ≠ gb134)) k_ ∧ some k_ ≠ (u14 : Value).ownBlock) rfl rfl ?aP (fun _ hk => hk) ?aF ?aO ?aB ?aS ?aL ?_; (case aP => exact (Kd.FK_slice_mk (Kd.R_reads' (Kd.R_mono (ok' := (fun k_ => ((fun k_ => some k_ ≠ (.slice (some ad146) t136.length co14 : Value).ownBlock ∧ some k_ ≠ (u11 : Value).ownBlock ∧ k_ ≠ gb134)) k_ ∧ some k_ ≠ (u14 : Value).ownBlock)) (Kd.R_apart' (Kd.R_apart' (Kd.R_apart' (HO152.out) (Kd.N_typed HO_10.out) (by decide)) (Kd.N_typed HO_11.out) (by decide)) (Kd.N_typed HO_14.out) (by decide)) (fun k_ hk => ⟨⟨hk.1.1.2, ⟨hk.1.2, hk.1.1.1⟩⟩, hk.2⟩))).2.1 (Kd.R_F (Kd.R_mono (ok' := (fun k_ => ((fun k_ => some k_ ≠ (.slice (some ad146) t136.length co14 : Value).ownBlock ∧ some k_ ≠ (u11 : Value).ownBlock ∧ k_ ≠ gb134)) k_ ∧ some k_ ≠ (u14 : Value).ownBlock)) (Kd.R_apart' (Kd.R_apart' (Kd.R_apart' (HO152.out) (Kd.N_typed HO_10.out) (by decide)) (Kd.N_typed HO_11.out) (by decide)) (Kd.N_typed HO_14.out) (by decide)) (fun k_ hk => ⟨⟨hk.1.1.2, ⟨hk.1.2, hk.1.1.1⟩⟩, hk.2⟩))))); (case aB => exact (by repeat (first | (with_reducible first | exact HB.out | apply below_alloc | apply pw_below_drewN | apply below_drew1 | refine below_set ?_ GE134.out) | exact HB.out))); (case aF => exact (fun k_ hk => ⟨Kd.fresh' (Kd.N_lt (by (with_reducible repeat (first | apply Kd.N_alloc | apply Kd.N_drewN | apply Kd.N_drew)); exact HO_10.out)) k_ hk, Kd.fresh' (Kd.N_lt (by (with_reducible repeat (first | apply Kd.N_alloc | apply Kd.N_drewN | apply Kd.N_drew)); exact HO_11.out)) k_ hk, Kd.freshB (g := gb134) (o := .cells #[.int .i64 a3_0, .int .i64 a3_1, .string a3_2] 28 (0, 0)) (by (with_reducible repeat (first | refine blk_drewN ?_ _ | refine blk_drew ?_ | refine blk_alloc ?_ _)); exact BK134.out) k_ hk⟩)); (case aO => exact (by (with_reducible repeat (first | apply Kd.N_alloc | apply Kd.N_drewN | apply Kd.N_drew)); exact Kd.N_mono HO_14.out (fun _ hk => ⟨hk.1.1, ⟨hk.1.2.1, hk.1.2.2⟩⟩))); (case aS => exact (below_size (by repeat (first | (with_reducible first | exact HB.out | apply below_alloc | apply pw_below_drewN | apply below_drew1 | refine below_set ?_ GE134.out) | exact HB.out)))); (case aL => have := LMc26.out; omega); intro v154 w32 ho hb hg hat; rw [← Ny153.out] at ho; have n0_ := Aside0.mk (Kd.N_afterv (ok := (fun k_ => some k_ ≠ (u11 : Value).ownBlock ∧ some k_ ≠ (.slice Ao33 y150.length co33 : Value).ownBlock ∧ k_ ≠ gb134)) (by (with_reducible repeat (first | apply Kd.N_alloc | apply Kd.N_drewN | apply Kd.N_drew)); exact Kd.N_mono HO_10.out (fun _ hk => ⟨⟨hk.1.1, ⟨hk.2, hk.1.2.2⟩⟩, hk.1.2.1⟩)) hg hat); have n1_ := Aside0.mk (Kd.N_afterv (ok := (fun k_ => some k_ ≠ (.slice (some ad146) t136.length co14 : Value).ownBlock ∧ some k_ ≠ (.slice Ao33 y150.length co33 : Value).ownBlock ∧ k_ ≠ gb134)) (by (with_reducible repeat (first | apply Kd.N_alloc | apply Kd.N_drewN | apply Kd.N_drew)); exact Kd.N_mono HO_11.out (fun _ hk => ⟨⟨hk.1.1, ⟨hk.2, hk.1.2.2⟩⟩, hk.1.2.1⟩)) hg hat); have n2_ := Aside0.mk (blk_grown (g := gb134) (o := .cells #[.int .i64 a3_0, .int .i64 a3_1, .string a3_2] 28 (0, 0)) (by (with_reducible repeat (first | refine blk_drewN ?_ _ | refine blk_drew ?_ | refine blk_alloc ?_ _)); exact BK134.out) hg (Kd.N_ne HO_14.out BK134.out (by decide))); have n3_ := Aside0.mk (Kd.V_afterv (ok := (fun k_ => some k_ ≠ (.slice (some ad146) t136.length co14 : Value).ownBlock ∧ some k_ ≠ (u11 : Value).ownBlock ∧ some k_ ≠ (.slice Ao33 y150.length co33 : Value).ownBlock ∧ k_ ≠ gb134)) (by (with_reducible repeat (first | apply Kd.V_alloc | apply Kd.V_drewN | apply Kd.V_drew)); exact Kd.V_mono HL146_0.out (fun _ hk => ⟨⟨hk.1.1, ⟨hk.1.2.1, ⟨hk.2, hk.1.2.2.2⟩⟩⟩, hk.1.2.2.1⟩)) hg hat); have n4_ := Aside0.mk (hb); have n5_ := Aside0.mk (ho); clear HO_10; clear HO_11; clear BK134; clear HL146_0; clear HB; clear HO_14; clear HO152; have HO_10 := n0_; have HO_11 := n1_; have BK134 := n2_; have HL146_0 := n3_; have HB := n4_; have HO155 := n5_; clear n0_ n1_ n2_ n3_ n4_ n5_; clear ho hb hg hat))
                                go_roundg k3
                                case measure => have := HJ6.out; have := HK2.out; have := HK3.out; omega
                                case rel => exact ⟨(y153), (wrap64 (x15_3 + 1)), (by first | rfl | (simp; done) | (simp [*]; done)), H', ⟨by have := HJ6.out; have := HK2.out; have := HK3.out; omega⟩, ⟨by (with_reducible repeat (first | apply Kd.N_alloc | apply Kd.N_drewN | apply Kd.N_drew)); exact Kd.N_mono HO_10.out (fun _ hk => ⟨hk.1.1, ⟨hk.2, hk.1.2.2⟩⟩)⟩, ⟨by (with_reducible repeat (first | apply Kd.N_alloc | apply Kd.N_drewN | apply Kd.N_drew)); exact Kd.N_mono HO_11.out (fun _ hk => ⟨hk.1.1, ⟨hk.2, hk.1.2.2⟩⟩)⟩, ⟨by (with_reducible repeat (first | apply Kd.N_alloc | apply Kd.N_drewN | apply Kd.N_drew)); exact HO155.out⟩, ⟨by (with_reducible repeat (first | refine blk_drewN ?_ _ | refine blk_drew ?_ | refine blk_alloc ?_ _)); exact BK134.out⟩, ⟨by repeat (first | (with_reducible first | exact HB.out | apply below_alloc | apply pw_below_drewN | apply below_drew1 | refine below_set ?_ GE134.out) | exact HB.out)⟩⟩
                              · rw [if_neg c26] at H
                                exact absurd H (by simp)
                            · rw [if_neg c25] at H
                              exact absurd H (by simp)
                          · rw [if_neg c24] at H
                            have c24b0 : (x15_3 == (Int.tmod (wrap64 (a2)) (t136.length : Int))) = false := beq_eq_false_iff_ne.mpr c24
                            (try (have c24b0q_hl139_0 := c24b0; rw [hl139_0] at c24b0q_hl139_0))
                            (try (have c24b0q_hl146_0 := c24b0; rw [hl146_0] at c24b0q_hl146_0))
                            have c24b1 : (x15_3 != (Int.tmod (wrap64 (a2)) (t136.length : Int))) = true := bne_iff_ne.mpr c24
                            (try (have c24b1q_hl139_0 := c24b1; rw [hl139_0] at c24b1q_hl139_0))
                            (try (have c24b1q_hl146_0 := c24b1; rw [hl146_0] at c24b1q_hl146_0))
                            by_cases c34 : x14_3.length < 5864062014805
                            · rw [if_pos c34] at H
                              have LMc34 := Aside0.mk c34
                              clear c34
                              obtain ⟨y156, hy156⟩ : ∃ y_ : List (List (S28)), y_ = (x14_3 ++ [y147]) := ⟨_, rfl⟩
                              replace H : (law16_SortedBags.l1 k3 l1 t135 t136 x11_2 (Int.tmod (wrap64 (a2)) (t136.length : Int)) y156 (wrap64 (x15_3 + 1)) a3_0 a3_1 a3_2) = some r := by first | (rw [hy156]; with_reducible exact H) | (have H2_ := (Option.bind_some _ _).symm.trans H; rw [hy156]; with_reducible exact H2_) | (have H2_ := (Option.bind_some _ _).symm.trans H; with_reducible exact H2_) | with_reducible exact H | (rw [hy156]; exact H) | exact H
                              have Ny156 := Aside0.mk hy156
                              clear hy156
                              have H' := Aside0.mk H
                              clear H
                              go_wp2_with (first | ((with_reducible refine gate_dst (N := 54) rfl ?_); (try (refine gate_guard (by rfl) ?_; dsimp only)); refine Kd.R_lit k28 _ 28 ?hg (N := 54) ?hd (xs := ([] : List (S28))) (inner := []) (ok := fun _ => True) (okp := fun _ => True) ?hr ?hp (fun _ hk => hk) trivial (Below.refl _ _) (Nat.le_refl _) (by simp) ?_; (case hd => rfl); (case hg => rfl); (case hr => first | (go_simp; done) | (go_simp; rfl)); (case hp => exact (Reps.none _ _)); intro v144 w35 ho36 hb hg_ hnew_; clear hg_ hnew_; (first | rw [← Ny143.out] at ho36 | (simp only [Int.reduceToNat] at ho36; rw [← Ny143.out] at ho36)); have n0_ := Aside0.mk (Kd.N_elder' (by (with_reducible repeat (first | apply Kd.N_alloc | apply Kd.N_drewN | apply Kd.N_drew)); exact HO_10.out) (Kd.R_base ho36) hb); have n1_ := Aside0.mk (Kd.N_elder' (by (with_reducible repeat (first | apply Kd.N_alloc | apply Kd.N_drewN | apply Kd.N_drew)); exact HO_11.out) (Kd.R_base ho36) hb); have n2_ := Aside0.mk (Kd.N_elder' (by (with_reducible repeat (first | apply Kd.N_alloc | apply Kd.N_drewN | apply Kd.N_drew)); exact HO_14.out) (Kd.R_base ho36) hb); have n3_ := Aside0.mk (Kd.R_lower (Kd.R_newB ho36 (g := gb134) (o := .cells #[.int .i64 a3_0, .int .i64 a3_1, .string a3_2] 28 (0, 0)) (by (with_reducible repeat (first | refine blk_drewN ?_ _ | refine blk_drew ?_ | refine blk_alloc ?_ _)); exact BK134.out)) (below_size (by repeat (first | (with_reducible first | exact HB.out | apply below_alloc | apply pw_below_drewN | apply below_drew1 | refine below_set ?_ GE134.out) | exact HB.out)))); have n4_ := Aside0.mk (blk_below (g := gb134) (o := .cells #[.int .i64 a3_0, .int .i64 a3_1, .string a3_2] 28 (0, 0)) (by (with_reducible repeat (first | refine blk_drewN ?_ _ | refine blk_drew ?_ | refine blk_alloc ?_ _)); exact BK134.out) hb); have n5_ := Aside0.mk (below_step (by repeat (first | (with_reducible first | exact HB.out | apply below_alloc | apply pw_below_drewN | apply below_drew1 | refine below_set ?_ GE134.out) | exact HB.out)) hb); clear HO_10; clear HO_11; clear HO_14; clear BK134; clear HB; have HO_10 := n0_; have HO_11 := n1_; have HO_14 := n2_; have HO145 := n3_; have BK134 := n4_; have HB := n5_; clear n0_ n1_ n2_ n3_ n4_ n5_; clear hb ho36; have p146 : 0 ≤ (x15_3 : Int) := of_decide_eq_true (by first | (with_reducible assumption) | assumption); have q146 : x15_3 < (t136.length : Int) := of_decide_eq_true (by first | (with_reducible assumption) | assumption); obtain ⟨ad146, A146_0, c146_0, e146, hx146_0, hl146_0, hi146_0⟩ := at_L3 (Kd.N_reads' HO_10.out).2.2 x15_3 p146 q146; cases e146; obtain ⟨ce146, hce146, hMe146, hcc146⟩ := Kd.N_get HO_10.out [] x15_3 p146 (by first | exact q146 | exact of_decide_eq_true (by first | (with_reducible assumption) | assumption) | (have e_ := (Kd.N_reads' HO_10.out).1; omega)); obtain ⟨ua146_0, uc146_0, rfl, ul146_0, ge146_0⟩ := Kd.FK_slice_open hMe146; have hv146_0 := hcc146 0 _ rfl; rw [Nat.add_zero, show ((Kd.slice 28 k28)).sz = 1 from rfl, Nat.mul_one] at hv146_0; replace hv146_0 := Option.some.inj (hv146_0.symm.trans hx146_0); injection hv146_0 with hva_ hvn_ hvc_; rw [hva_] at ge146_0; rw [hvc_] at ul146_0; have HL146_0 := Aside0.mk (show Kd.V k28 28 _ w.heap.size _ _ (rd_L3 t136 x15_3) from Kd.V_mk ul146_0 ge146_0); clear hva_ hvn_ hvc_ ge146_0 ul146_0; clear hcc146 hce146; have HR146_0 := Aside0.mk hi146_0; have HC146_0 := Aside0.mk hl146_0; clear hi146_0 hl146_0; replace p146 := eq_true p146; replace q146 := eq_true q146) | ((with_reducible refine gate_builtin (b := .append) (xs := #[.tmp 54, .tmp 58]) rfl ?_); (try (refine gate_guard (by rfl) ?_; dsimp only)); at_builtin; refine Kd.R_append_rows k28 (w0 := w) w.heap.size rfl (.tmp 54) (.tmp 58) 26 28 (.agg #[(.int .i64 0), (.int .i64 0), (.string ⟨#[]⟩)]) 32 rfl Try.underlying26 info28 rfl (by decide) (by omega) v144 y143 (rd_L3 t136 x15_3) _ _ _ (fun k_ => k_ ≠ gb134) (fun _ => False) rfl rfl ?aO ?aR (fun _ _ h => h) (fun _ h => h.elim) ?aF ?aB ?aS ?aL ?_; (case aR => repeat (first | exact (by repeat (first | (with_reducible exact HR146_0.out) | (with_reducible refine Kd.C_alloc ?_ _) | (with_reducible refine Kd.C_drewN ?_ _) | (with_reducible refine Kd.C_drew ?_) | exact HR146_0.out)) | (with_reducible refine Kd.C_alloc ?_ _) | (with_reducible refine Kd.C_drewN ?_ _) | (with_reducible refine Kd.C_drew ?_))); (case aB => exact (by repeat (first | (with_reducible first | exact HB.out | apply below_alloc | apply pw_below_drewN | apply below_drew1 | refine below_set ?_ GE134.out) | exact HB.out))); (case aF => exact (fun k_ hk => Kd.freshB (g := gb134) (o := .cells #[.int .i64 a3_0, .int .i64 a3_1, .string a3_2] 28 (0, 0)) (by (with_reducible repeat (first | refine blk_drewN ?_ _ | refine blk_drew ?_ | refine blk_alloc ?_ _)); exact BK134.out) k_ hk)); (case aO => exact (by (with_reducible repeat (first | apply Kd.R_alloc | apply Kd.R_drewN | apply Kd.R_drew)); exact Kd.R_mono HO145.out (fun _ hk => hk.2))); (case aS => exact (below_size (by repeat (first | (with_reducible first | exact HB.out | apply below_alloc | apply pw_below_drewN | apply below_drew1 | refine below_set ?_ GE134.out) | exact HB.out)))); (case aL => have := LMc23.out; omega); intro v148 w37 ho hb hg hat; rw [← Ny147.out] at ho; have n0_ := Aside0.mk (Kd.N_afterv (ok := (fun k_ => some k_ ≠ (u11 : Value).ownBlock ∧ some k_ ≠ (u14 : Value).ownBlock ∧ k_ ≠ gb134)) (by (with_reducible repeat (first | apply Kd.N_alloc | apply Kd.N_drewN | apply Kd.N_drew)); exact HO_10.out) hg hat); have n1_ := Aside0.mk (Kd.N_afterv (ok := (fun k_ => some k_ ≠ (.slice (some ad146) t136.length co14 : Value).ownBlock ∧ some k_ ≠ (u14 : Value).ownBlock ∧ k_ ≠ gb134)) (by (with_reducible repeat (first | apply Kd.N_alloc | apply Kd.N_drewN | apply Kd.N_drew)); exact HO_11.out) hg hat); have n2_ := Aside0.mk (Kd.N_afterv (ok := (fun k_ => some k_ ≠ (.slice (some ad146) t136.length co14 : Value).ownBlock ∧ some k_ ≠ (u11 : Value).ownBlock ∧ k_ ≠ gb134)) (by (with_reducible repeat (first | apply Kd.N_alloc | apply Kd.N_drewN | apply Kd.N_drew)); exact HO_14.out) hg hat); have n3_ := Aside0.mk (blk_grown (g := gb134) (o := .cells #[.int .i64 a3_0, .int .i64 a3_1, .string a3_2] 28 (0, 0)) (by (with_reducible repeat (first | refine blk_drewN ?_ _ | refine blk_drew ?_ | refine blk_alloc ?_ _)); exact BK134.out) hg (Kd.R_away HO145.out (fun _ hk => hk.2))); have n4_ := Aside0.mk (Kd.V_afterv (ok := (fun k_ => some k_ ≠ (.slice (some ad146) t136.length co14 : Value).ownBlock ∧ some k_ ≠ (u11 : Value).ownBlock ∧ some k_ ≠ (u14 : Value).ownBlock ∧ k_ ≠ gb134)) (by (with_reducible repeat (first | apply Kd.V_alloc | apply Kd.V_drewN | apply Kd.V_drew)); exact Kd.V_mono HL146_0.out (fun _ hk => ⟨⟨hk.2, ⟨hk.1.1.1, ⟨hk.1.1.2.1, hk.1.1.2.2⟩⟩⟩, hk.1.2⟩)) hg hat); have n5_ := Aside0.mk (hb); have n6_ := Aside0.mk (ho); clear HO_10; clear HO_11; clear HO_14; clear BK134; clear HL146_0; clear HB; clear HO145; have HO_10 := n0_; have HO_11 := n1_; have HO_14 := n2_; have BK134 := n3_; have HL146_0 := n4_; have HB := n5_; have HO149 := n6_; clear n0_ n1_ n2_ n3_ n4_ n5_ n6_; clear ho hb hg hat; obtain ⟨Ao39, co39, eo39⟩ := Kd.R_slice HO149.out; subst eo39) | ((with_reducible refine gate_builtin (b := .append) (xs := #[.tmp 67, .tmp 69]) rfl ?_); (try (refine gate_guard (by rfl) ?_; dsimp only)); at_builtin; refine Kd.N_append (Kd.slice 28 k28) (w0 := w) w.heap.size rfl (.tmp 67) (.tmp 69) 22 26 (.slice none 0 0) 24 rfl Try.underlying22 info26 rfl (by decide) (by omega) u14 x14_3 y147 [.slice Ao39 y147.length co39] (fun k_ => some k_ ≠ (.slice (some ad146) t136.length co14 : Value).ownBlock ∧ some k_ ≠ (u11 : Value).ownBlock ∧ k_ ≠ gb134) (fun k_ => ((fun k_ => some k_ ≠ (.slice (some ad146) t136.length co14 : Value).ownBlock ∧ some k_ ≠ (u11 : Value).ownBlock ∧ k_ ≠ gb134)) k_ ∧ some k_ ≠ (u14 : Value).ownBlock) rfl rfl ?aP (fun _ hk => hk) ?aF ?aO ?aB ?aS ?aL ?_; (case aP => exact (Kd.FK_slice_mk (Kd.R_reads' (Kd.R_mono (ok' := (fun k_ => ((fun k_ => some k_ ≠ (.slice (some ad146) t136.length co14 : Value).ownBlock ∧ some k_ ≠ (u11 : Value).ownBlock ∧ k_ ≠ gb134)) k_ ∧ some k_ ≠ (u14 : Value).ownBlock)) (Kd.R_apart' (Kd.R_apart' (Kd.R_apart' (HO149.out) (Kd.N_typed HO_10.out) (by decide)) (Kd.N_typed HO_11.out) (by decide)) (Kd.N_typed HO_14.out) (by decide)) (fun k_ hk => ⟨⟨hk.1.1.2, ⟨hk.1.2, hk.1.1.1⟩⟩, hk.2⟩))).2.1 (Kd.R_F (Kd.R_mono (ok' := (fun k_ => ((fun k_ => some k_ ≠ (.slice (some ad146) t136.length co14 : Value).ownBlock ∧ some k_ ≠ (u11 : Value).ownBlock ∧ k_ ≠ gb134)) k_ ∧ some k_ ≠ (u14 : Value).ownBlock)) (Kd.R_apart' (Kd.R_apart' (Kd.R_apart' (HO149.out) (Kd.N_typed HO_10.out) (by decide)) (Kd.N_typed HO_11.out) (by decide)) (Kd.N_typed HO_14.out) (by decide)) (fun k_ hk => ⟨⟨hk.1.1.2, ⟨hk.1.2, hk.1.1.1⟩⟩, hk.2⟩))))); (case aB => exact (by repeat (first | (with_reducible first | exact HB.out | apply below_alloc | apply pw_below_drewN | apply below_drew1 | refine below_set ?_ GE134.out) | exact HB.out))); (case aF => exact (fun k_ hk => ⟨Kd.fresh' (Kd.N_lt (by (with_reducible repeat (first | apply Kd.N_alloc | apply Kd.N_drewN | apply Kd.N_drew)); exact HO_10.out)) k_ hk, Kd.fresh' (Kd.N_lt (by (with_reducible repeat (first | apply Kd.N_alloc | apply Kd.N_drewN | apply Kd.N_drew)); exact HO_11.out)) k_ hk, Kd.freshB (g := gb134) (o := .cells #[.int .i64 a3_0, .int .i64 a3_1, .string a3_2] 28 (0, 0)) (by (with_reducible repeat (first | refine blk_drewN ?_ _ | refine blk_drew ?_ | refine blk_alloc ?_ _)); exact BK134.out) k_ hk⟩)); (case aO => exact (by (with_reducible repeat (first | apply Kd.N_alloc | apply Kd.N_drewN | apply Kd.N_drew)); exact Kd.N_mono HO_14.out (fun _ hk => ⟨hk.1.1, ⟨hk.1.2.1, hk.1.2.2⟩⟩))); (case aS => exact (below_size (by repeat (first | (with_reducible first | exact HB.out | apply below_alloc | apply pw_below_drewN | apply below_drew1 | refine below_set ?_ GE134.out) | exact HB.out)))); (case aL => have := LMc34.out; omega); intro v157 w38 ho hb hg hat; rw [← Ny156.out] at ho; have n0_ := Aside0.mk (Kd.N_afterv (ok := (fun k_ => some k_ ≠ (u11 : Value).ownBlock ∧ some k_ ≠ (.slice Ao39 y147.length co39 : Value).ownBlock ∧ k_ ≠ gb134)) (by (with_reducible repeat (first | apply Kd.N_alloc | apply Kd.N_drewN | apply Kd.N_drew)); exact Kd.N_mono HO_10.out (fun _ hk => ⟨⟨hk.1.1, ⟨hk.2, hk.1.2.2⟩⟩, hk.1.2.1⟩)) hg hat); have n1_ := Aside0.mk (Kd.N_afterv (ok := (fun k_ => some k_ ≠ (.slice (some ad146) t136.length co14 : Value).ownBlock ∧ some k_ ≠ (.slice Ao39 y147.length co39 : Value).ownBlock ∧ k_ ≠ gb134)) (by (with_reducible repeat (first | apply Kd.N_alloc | apply Kd.N_drewN | apply Kd.N_drew)); exact Kd.N_mono HO_11.out (fun _ hk => ⟨⟨hk.1.1, ⟨hk.2, hk.1.2.2⟩⟩, hk.1.2.1⟩)) hg hat); have n2_ := Aside0.mk (blk_grown (g := gb134) (o := .cells #[.int .i64 a3_0, .int .i64 a3_1, .string a3_2] 28 (0, 0)) (by (with_reducible repeat (first | refine blk_drewN ?_ _ | refine blk_drew ?_ | refine blk_alloc ?_ _)); exact BK134.out) hg (Kd.N_ne HO_14.out BK134.out (by decide))); have n3_ := Aside0.mk (Kd.V_afterv (ok := (fun k_ => some k_ ≠ (.slice (some ad146) t136.length co14 : Value).ownBlock ∧ some k_ ≠ (u11 : Value).ownBlock ∧ some k_ ≠ (.slice Ao39 y147.length co39 : Value).ownBlock ∧ k_ ≠ gb134)) (by (with_reducible repeat (first | apply Kd.V_alloc | apply Kd.V_drewN | apply Kd.V_drew)); exact Kd.V_mono HL146_0.out (fun _ hk => ⟨⟨hk.1.1, ⟨hk.1.2.1, ⟨hk.2, hk.1.2.2.2⟩⟩⟩, hk.1.2.2.1⟩)) hg hat); have n4_ := Aside0.mk (hb); have n5_ := Aside0.mk (ho); clear HO_10; clear HO_11; clear BK134; clear HL146_0; clear HB; clear HO_14; clear HO149; have HO_10 := n0_; have HO_11 := n1_; have BK134 := n2_; have HL146_0 := n3_; have HB := n4_; have HO158 := n5_; clear n0_ n1_ n2_ n3_ n4_ n5_; clear ho hb hg hat))
                              go_roundg k3
                              case measure => have := HJ6.out; have := HK2.out; have := HK3.out; omega
                              case rel => exact ⟨(y156), (wrap64 (x15_3 + 1)), (by first | rfl | (simp; done) | (simp [*]; done)), H', ⟨by have := HJ6.out; have := HK2.out; have := HK3.out; omega⟩, ⟨by (with_reducible repeat (first | apply Kd.N_alloc | apply Kd.N_drewN | apply Kd.N_drew)); exact Kd.N_mono HO_10.out (fun _ hk => ⟨hk.1.1, ⟨hk.2, hk.1.2.2⟩⟩)⟩, ⟨by (with_reducible repeat (first | apply Kd.N_alloc | apply Kd.N_drewN | apply Kd.N_drew)); exact Kd.N_mono HO_11.out (fun _ hk => ⟨hk.1.1, ⟨hk.2, hk.1.2.2⟩⟩)⟩, ⟨by (with_reducible repeat (first | apply Kd.N_alloc | apply Kd.N_drewN | apply Kd.N_drew)); exact HO158.out⟩, ⟨by (with_reducible repeat (first | refine blk_drewN ?_ _ | refine blk_drew ?_ | refine blk_alloc ?_ _)); exact BK134.out⟩, ⟨by repeat (first | (with_reducible first | exact HB.out | apply below_alloc | apply pw_below_drewN | apply below_drew1 | refine below_set ?_ GE134.out) | exact HB.out)⟩⟩
                            · rw [if_neg c34] at H
                              exact absurd H (by simp)
                        · rw [if_neg c23] at H
                          exact absurd H (by simp)
                      · rw [if_neg c22] at H
                        exact absurd H (by simp)
                    · rw [if_neg c21] at H
                      have c21b0 : decide (x15_3 < (t136.length : Int)) = false := decide_eq_false c21
                      (try (have c21b0q_hl139_0 := c21b0; rw [hl139_0] at c21b0q_hl139_0))
                      (try (have c21b0q_hl146_0 := c21b0; rw [hl146_0] at c21b0q_hl146_0))
                      clear c21
                      by_cases c40 : t135 = true
                      · subst c40
                        have H1 : ((sorted_Bag.f t136 x11_2).bind fun t159 => (if t159 = true then ((sorted_By.f t136 l1).bind fun t160 => ((sorted_Bag.f x11_2 t160).bind fun t163 => (if t163 = true then ((sorted_Bag.f t136 x14_3).bind fun t164 => (if t164 = true then (some false) else (if 1 ≤ (t136.length : Int) then ((sorted_Bag.f t136 (t136.drop 1)).bind fun t170 => (some (!t170))) else (none)))) else (some false)))) else (some false))) = some r := by rw [if_pos rfl] at H; exact H
                        clear H
                        have H := H1
                        clear H1
                        replace H := Option.bind_eq_some_iff.mp H
                        obtain ⟨t159, A410, H⟩ := H
                        replace H : (if t159 = true then ((sorted_By.f t136 l1).bind fun t160 => ((sorted_Bag.f x11_2 t160).bind fun t163 => (if t163 = true then ((sorted_Bag.f t136 x14_3).bind fun t164 => (if t164 = true then (some false) else (if 1 ≤ (t136.length : Int) then ((sorted_Bag.f t136 (t136.drop 1)).bind fun t170 => (some (!t170))) else (none)))) else (some false)))) else (some false)) = some r := H
                        have A41 := Aside0.mk A410
                        clear A410
                        by_cases c42 : t159 = true
                        · subst c42
                          have H1 : ((sorted_By.f t136 l1).bind fun t160 => ((sorted_Bag.f x11_2 t160).bind fun t163 => (if t163 = true then ((sorted_Bag.f t136 x14_3).bind fun t164 => (if t164 = true then (some false) else (if 1 ≤ (t136.length : Int) then ((sorted_Bag.f t136 (t136.drop 1)).bind fun t170 => (some (!t170))) else (none)))) else (some false)))) = some r := by rw [if_pos rfl] at H; exact H
                          clear H
                          have H := H1
                          clear H1
                          replace H := Option.bind_eq_some_iff.mp H
                          obtain ⟨t160, A430, H⟩ := H
                          replace H : ((sorted_Bag.f x11_2 t160).bind fun t163 => (if t163 = true then ((sorted_Bag.f t136 x14_3).bind fun t164 => (if t164 = true then (some false) else (if 1 ≤ (t136.length : Int) then ((sorted_Bag.f t136 (t136.drop 1)).bind fun t170 => (some (!t170))) else (none)))) else (some false))) = some r := H
                          have A43 := Aside0.mk A430
                          clear A430
                          replace H := Option.bind_eq_some_iff.mp H
                          obtain ⟨t163, A440, H⟩ := H
                          replace H : (if t163 = true then ((sorted_Bag.f t136 x14_3).bind fun t164 => (if t164 = true then (some false) else (if 1 ≤ (t136.length : Int) then ((sorted_Bag.f t136 (t136.drop 1)).bind fun t170 => (some (!t170))) else (none)))) else (some false)) = some r := H
                          have A44 := Aside0.mk A440
                          clear A440
                          by_cases c45 : t163 = true
                          · subst c45
                            have H1 : ((sorted_Bag.f t136 x14_3).bind fun t164 => (if t164 = true then (some false) else (if 1 ≤ (t136.length : Int) then ((sorted_Bag.f t136 (t136.drop 1)).bind fun t170 => (some (!t170))) else (none)))) = some r := by rw [if_pos rfl] at H; exact H
                            clear H
                            have H := H1
                            clear H1
                            replace H := Option.bind_eq_some_iff.mp H
                            obtain ⟨t164, A460, H⟩ := H
                            replace H : (if t164 = true then (some false) else (if 1 ≤ (t136.length : Int) then ((sorted_Bag.f t136 (t136.drop 1)).bind fun t170 => (some (!t170))) else (none))) = some r := H
                            have A46 := Aside0.mk A460
                            clear A460
                            by_cases c47 : t164 = true
                            · subst c47
                              have H1 : (some false) = some r := by rw [if_pos rfl] at H; exact H
                              clear H
                              have H := H1
                              clear H1
                              exact absurd ((Option.some.inj H).trans hr_.out) (by decide)
                            · replace c47 := Bool.eq_false_iff.mpr c47
                              subst c47
                              have H1 : (if 1 ≤ (t136.length : Int) then ((sorted_Bag.f t136 (t136.drop 1)).bind fun t170 => (some (!t170))) else (none)) = some r := by rw [if_neg (show ¬ (false = true) by decide)] at H; exact H
                              clear H
                              have H := H1
                              clear H1
                              by_cases c48 : 1 ≤ (t136.length : Int)
                              · rw [if_pos c48] at H
                                have c48b0 := eq_true c48
                                have c48b1 : decide (1 ≤ (t136.length : Int)) = true := decide_eq_true c48
                                (try (have c48b1q_hl139_0 := c48b1; rw [hl139_0] at c48b1q_hl139_0))
                                (try (have c48b1q_hl146_0 := c48b1; rw [hl146_0] at c48b1q_hl146_0))
                                clear c48
                                obtain ⟨y165, hy165⟩ : ∃ y_ : List (List (S28)), y_ = (t136.drop 1) := ⟨_, rfl⟩
                                replace H : ((sorted_Bag.f t136 y165).bind fun t170 => (some (!t170))) = some r := by first | (rw [hy165]; with_reducible exact H) | (have H2_ := (Option.bind_some _ _).symm.trans H; rw [hy165]; with_reducible exact H2_) | (have H2_ := (Option.bind_some _ _).symm.trans H; with_reducible exact H2_) | with_reducible exact H | (rw [hy165]; exact H) | exact H
                                have Ny165 := Aside0.mk hy165
                                clear hy165
                                replace H := Option.bind_eq_some_iff.mp H
                                obtain ⟨t170, A490, H⟩ := H
                                replace H : (some (!t170)) = some r := H
                                have A49 := Aside0.mk A490
                                clear A490
                                obtain rfl := Option.some.inj H
                                obtain ⟨Ao50, co50, eo50⟩ := Kd.N_slice HO_11.out
                                subst eo50
                                go_wp2_with (first | (go_at_call 13; (with_reducible refine (sorted_Bag.calls _ _ t136 _ _ x11_2 true _ ?side1 ?side2 ?side3 ?side4 A41.out).mono ?_); (case side1 => repeat (first | exact (Kd.N_reads' HO_10.out).2.2 | (with_reducible refine Kd.C_alloc ?_ _) | (with_reducible refine Kd.C_drewN ?_ _) | (with_reducible refine Kd.C_drew ?_))); (case side2 => exact (Kd.N_reads' HO_10.out).2.1); (case side3 => repeat (first | exact (Kd.N_reads' HO_11.out).2.2 | (with_reducible refine Kd.C_alloc ?_ _) | (with_reducible refine Kd.C_drewN ?_ _) | (with_reducible refine Kd.C_drew ?_))); (case side4 => exact (Kd.N_reads' HO_11.out).2.1); rintro e w51 ⟨rfl, hb⟩; have n0_ := Aside0.mk (Kd.N_below (by (with_reducible repeat (first | apply Kd.N_alloc | apply Kd.N_drewN | apply Kd.N_drew)); exact HO_10.out) hb); have n1_ := Aside0.mk (Kd.N_below (by (with_reducible repeat (first | apply Kd.N_alloc | apply Kd.N_drewN | apply Kd.N_drew)); exact HO_11.out) hb); have n2_ := Aside0.mk (Kd.N_below (by (with_reducible repeat (first | apply Kd.N_alloc | apply Kd.N_drewN | apply Kd.N_drew)); exact HO_14.out) hb); have n3_ := Aside0.mk (blk_below (g := gb134) (o := .cells #[.int .i64 a3_0, .int .i64 a3_1, .string a3_2] 28 (0, 0)) (by (with_reducible repeat (first | refine blk_drewN ?_ _ | refine blk_drew ?_ | refine blk_alloc ?_ _)); exact BK134.out) hb); have n4_ := Aside0.mk (below_step (by repeat (first | (with_reducible first | exact HB.out | apply below_alloc | apply pw_below_drewN | apply below_drew1 | refine below_set ?_ GE134.out) | exact HB.out)) hb); clear HO_10; clear HO_11; clear HO_14; clear BK134; clear HB; have HO_10 := n0_; have HO_11 := n1_; have HO_14 := n2_; have BK134 := n3_; have HB := n4_; clear n0_ n1_ n2_ n3_ n4_; (try clear hb); (try clear hb2); (try clear hk); (try clear hi)) | (go_at_call 11; (with_reducible refine (sorted_By.calls _ _ t136 _ _ l1 t160 _ ?side1 ?side2 ?side3 ?side4 A43.out).mono ?_); (case side1 => repeat (first | exact (Kd.N_reads' HO_10.out).2.2 | (with_reducible refine Kd.C_alloc ?_ _) | (with_reducible refine Kd.C_drewN ?_ _) | (with_reducible refine Kd.C_drew ?_))); (case side2 => exact (Kd.N_reads' HO_10.out).2.1); (case side3 => repeat (first | exact (Kd.C_below HR1.out HB.out) | (with_reducible refine Kd.C_alloc ?_ _) | (with_reducible refine Kd.C_drewN ?_ _) | (with_reducible refine Kd.C_drew ?_))); (case side4 => exact HC1.out); rintro e w52 ⟨v161, rfl, ho0, hb⟩; have n0_ := Aside0.mk (Kd.N_elder' (by (with_reducible repeat (first | apply Kd.N_alloc | apply Kd.N_drewN | apply Kd.N_drew)); exact HO_10.out) (Kd.S_base ho0) hb); have n1_ := Aside0.mk (Kd.N_elder' (by (with_reducible repeat (first | apply Kd.N_alloc | apply Kd.N_drewN | apply Kd.N_drew)); exact HO_11.out) (Kd.S_base ho0) hb); have n2_ := Aside0.mk (Kd.N_elder' (by (with_reducible repeat (first | apply Kd.N_alloc | apply Kd.N_drewN | apply Kd.N_drew)); exact HO_14.out) (Kd.S_base ho0) hb); have n3_ := Aside0.mk (Kd.N_lower (Kd.N_mono (ok' := fun k_ => some k_ ≠ (.slice Ao14 t136.length co14 : Value).ownBlock ∧ some k_ ≠ (.slice Ao50 x11_2.length co50 : Value).ownBlock ∧ some k_ ≠ (u14 : Value).ownBlock ∧ k_ ≠ gb134) (Kd.S_N (Kd.S_bound ho0)) (fun k_ hk_ => ⟨(Kd.fresh' (Kd.N_lt (by (with_reducible repeat (first | apply Kd.N_alloc | apply Kd.N_drewN | apply Kd.N_drew)); exact HO_10.out)) k_ hk_.2.1), (Kd.fresh' (Kd.N_lt (by (with_reducible repeat (first | apply Kd.N_alloc | apply Kd.N_drewN | apply Kd.N_drew)); exact HO_11.out)) k_ hk_.2.1), (Kd.fresh' (Kd.N_lt (by (with_reducible repeat (first | apply Kd.N_alloc | apply Kd.N_drewN | apply Kd.N_drew)); exact HO_14.out)) k_ hk_.2.1), (Kd.freshB (g := gb134) (o := .cells #[.int .i64 a3_0, .int .i64 a3_1, .string a3_2] 28 (0, 0)) (by (with_reducible repeat (first | refine blk_drewN ?_ _ | refine blk_drew ?_ | refine blk_alloc ?_ _)); exact BK134.out) k_ hk_.2.1)⟩)) (below_size (by repeat (first | (with_reducible first | exact HB.out | apply below_alloc | apply pw_below_drewN | apply below_drew1 | refine below_set ?_ GE134.out) | exact HB.out)))); have n4_ := Aside0.mk (blk_below (g := gb134) (o := .cells #[.int .i64 a3_0, .int .i64 a3_1, .string a3_2] 28 (0, 0)) (by (with_reducible repeat (first | refine blk_drewN ?_ _ | refine blk_drew ?_ | refine blk_alloc ?_ _)); exact BK134.out) hb); have n5_ := Aside0.mk (below_step (by repeat (first | (with_reducible first | exact HB.out | apply below_alloc | apply pw_below_drewN | apply below_drew1 | refine below_set ?_ GE134.out) | exact HB.out)) hb); clear HO_10; clear HO_11; clear HO_14; clear BK134; clear HB; have HO_10 := n0_; have HO_11 := n1_; have HO_14 := n2_; have HO162 := n3_; have BK134 := n4_; have HB := n5_; clear n0_ n1_ n2_ n3_ n4_ n5_; (try clear hb); (try clear hb2); (try clear hk); (try clear hi); (try clear ho0); obtain ⟨Ao53, co53, eo53⟩ := Kd.N_slice HO162.out; subst eo53) | (go_at_call 13; (with_reducible refine (sorted_Bag.calls _ _ x11_2 _ _ t160 true _ ?side1 ?side2 ?side3 ?side4 A44.out).mono ?_); (case side1 => repeat (first | exact (Kd.N_reads' HO_11.out).2.2 | (with_reducible refine Kd.C_alloc ?_ _) | (with_reducible refine Kd.C_drewN ?_ _) | (with_reducible refine Kd.C_drew ?_))); (case side2 => exact (Kd.N_reads' HO_11.out).2.1); (case side3 => repeat (first | exact (Kd.N_reads' HO162.out).2.2 | (with_reducible refine Kd.C_alloc ?_ _) | (with_reducible refine Kd.C_drewN ?_ _) | (with_reducible refine Kd.C_drew ?_))); (case side4 => exact (Kd.N_reads' HO162.out).2.1); rintro e w54 ⟨rfl, hb⟩; have n0_ := Aside0.mk (Kd.N_below (by (with_reducible repeat (first | apply Kd.N_alloc | apply Kd.N_drewN | apply Kd.N_drew)); exact HO_10.out) hb); have n1_ := Aside0.mk (Kd.N_below (by (with_reducible repeat (first | apply Kd.N_alloc | apply Kd.N_drewN | apply Kd.N_drew)); exact HO_11.out) hb); have n2_ := Aside0.mk (Kd.N_below (by (with_reducible repeat (first | apply Kd.N_alloc | apply Kd.N_drewN | apply Kd.N_drew)); exact HO_14.out) hb); have n3_ := Aside0.mk (Kd.N_below (by (with_reducible repeat (first | apply Kd.N_alloc | apply Kd.N_drewN | apply Kd.N_drew)); exact HO162.out) hb); have n4_ := Aside0.mk (blk_below (g := gb134) (o := .cells #[.int .i64 a3_0, .int .i64 a3_1, .string a3_2] 28 (0, 0)) (by (with_reducible repeat (first | refine blk_drewN ?_ _ | refine blk_drew ?_ | refine blk_alloc ?_ _)); exact BK134.out) hb); have n5_ := Aside0.mk (below_step (by repeat (first | (with_reducible first | exact HB.out | apply below_alloc | apply pw_below_drewN | apply below_drew1 | refine below_set ?_ GE134.out) | exact HB.out)) hb); clear HO_10; clear HO_11; clear HO_14; clear HO162; clear BK134; clear HB; have HO_10 := n0_; have HO_11 := n1_; have HO_14 := n2_; have HO162 := n3_; have BK134 := n4_; have HB := n5_; clear n0_ n1_ n2_ n3_ n4_ n5_; (try clear hb); (try clear hb2); (try clear hk); (try clear hi); obtain ⟨Ao55, co55, eo55⟩ := Kd.N_slice HO_14.out; subst eo55) | (go_at_call 13; (with_reducible refine (sorted_Bag.calls _ _ t136 _ _ x14_3 false _ ?side1 ?side2 ?side3 ?side4 A46.out).mono ?_); (case side1 => repeat (first | exact (Kd.N_reads' HO_10.out).2.2 | (with_reducible refine Kd.C_alloc ?_ _) | (with_reducible refine Kd.C_drewN ?_ _) | (with_reducible refine Kd.C_drew ?_))); (case side2 => exact (Kd.N_reads' HO_10.out).2.1); (case side3 => repeat (first | exact (Kd.N_reads' HO_14.out).2.2 | (with_reducible refine Kd.C_alloc ?_ _) | (with_reducible refine Kd.C_drewN ?_ _) | (with_reducible refine Kd.C_drew ?_))); (case side4 => exact (Kd.N_reads' HO_14.out).2.1); rintro e w56 ⟨rfl, hb⟩; have n0_ := Aside0.mk (Kd.N_below (by (with_reducible repeat (first | apply Kd.N_alloc | apply Kd.N_drewN | apply Kd.N_drew)); exact HO_10.out) hb); have n1_ := Aside0.mk (Kd.N_below (by (with_reducible repeat (first | apply Kd.N_alloc | apply Kd.N_drewN | apply Kd.N_drew)); exact HO_11.out) hb); have n2_ := Aside0.mk (Kd.N_below (by (with_reducible repeat (first | apply Kd.N_alloc | apply Kd.N_drewN | apply Kd.N_drew)); exact HO_14.out) hb); have n3_ := Aside0.mk (Kd.N_below (by (with_reducible repeat (first | apply Kd.N_alloc | apply Kd.N_drewN | apply Kd.N_drew)); exact HO162.out) hb); have n4_ := Aside0.mk (blk_below (g := gb134) (o := .cells #[.int .i64 a3_0, .int .i64 a3_1, .string a3_2] 28 (0, 0)) (by (with_reducible repeat (first | refine blk_drewN ?_ _ | refine blk_drew ?_ | refine blk_alloc ?_ _)); exact BK134.out) hb); have n5_ := Aside0.mk (below_step (by repeat (first | (with_reducible first | exact HB.out | apply below_alloc | apply pw_below_drewN | apply below_drew1 | refine below_set ?_ GE134.out) | exact HB.out)) hb); clear HO_10; clear HO_11; clear HO_14; clear HO162; clear BK134; clear HB; have HO_10 := n0_; have HO_11 := n1_; have HO_14 := n2_; have HO162 := n3_; have BK134 := n4_; have HB := n5_; clear n0_ n1_ n2_ n3_ n4_ n5_; (try clear hb); (try clear hb2); (try clear hk); (try clear hi); have q57 : (1 : Int) ≤ ((t136.length : Int) : Int) := of_decide_eq_true (by first | (with_reducible assumption) | assumption); obtain ⟨i057, hi057, _, hsz57, _⟩ := info_parts info26; have hroom57 : t136.length ≤ co14 := (Kd.N_reads' HO_10.out).2.1; have hC57 : Kd.F (Kd.slice 28 k28) _ _ Ao14 t136.length t136 := (Kd.V_at (base := w.heap.size) (Kd.N_V HO_10.out)).2.2; have hcut57 := cut_from (P := Try.prog) 22 26 .i64 Try.underlying22 hi057 1 hsz57 Ao14 t136.length co14 1 (by omega) q57; have hr57 := Kd.F_cut (m := (1 : Int).toNat) (c := co14) hC57 (by omega) hroom57; obtain ⟨A57, hA57⟩ : ∃ A1, A1 = (if co14 = (1 : Int).toNat then Ao14 else (Ao14 : Option Addr).map (·.add ((1 : Int).toNat * 1))) := ⟨_, rfl⟩; obtain ⟨c57, hc57⟩ : ∃ c1, c1 = co14 - (1 : Int).toNat := ⟨_, rfl⟩; have hy57 : y165.length = t136.length - (1 : Int).toNat := (by rw [Ny165.out, List.length_drop] <;> omega); rw [show (t136).drop (1 : Int).toNat = y165 from Ny165.out.symm] at hr57; replace hr57 : Kd.F (Kd.slice 28 k28) _ _ A57 y165.length y165 := (by rw [hA57]; exact hr57); rw [← hy57, ← hA57, ← hc57] at hcut57; have HO169 := Aside0.mk (show Kd.V (Kd.slice 28 k28) 26 _ w.heap.size _ (.slice A57 y165.length c57) y165 from Kd.V_mk (by rw [hy57, hc57]; exact Nat.sub_le_sub_right hroom57 _) hr57); have HC169 := Aside0.mk (show y165.length ≤ c57 from by rw [hy57, hc57]; exact Nat.sub_le_sub_right hroom57 _); clear hr57 hC57 hroom57 hi057 hsz57 hc57; have KY57 := Aside0.mk hy57; have KA57 := Aside0.mk hA57; clear hy57 hA57; replace q57 := eq_true q57) | (go_at_call 13; (with_reducible refine (sorted_Bag.calls _ _ t136 _ _ y165 t170 _ ?side1 ?side2 ?side3 ?side4 A49.out).mono ?_); (case side1 => repeat (first | exact (Kd.N_reads' HO_10.out).2.2 | (with_reducible refine Kd.C_alloc ?_ _) | (with_reducible refine Kd.C_drewN ?_ _) | (with_reducible refine Kd.C_drew ?_))); (case side2 => exact (Kd.N_reads' HO_10.out).2.1); (case side3 => repeat (first | exact (Kd.V_reads' HO169.out).2.2 | (with_reducible refine Kd.C_alloc ?_ _) | (with_reducible refine Kd.C_drewN ?_ _) | (with_reducible refine Kd.C_drew ?_))); (case side4 => exact (Kd.V_reads' HO169.out).2.1); rintro e w58 ⟨rfl, hb⟩; have n0_ := Aside0.mk (Kd.N_below (by (with_reducible repeat (first | apply Kd.N_alloc | apply Kd.N_drewN | apply Kd.N_drew)); exact HO_10.out) hb); have n1_ := Aside0.mk (Kd.N_below (by (with_reducible repeat (first | apply Kd.N_alloc | apply Kd.N_drewN | apply Kd.N_drew)); exact HO_11.out) hb); have n2_ := Aside0.mk (Kd.N_below (by (with_reducible repeat (first | apply Kd.N_alloc | apply Kd.N_drewN | apply Kd.N_drew)); exact HO_14.out) hb); have n3_ := Aside0.mk (Kd.N_below (by (with_reducible repeat (first | apply Kd.N_alloc | apply Kd.N_drewN | apply Kd.N_drew)); exact HO162.out) hb); have n4_ := Aside0.mk (Kd.V_below (by (with_reducible repeat (first | apply Kd.V_alloc | apply Kd.V_drewN | apply Kd.V_drew)); exact HO169.out) hb); have n5_ := Aside0.mk (blk_below (g := gb134) (o := .cells #[.int .i64 a3_0, .int .i64 a3_1, .string a3_2] 28 (0, 0)) (by (with_reducible repeat (first | refine blk_drewN ?_ _ | refine blk_drew ?_ | refine blk_alloc ?_ _)); exact BK134.out) hb); have n6_ := Aside0.mk (below_step (by repeat (first | (with_reducible first | exact HB.out | apply below_alloc | apply pw_below_drewN | apply below_drew1 | refine below_set ?_ GE134.out) | exact HB.out)) hb); clear HO_10; clear HO_11; clear HO_14; clear HO162; clear HO169; clear BK134; clear HB; have HO_10 := n0_; have HO_11 := n1_; have HO_14 := n2_; have HO162 := n3_; have HO169 := n4_; have BK134 := n5_; have HB := n6_; clear n0_ n1_ n2_ n3_ n4_ n5_ n6_; (try clear hb); (try clear hb2); (try clear hk); (try clear hi)))
                                go_ret
                                exact ⟨by first | rfl | (simp [errW_none, errW_some] <;> rfl) | (simp [*, errW_none, errW_some] <;> rfl), by repeat (first | (with_reducible first | exact HB.out | apply below_alloc | apply pw_below_drewN | apply below_drew1 | refine below_set ?_ GE134.out) | exact HB.out)⟩
                              · rw [if_neg c48] at H
                                exact absurd H (by simp)
                          · replace c45 := Bool.eq_false_iff.mpr c45
                            subst c45
                            have H1 : (some false) = some r := by rw [if_neg (show ¬ (false = true) by decide)] at H; exact H
                            clear H
                            have H := H1
                            clear H1
                            exact absurd ((Option.some.inj H).trans hr_.out) (by decide)
                        · replace c42 := Bool.eq_false_iff.mpr c42
                          subst c42
                          have H1 : (some false) = some r := by rw [if_neg (show ¬ (false = true) by decide)] at H; exact H
                          clear H
                          have H := H1
                          clear H1
                          exact absurd ((Option.some.inj H).trans hr_.out) (by decide)
                      · replace c40 := Bool.eq_false_iff.mpr c40
                        subst c40
                        have H1 : (some false) = some r := by rw [if_neg (show ¬ (false = true) by decide)] at H; exact H
                        clear H
                        have H := H1
                        clear H1
                        exact absurd ((Option.some.inj H).trans hr_.out) (by decide)

/-- THE ONE PURE STATEMENT of law16_SortedBags: yours. -/
def law16_SortedBags.Pure : Prop := ∀ (l0 : List (List (S28))) (l1 : List Int) (a2 : Int) (a3_0 : Int) (a3_1 : Int) (a3_2 : ByteArray), Hand.WfRow 24 (Hand.WfRow 32 wfS28) l0 → l1.length ≤ maxLen → l1.length * 8 ≤ 140737488351232 → (∀ x ∈ l1, (Lit.int .i64 x).wf = true) → (Lit.int .u16 a2).wf = true → (Lit.int .i64 a3_0).wf = true → (Lit.int .i64 a3_1).wf = true → a3_2.size ≤ 140737488351232 → ∃ k, law16_SortedBags.f k l0 l1 a2 a3_0 a3_1 a3_2 = some true
theorem law16_SortedBags.walk (P : law16_SortedBags.Pure) (A0 : Option Addr) (c0 : Nat) (l0 : List (List (S28))) (a1 : Option Addr) (len1 cap1 : Nat) (z1 : List Int) (a2 : Int) (a3_0 : Int) (a3_1 : Int) (a3_2 : ByteArray) (w : World) (w0 : l0.length ≤ c0 ∧ Kd.C (Kd.slice 28 k28) w A0 l0.length l0 ∧ Hand.WfRow 24 (Hand.WfRow 32 wfS28) l0) (w1 : (a1 = none ∧ len1 = 0 ∧ cap1 = 0 ∧ z1 = []) ∨ ∃ x, a1 = some x ∧ len1 ≤ cap1 ∧ cap1 ≤ maxLen ∧ z1.length = cap1 ∧ (∀ i, i < z1.length → w.cell? (x.add i) = some (.int .i64 (z1.getD i 0))) ∧ ∀ n ∈ z1, (Lit.int .i64 n).wf = true) (y1 : len1 * 8 ≤ 140737488351232) (w2 : (Lit.int .u16 a2).wf = true) (w3_0 : (Lit.int .i64 a3_0).wf = true) (w3_1 : (Lit.int .i64 a3_1).wf = true) (w3_2 : a3_2.size ≤ 140737488351232) :
    Calls Try.prog 4 #[.slice A0 l0.length c0, .slice a1 len1 cap1, .int .u16 a2, .agg #[.int .i64 a3_0, .int .i64 a3_1, .string a3_2]] w fun e w' => e = .returned (.bool true) ∧ Below w.heap.size w w' := by
  obtain ⟨hc0, hr0, hw0⟩ := w0
  obtain ⟨l1, rfl, hr1, hm1, hw1, hc1⟩ := ReadsInt.ofRowC w1
  obtain ⟨k, h⟩ := P l0 l1 a2 a3_0 a3_1 a3_2 hw0 hm1 y1 hw1 w2 w3_0 w3_1 w3_2
  refine (law16_SortedBags.calls k _ _ l0 _ _ l1 a2 a3_0 a3_1 a3_2 true w hr0 hc0 (Kd.C_of_reads (d := (0 : Int)) (h1 := fun _ => rfl) hr1) hc1 ⟨rfl⟩ h).mono ?_
  rintro e w' ⟨rfl, hd⟩
  exact ⟨rfl, hd⟩

end Go.Proofs.Ythpoeljnmdjjiaa.PSrn
