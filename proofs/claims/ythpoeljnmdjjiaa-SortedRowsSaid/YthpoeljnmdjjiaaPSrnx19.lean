-- Written by this session's program wip/gprint/gprint.py, over the kit's print, with given functions; no text of print.sh's.
import Derived.Test.YthpoeljnmdjjiaaPSrnx0
import Derived.Test.YthpoeljnmdjjiaaPSrnx18
namespace Go.Proofs.Ythpoeljnmdjjiaa.PSrn
open Go.RowKit Go.Proofs.YthpoeljnmdjjiaaW.PrintWords Go.Proofs.YthpoeljnmdjjiaaW.PrintLast Go.Proofs.YthpoeljnmdjjiaaW.PrintMore
attribute [local go_sem] max2_int min2_int max_two min_two max_three min_three max_four min_four   -- for this text's walks alone
set_option linter.unusedVariables false
set_option linter.unusedSimpArgs false

/-! ### ref16_By: function 19 -/
mutual
def ref16_By.l0 : Nat → List (List (S28)) → List Int → List (List (S28)) → Int → Option ((List (List (S28))))
  | 0, _, _, _, _ => none
  | k + 1, x0, x1, x5, x6 => if x6 < (x0.length : Int) then (ref16_By.l1 k x0 x1 x5 x6 (x5.length : Int)) else (some x5)
def ref16_By.l1 : Nat → List (List (S28)) → List Int → List (List (S28)) → Int → Int → Option ((List (List (S28))))
  | 0, _, _, _, _, _ => none
  | k + 1, x0, x1, x5, x6, x7 => if x7 > 0 then (if 0 ≤ (wrap64 (x7 - 1)) then (if (wrap64 (x7 - 1)) < (x5.length : Int) then (if 0 ≤ x6 then (if x6 < (x0.length : Int) then ((ref16_Order.f k (rd_L3 x5 (wrap64 (x7 - 1))) (rd_L3 x0 x6) x1).bind fun t193 => (if t193 > 0 then (ref16_By.l1 k x0 x1 x5 x6 (wrap64 (x7 - 1))) else ((some (([] : List (List (S28))) : List (List (S28)))).bind fun y194 => (if 0 ≤ x7 then (if x7 ≤ (x5.length : Int) then ((some (x5.take (x7 : Int).toNat : List (List (S28)))).bind fun y197 => (if y194.length + y197.length < 5864062014805 then ((some (y194 ++ y197 : List (List (S28)))).bind fun y202 => (if y202.length < 5864062014805 then ((some (y202 ++ [rd_L3 x0 x6] : List (List (S28)))).bind fun y206 => ((some (x5.drop (x7 : Int).toNat : List (List (S28)))).bind fun y209 => (if y206.length + y209.length < 5864062014805 then (ref16_By.l0 k x0 x1 (y206 ++ y209) (wrap64 (x6 + 1))) else (none)))) else (none))) else (none))) else (none)) else (none))))) else (none)) else (none)) else (none)) else (none)) else ((some (([] : List (List (S28))) : List (List (S28)))).bind fun y217 => (if 0 ≤ x7 then (if x7 ≤ (x5.length : Int) then ((some (x5.take (x7 : Int).toNat : List (List (S28)))).bind fun y220 => (if y217.length + y220.length < 5864062014805 then ((some (y217 ++ y220 : List (List (S28)))).bind fun y225 => (if 0 ≤ x6 then (if x6 < (x0.length : Int) then (if y225.length < 5864062014805 then ((some (y225 ++ [rd_L3 x0 x6] : List (List (S28)))).bind fun y229 => ((some (x5.drop (x7 : Int).toNat : List (List (S28)))).bind fun y232 => (if y229.length + y232.length < 5864062014805 then (ref16_By.l0 k x0 x1 (y229 ++ y232) (wrap64 (x6 + 1))) else (none)))) else (none)) else (none)) else (none))) else (none))) else (none)) else (none)))
end
def ref16_By.f (k : Nat) (l0 : List (List (S28))) (l1 : List Int) : Option ((List (List (S28)))) := ref16_By.l0 k l0 l1 ([] : List (List (S28))) 0
theorem ref16_By.mono_l : ∀ k, (∀ y0 y1 y2 y3, LeO (ref16_By.l0 k y0 y1 y2 y3) (ref16_By.l0 (k + 1) y0 y1 y2 y3)) ∧ (∀ y0 y1 y2 y3 y4, LeO (ref16_By.l1 k y0 y1 y2 y3 y4) (ref16_By.l1 (k + 1) y0 y1 y2 y3 y4))
  | 0 => ⟨fun _ _ _ _ r h => by simp [ref16_By.l0] at h, fun _ _ _ _ _ r h => by simp [ref16_By.l1] at h⟩
  | k + 1 => by
    obtain ⟨ih0, ih1⟩ := ref16_By.mono_l k
    refine ⟨?_, ?_⟩
    · intro y0 y1 y2 y3
      unfold ref16_By.l0
      repeat' first
      | (with_reducible exact ih0 _ _ _ _)
      | (with_reducible exact ih1 _ _ _ _ _)
      | (with_reducible exact ref16_Order.mono _ _ _ _)
      | (with_reducible exact LeO.refl _)
      | (with_reducible exact LeO.none _)
      | (with_reducible refine LeO.ite ?_ ?_)
      | (with_reducible refine LeO.bind ?_ (fun _ => ?_))
      | exact ih0 _ _ _ _
      | exact ih1 _ _ _ _ _
      | exact ref16_Order.mono _ _ _ _
      | exact LeO.none _
      | refine LeO.ite ?_ ?_
      | refine LeO.bind ?_ (fun _ => ?_)
    · intro y0 y1 y2 y3 y4
      unfold ref16_By.l1
      repeat' first
      | (with_reducible exact ih0 _ _ _ _)
      | (with_reducible exact ih1 _ _ _ _ _)
      | (with_reducible exact ref16_Order.mono _ _ _ _)
      | (with_reducible exact LeO.refl _)
      | (with_reducible exact LeO.none _)
      | (with_reducible refine LeO.ite ?_ ?_)
      | (with_reducible refine LeO.bind ?_ (fun _ => ?_))
      | exact ih0 _ _ _ _
      | exact ih1 _ _ _ _ _
      | exact ref16_Order.mono _ _ _ _
      | exact LeO.none _
      | refine LeO.ite ?_ ?_
      | refine LeO.bind ?_ (fun _ => ?_)
theorem ref16_By.mono : ∀ a0 a1 k, LeO (ref16_By.f k a0 a1) (ref16_By.f (k + 1) a0 a1) := by
  intro a0 a1 k
  obtain ⟨ih0, ih1⟩ := ref16_By.mono_l k
  unfold ref16_By.f
  repeat' first
      | (with_reducible exact ih0 _ _ _ _)
      | (with_reducible exact ih1 _ _ _ _ _)
      | (with_reducible exact ref16_Order.mono _ _ _ _)
      | (with_reducible exact LeO.refl _)
      | (with_reducible exact LeO.none _)
      | (with_reducible refine LeO.ite ?_ ?_)
      | (with_reducible refine LeO.bind ?_ (fun _ => ?_))
      | exact ih0 _ _ _ _
      | exact ih1 _ _ _ _ _
      | exact ref16_Order.mono _ _ _ _
      | exact LeO.none _
      | refine LeO.ite ?_ ?_
      | refine LeO.bind ?_ (fun _ => ?_)
def ref16_By.T6 : Bool × List (List Nat × List Nat) := (true, [([], []), ([0], [0]), ([1], [1]), ([2], [2]), ([2], [2]), ([4, 2], [2, 4]), ([3, 5, 2], [2, 3, 5]), ([6, 2], [2, 6]), ([2], [2]), ([2], [2]), ([8, 9, 2], [2, 8, 9]), ([10, 2], [2, 10]), ([2], [2]), ([7, 11, 12, 2, 2], [2, 7, 11, 12]), ([13, 2], [2, 13]), ([2, 14], [2, 14])])
def ref16_By.B6 : List Nat := [0, 1, 3, 7, 7, 23, 63, 127, 7, 7, 775, 1799, 7, 8191, 16383, 32767]
theorem ref16_By.tab6 : rtab .any (opsOf Try.f19 6) = ref16_By.T6 := by kernel_rfl
theorem ref16_By.bits6 : waitsOk ref16_By.T6.2 ref16_By.B6 = true := by kernel_rfl
set_option maxHeartbeats 8000000 in
set_option maxRecDepth 100000 in
theorem ref16_By.calls (k : Nat) (P0_ : Nat → Prop) (A0 : Option Addr) (c0 : Nat) (l0 : List (List (S28))) (A1 : Option Addr) (c1 : Nat) (l1 : List Int) (r : List (List (S28))) (w : World) (hs0 : Kd.V (Kd.slice 28 k28) 26 w w.heap.size (fun k_ => P0_ k_) (.slice A0 l0.length c0) l0) (hr1 : Kd.C (Kd.int .i64) w A1 l1.length l1) (hc1 : l1.length ≤ c1) (h : ref16_By.f k l0 l1 = some r) :
    Calls Try.prog 19 #[.slice A0 l0.length c0, .slice A1 l1.length c1] w fun e w' => ∃ v0_ : Value, e = .returned (v0_) ∧ Kd.N (Kd.slice 28 k28) 26 w' w.heap.size (fun k_ => (P0_ k_ ∨ w.heap.size ≤ k_)) v0_ r ∧ Below w.heap.size w w' := by
  have HO0 := Aside0.mk (show Kd.V (Kd.slice 28 k28) 26 w w.heap.size (fun k_ => (P0_ k_ ∨ w.heap.size ≤ k_)) (.slice A0 l0.length c0) l0 from Kd.V_mono hs0 (fun k_ hk => .inl hk))
  have HR1 := Aside0.mk hr1
  have HC1 := Aside0.mk hc1
  clear hr1 hc1
  have HB := Aside0.mk (Below.refl w.heap.size w)
  have H : (ref16_By.l0 k l0 l1 ([] : List (List (S28))) 0) = some r := h
  clear h
  have H' := Aside0.mk H
  clear H
  go_enter Try.func19, Try.ntmps19
  go_wp2
  go_loopg [5, 6] k (fun kq v5 v6 w' => ∃ (x5_1 : List (List (S28))) (x6_1 : Int), v6 = .int .i64 x6_1 ∧ Aside0 (ref16_By.l0 kq l0 l1 x5_1 x6_1 = some r) ∧ Aside0 (kq ≤ k) ∧ Aside0 (Kd.V (Kd.slice 28 k28) 26 w' w.heap.size (fun k_ => (P0_ k_ ∨ w.heap.size ≤ k_) ∧ some k_ ≠ (v5 : Value).ownBlock) (.slice A0 l0.length c0) l0) ∧ Aside0 (Kd.N (Kd.slice 28 k28) 26 w' w.heap.size (fun k_ => (P0_ k_ ∨ w.heap.size ≤ k_)) v5 x5_1) ∧ Aside0 (Below w.heap.size w w'))
  case atStart => exact ⟨(([] : List (List (S28)))), (0), (by first | rfl | (simp; done) | (simp [*]; done)), H', ⟨Nat.le_refl _⟩, ⟨by (with_reducible repeat (first | apply Kd.V_alloc | apply Kd.V_drewN | apply Kd.V_drew)); exact Kd.V_mono HO0.out (fun _ hk => ⟨hk, (by simp [Value.ownBlock])⟩)⟩, ⟨by first | exact Kd.S_nil _ _ _ _ _ | exact Kd.N_nil _ _ _ _ _ | exact Kd.V_nil _ _ _ _ _ | exact Kd.Q_nil _ _ _ _ _ | exact Kd.R_nil _ _ _ _ _⟩, ⟨by repeat (first | (with_reducible first | exact HB.out | apply below_alloc | apply pw_below_drewN | apply below_drew1) | exact HB.out)⟩⟩
  case round =>
    clear H'
    try clear c1
    try clear p2
    obtain ⟨x5_1, x6_1, rfl, HA, HK1, HO_0, HO_5, HB⟩ := hrel
    cases gk with
    | zero => exact absurd HA.out (by simp [ref16_By.l0])
    | succ k1 =>
      have H := HA.out
      clear HA
      simp only [ref16_By.l0] at H
      by_cases c3 : x6_1 < (l0.length : Int)
      · rw [if_pos c3] at H
        have c3b0 : decide (x6_1 < (l0.length : Int)) = true := decide_eq_true c3
        clear c3
        have H' := Aside0.mk H
        clear H
        obtain ⟨Ao4, co4, eo4⟩ := Kd.N_slice HO_5.out
        subst eo4
        go_wp2
        go_loopg [7] k1 (fun kq v7 w' => ∃ (x7_2 : Int), v7 = .int .i64 x7_2 ∧ Aside0 (ref16_By.l1 kq l0 l1 x5_1 x6_1 x7_2 = some r) ∧ Aside0 (kq ≤ k1) ∧ Aside0 (Kd.V (Kd.slice 28 k28) 26 w' w.heap.size (fun k_ => (P0_ k_ ∨ w.heap.size ≤ k_) ∧ some k_ ≠ ((.slice Ao4 x5_1.length co4) : Value).ownBlock) (.slice A0 l0.length c0) l0) ∧ Aside0 (Kd.N (Kd.slice 28 k28) 26 w' w.heap.size (fun k_ => (P0_ k_ ∨ w.heap.size ≤ k_)) (.slice Ao4 x5_1.length co4) x5_1) ∧ Aside0 (Below w.heap.size w w'))
        case atStart => exact ⟨((x5_1.length : Int)), (by first | rfl | (simp; done) | (simp [*]; done)), H', ⟨Nat.le_refl _⟩, ⟨by (with_reducible repeat (first | apply Kd.V_alloc | apply Kd.V_drewN | apply Kd.V_drew)); exact HO_0.out⟩, ⟨by (with_reducible repeat (first | apply Kd.N_alloc | apply Kd.N_drewN | apply Kd.N_drew)); exact HO_5.out⟩, ⟨by repeat (first | (with_reducible first | exact HB.out | apply below_alloc | apply pw_below_drewN | apply below_drew1) | exact HB.out)⟩⟩
        case round =>
          clear H'
          try clear c1
          try clear p2
          try clear c3
          try clear c3b0
          try clear p2
          obtain ⟨x7_2, rfl, HA, HK2, HO_0, HO_5, HB⟩ := hrel
          cases gk with
          | zero => exact absurd HA.out (by simp [ref16_By.l1])
          | succ k2 =>
            have H := HA.out
            clear HA
            simp only [ref16_By.l1] at H
            by_cases c5 : x7_2 > 0
            · rw [if_pos c5] at H
              have c5b0 : decide (0 < x7_2) = true := decide_eq_true c5
              clear c5
              obtain ⟨ji6, hji6⟩ : ∃ j_ : Int, (wrap64 (x7_2 - 1)) = j_ := ⟨_, rfl⟩
              replace H : (if 0 ≤ (ji6) then (if (ji6) < (x5_1.length : Int) then (if 0 ≤ x6_1 then (if x6_1 < (l0.length : Int) then ((ref16_Order.f k2 (rd_L3 x5_1 (ji6)) (rd_L3 l0 x6_1) l1).bind fun t193 => (if t193 > 0 then (ref16_By.l1 k2 l0 l1 x5_1 x6_1 ji6) else ((some (([] : List (List (S28))) : List (List (S28)))).bind fun y194 => (if 0 ≤ x7_2 then (if x7_2 ≤ (x5_1.length : Int) then ((some (x5_1.take (x7_2 : Int).toNat : List (List (S28)))).bind fun y197 => (if y194.length + y197.length < 5864062014805 then ((some (y194 ++ y197 : List (List (S28)))).bind fun y202 => (if y202.length < 5864062014805 then ((some (y202 ++ [rd_L3 l0 x6_1] : List (List (S28)))).bind fun y206 => ((some (x5_1.drop (x7_2 : Int).toNat : List (List (S28)))).bind fun y209 => (if y206.length + y209.length < 5864062014805 then (ref16_By.l0 k2 l0 l1 (y206 ++ y209) (wrap64 (x6_1 + 1))) else (none)))) else (none))) else (none))) else (none)) else (none))))) else (none)) else (none)) else (none)) else (none)) = some r := by first | (rw [hji6] at H; exact H) | (simp only [hji6] at H ⊢; exact H)
              have hji6w : (IntKind.i64.wrap (x7_2 - 1)) = ji6 := (i64_w _).trans hji6
              by_cases c7 : 0 ≤ (ji6)
              · rw [if_pos c7] at H
                have c7b0 : decide (0 ≤ (ji6)) = true := decide_eq_true c7
                clear c7
                by_cases c8 : (ji6) < (x5_1.length : Int)
                · rw [if_pos c8] at H
                  have c8b0 : decide ((ji6) < (x5_1.length : Int)) = true := decide_eq_true c8
                  clear c8
                  by_cases c9 : 0 ≤ x6_1
                  · rw [if_pos c9] at H
                    have c9b0 : decide (0 ≤ x6_1) = true := decide_eq_true c9
                    clear c9
                    by_cases c10 : x6_1 < (l0.length : Int)
                    · rw [if_pos c10] at H
                      have c10b0 : decide (x6_1 < (l0.length : Int)) = true := decide_eq_true c10
                      clear c10
                      replace H := Option.bind_eq_some_iff.mp H
                      obtain ⟨t193, A110, H⟩ := H
                      replace H : (if t193 > 0 then (ref16_By.l1 k2 l0 l1 x5_1 x6_1 ji6) else ((some (([] : List (List (S28))) : List (List (S28)))).bind fun y194 => (if 0 ≤ x7_2 then (if x7_2 ≤ (x5_1.length : Int) then ((some (x5_1.take (x7_2 : Int).toNat : List (List (S28)))).bind fun y197 => (if y194.length + y197.length < 5864062014805 then ((some (y194 ++ y197 : List (List (S28)))).bind fun y202 => (if y202.length < 5864062014805 then ((some (y202 ++ [rd_L3 l0 x6_1] : List (List (S28)))).bind fun y206 => ((some (x5_1.drop (x7_2 : Int).toNat : List (List (S28)))).bind fun y209 => (if y206.length + y209.length < 5864062014805 then (ref16_By.l0 k2 l0 l1 (y206 ++ y209) (wrap64 (x6_1 + 1))) else (none)))) else (none))) else (none))) else (none)) else (none)))) = some r := H
                      have A11 := Aside0.mk A110
                      clear A110
                      by_cases c12 : t193 > 0
                      · rw [if_pos c12] at H
                        have c12b0 : decide (0 < t193) = true := decide_eq_true c12
                        clear c12
                        have H' := Aside0.mk H
                        clear H
                        try go_wp2
                        have n0_ := Aside0.mk (Kd.V_drew HO_0.out)
                        have n1_ := Aside0.mk (Kd.N_drew HO_5.out)
                        have n2_ := Aside0.mk (below_drew1 HB.out)
                        clear HO_0
                        clear HO_5
                        clear HB
                        have HO_0 := n0_
                        have HO_5 := n1_
                        have HB := n2_
                        clear n0_ n1_ n2_
                        have p191 : 0 ≤ ((ji6) : Int) := of_decide_eq_true (by first | (with_reducible assumption) | assumption)
                        have q191 : (ji6) < (x5_1.length : Int) := of_decide_eq_true (by first | (with_reducible assumption) | assumption)
                        obtain ⟨ad191, A191_0, c191_0, e191, hx191_0, hl191_0, hi191_0⟩ := at_L3 (Kd.N_reads' HO_5.out).2.2 (ji6) p191 q191
                        cases e191
                        obtain ⟨ce191, hce191, hMe191, hcc191⟩ := Kd.N_get HO_5.out [] (ji6) p191 (by first | exact q191 | exact of_decide_eq_true (by first | (with_reducible assumption) | assumption) | (have e_ := (Kd.N_reads' HO_5.out).1; omega))
                        obtain ⟨ua191_0, uc191_0, rfl, ul191_0, ge191_0⟩ := Kd.FK_slice_open hMe191
                        have hv191_0 := hcc191 0 _ rfl
                        rw [Nat.add_zero, show ((Kd.slice 28 k28)).sz = 1 from rfl, Nat.mul_one] at hv191_0
                        replace hv191_0 := Option.some.inj (hv191_0.symm.trans hx191_0)
                        injection hv191_0 with hva_ hvn_ hvc_
                        rw [hva_] at ge191_0
                        rw [hvc_] at ul191_0
                        have HL191_0 := Aside0.mk (show Kd.V k28 28 _ w.heap.size _ _ (rd_L3 x5_1 (ji6)) from Kd.V_mk ul191_0 ge191_0)
                        clear hva_ hvn_ hvc_ ge191_0 ul191_0
                        clear hcc191 hce191
                        have HR191_0 := Aside0.mk hi191_0
                        have HC191_0 := Aside0.mk hl191_0
                        clear hi191_0 hl191_0
                        replace p191 := eq_true p191
                        replace q191 := eq_true q191
                        have p192 : 0 ≤ (x6_1 : Int) := of_decide_eq_true (by first | (with_reducible assumption) | assumption)
                        have q192 : x6_1 < (l0.length : Int) := of_decide_eq_true (by first | (with_reducible assumption) | assumption)
                        obtain ⟨ad192, A192_0, c192_0, e192, hx192_0, hl192_0, hi192_0⟩ := at_L3 (Kd.V_reads' HO_0.out).2.2 x6_1 p192 q192
                        cases e192
                        obtain ⟨ce192, hce192, hMe192, hcc192⟩ := Kd.V_get HO_0.out [] x6_1 p192 (by first | exact q192 | exact of_decide_eq_true (by first | (with_reducible assumption) | assumption) | (have e_ := (Kd.V_reads' HO_0.out).1; omega))
                        obtain ⟨ua192_0, uc192_0, rfl, ul192_0, ge192_0⟩ := Kd.FK_slice_open hMe192
                        have hv192_0 := hcc192 0 _ rfl
                        rw [Nat.add_zero, show ((Kd.slice 28 k28)).sz = 1 from rfl, Nat.mul_one] at hv192_0
                        replace hv192_0 := Option.some.inj (hv192_0.symm.trans hx192_0)
                        injection hv192_0 with hva_ hvn_ hvc_
                        rw [hva_] at ge192_0
                        rw [hvc_] at ul192_0
                        have HL192_0 := Aside0.mk (show Kd.V k28 28 _ w.heap.size _ _ (rd_L3 l0 x6_1) from Kd.V_mk ul192_0 ge192_0)
                        clear hva_ hvn_ hvc_ ge192_0 ul192_0
                        clear hcc192 hce192
                        have HR192_0 := Aside0.mk hi192_0
                        have HC192_0 := Aside0.mk hl192_0
                        clear hi192_0 hl192_0
                        replace p192 := eq_true p192
                        replace q192 := eq_true q192
                        refine start_ (n := 16) (S := fun w' => w'.cell? (ad191.add ((ji6)).toNat) = some (.slice A191_0 (rd_L3 x5_1 (ji6)).length c191_0) ∧ w'.cell? (ad192.add (x6_1).toNat) = some (.slice A192_0 (rd_L3 l0 x6_1).length c192_0)) (ds := []) #[false, false, false, false, false, false, false, false, false, false, false, false, false, false, false, false] (by kernel_rfl) rfl rfl ⟨hx191_0, hx192_0⟩ (fun hHeld => ?_); refine with_tabW ref16_By.tab6 ref16_By.bits6 (fun HT_ HW_ => ?_)
                        generalize wr.drew = w13 at HO_0 HO_5 HB HL191_0 HL192_0 HR191_0 HR192_0 hx191_0 hx192_0 hHeld ⊢
                        refine pure_ (i := 0) (N := some 17) (v := ?_) (a' := ?_) #[true, false, false, false, false, false, false, false, false, false, false, false, false, false, false, false] rfl rfl (any_of HT_.out (by kernel_rfl)) (fun _ _ _ h => h) (Or.inl ⟨by rfl, ?_⟩) ?_ ?_
                        rotate_left
                        · intro w'
                          go_simp
                          with_reducible rfl
                        rotate_left
                        · simp only [Act.put, List.setIfInBounds_toArray, List.set_cons_zero, List.set_cons_succ, i64_w, i32_w]
                          rfl
                        refine pure_ (i := 1) (N := some 18) (v := ?_) (a' := ?_) #[true, true, false, false, false, false, false, false, false, false, false, false, false, false, false, false] rfl rfl (any_of HT_.out (by kernel_rfl)) (fun _ _ _ h => h) (Or.inl ⟨by rfl, ?_⟩) ?_ ?_
                        rotate_left
                        · intro w'
                          go_simp
                          with_reducible rfl
                        rotate_left
                        · simp only [Act.put, List.setIfInBounds_toArray, List.set_cons_zero, List.set_cons_succ, i64_w, i32_w]
                          rfl
                        refine pure_ (i := 2) (N := some 19) (v := ?_) (a' := ?_) #[true, true, true, false, false, false, false, false, false, false, false, false, false, false, false, false] rfl rfl (any_of HT_.out (by kernel_rfl)) (fun _ _ _ h => h) (Or.inl ⟨by rfl, ?_⟩) ?_ ?_
                        rotate_left
                        · intro w'
                          go_simp
                          with_reducible rfl
                        rotate_left
                        · simp only [Act.put, List.setIfInBounds_toArray, List.set_cons_zero, List.set_cons_succ, i64_w, i32_w]
                          rfl
                        refine pure_ (i := 3) (N := some 20) (v := ?_) (a' := ?_) #[true, true, true, true, false, false, false, false, false, false, false, false, false, false, false, false] rfl rfl (any_of HT_.out (by kernel_rfl)) (fun _ _ _ h => h) (Or.inl ⟨by rfl, ?_⟩) ?_ ?_
                        rotate_left
                        · intro w'
                          go_simp
                          with_reducible rfl
                        rotate_left
                        · simp only [Act.put, List.setIfInBounds_toArray, List.set_cons_zero, List.set_cons_succ, i64_w, i32_w]
                          rfl
                        refine pure_ (i := 4) (N := some 21) (v := ?_) (a' := ?_) #[true, true, true, true, true, false, false, false, false, false, false, false, false, false, false, false] rfl rfl (any_of HT_.out (by kernel_rfl)) (fun _ _ _ h => h) (Or.inl ⟨by rfl, ?_⟩) ?_ ?_
                        rotate_left
                        · intro w'
                          go_simp
                          with_reducible rfl
                        rotate_left
                        · simp only [Act.put, List.setIfInBounds_toArray, List.set_cons_zero, List.set_cons_succ, i64_w, i32_w]
                          rfl
                        refine pure_ (i := 5) (N := some 22) (v := ?_) (a' := ?_) #[true, true, true, true, true, true, false, false, false, false, false, false, false, false, false, false] rfl rfl (any_of HT_.out (by kernel_rfl)) (fun _ _ _ h => h) (Or.inl ⟨by rfl, ?_⟩) ?_ ?_
                        rotate_left
                        · intro w'
                          go_simp
                          with_reducible rfl
                        rotate_left
                        · simp only [Act.put, List.setIfInBounds_toArray, List.set_cons_zero, List.set_cons_succ, i64_w, i32_w]
                          rfl
                        refine pure_ (i := 6) (N := some 23) (v := ?_) (a' := ?_) #[true, true, true, true, true, true, true, false, false, false, false, false, false, false, false, false] rfl rfl (any_of HT_.out (by kernel_rfl)) (fun _ _ _ h => h) (Or.inl ⟨by rfl, ?_⟩) ?_ ?_
                        rotate_left
                        · intro w'
                          go_simp
                          with_reducible rfl
                        rotate_left
                        · simp only [Act.put, List.setIfInBounds_toArray, List.set_cons_zero, List.set_cons_succ, i64_w, i32_w]
                          rfl
                        refine pure_ (i := 8) (N := some 25) (v := ?_) (a' := ?_) #[true, true, true, true, true, true, true, false, true, false, false, false, false, false, false, false] rfl rfl (any_of HT_.out (by kernel_rfl)) (fun _ _ _ h => h) (Or.inl ⟨by rfl, ?_⟩) ?_ ?_
                        rotate_left
                        · intro w'
                          go_simp
                          with_reducible rfl
                        rotate_left
                        · simp only [Act.put, List.setIfInBounds_toArray, List.set_cons_zero, List.set_cons_succ, i64_w, i32_w]
                          rfl
                        refine pure_ (i := 9) (N := some 26) (v := ?_) (a' := ?_) #[true, true, true, true, true, true, true, false, true, true, false, false, false, false, false, false] rfl rfl (any_of HT_.out (by kernel_rfl)) (fun _ _ _ h => h) (Or.inl ⟨by rfl, ?_⟩) ?_ ?_
                        rotate_left
                        · intro w'
                          go_simp
                          with_reducible rfl
                        rotate_left
                        · simp only [Act.put, List.setIfInBounds_toArray, List.set_cons_zero, List.set_cons_succ, i64_w, i32_w]
                          rfl
                        refine pure_ (i := 10) (N := some 27) (v := ?_) (a' := ?_) #[true, true, true, true, true, true, true, false, true, true, true, false, false, false, false, false] rfl rfl (any_of HT_.out (by kernel_rfl)) (fun _ _ _ h => h) (Or.inl ⟨by rfl, ?_⟩) ?_ ?_
                        rotate_left
                        · intro w'
                          go_simp
                          with_reducible rfl
                        rotate_left
                        · simp only [Act.put, List.setIfInBounds_toArray, List.set_cons_zero, List.set_cons_succ, i64_w, i32_w]
                          rfl
                        refine pure_ (i := 12) (N := some 29) (v := ?_) (a' := ?_) #[true, true, true, true, true, true, true, false, true, true, true, false, true, false, false, false] rfl rfl (any_of HT_.out (by kernel_rfl)) (fun _ _ _ h => h) (Or.inl ⟨by rfl, ?_⟩) ?_ ?_
                        rotate_left
                        · intro w'
                          go_simp
                          with_reducible rfl
                        rotate_left
                        · simp only [Act.put, List.setIfInBounds_toArray, List.set_cons_zero, List.set_cons_succ, i64_w, i32_w]
                          rfl
                        refine take_ (i := 7) (N := some 24) (v := ?_) (a' := ?_) #[true, true, true, true, true, true, true, true, true, true, true, false, true, false, false, false] rfl rfl (take_ofW HT_.out HW_.out (by kernel_rfl)) (fun _ _ _ h => h) (Or.inl ⟨by rfl, ?_⟩) hHeld ?_ ?_
                        rotate_left
                        · rintro w' ⟨s0, s1⟩
                          go_simp
                          with_reducible rfl
                        rotate_left
                        · simp only [Act.put, List.setIfInBounds_toArray, List.set_cons_zero, List.set_cons_succ, i64_w, i32_w]
                          rfl
                        refine take_ (i := 11) (N := some 28) (v := ?_) (a' := ?_) #[true, true, true, true, true, true, true, true, true, true, true, true, true, false, false, false] rfl rfl (take_ofW HT_.out HW_.out (by kernel_rfl)) (fun _ _ _ h => h) (Or.inl ⟨by rfl, ?_⟩) hHeld ?_ ?_
                        rotate_left
                        · rintro w' ⟨s0, s1⟩
                          go_simp
                          with_reducible rfl
                        rotate_left
                        · simp only [Act.put, List.setIfInBounds_toArray, List.set_cons_zero, List.set_cons_succ, i64_w, i32_w]
                          rfl
                        refine one_ (i := 13) (N := some 30) #[true, true, true, true, true, true, true, true, true, true, true, true, true, true, false, false] rfl rfl (one_of HT_.out (by kernel_rfl)) (by decide) (fun K hK => ?_)
                        refine goes_ Try.func15 (by kernel_rfl) rfl #[.slice A191_0 (rd_L3 x5_1 (ji6)).length c191_0, .slice A192_0 (rd_L3 l0 x6_1).length c192_0, .slice A1 l1.length c1] (by rfl) rfl rfl (by (try simp only [List.map_toArray, List.map_cons, List.map_nil]); first | done | (simp only [hji6]; rfl) | rfl | (simp only [List.length_drop, List.length_take]; rfl)) ?_
                        with_reducible refine (ref16_Order.calls k2 _ _ (rd_L3 x5_1 (ji6)) _ _ (rd_L3 l0 x6_1) _ _ l1 t193 _ ?side1 ?side2 ?side3 ?side4 ?side5 ?side6 A11.out).mono ?_
                        (case side1 => repeat (first | exact (by repeat (first | (with_reducible exact HR191_0.out) | (with_reducible refine Kd.C_alloc ?_ _) | (with_reducible refine Kd.C_drewN ?_ _) | (with_reducible refine Kd.C_drew ?_) | exact HR191_0.out)) | (with_reducible refine Kd.C_alloc ?_ _) | (with_reducible refine Kd.C_drewN ?_ _) | (with_reducible refine Kd.C_drew ?_)))
                        (case side2 => exact HC191_0.out)
                        (case side3 => repeat (first | exact (by repeat (first | (with_reducible exact HR192_0.out) | (with_reducible refine Kd.C_alloc ?_ _) | (with_reducible refine Kd.C_drewN ?_ _) | (with_reducible refine Kd.C_drew ?_) | exact HR192_0.out)) | (with_reducible refine Kd.C_alloc ?_ _) | (with_reducible refine Kd.C_drewN ?_ _) | (with_reducible refine Kd.C_drew ?_)))
                        (case side4 => exact HC192_0.out)
                        (case side5 => repeat (first | exact (Kd.C_below HR1.out HB.out) | (with_reducible refine Kd.C_alloc ?_ _) | (with_reducible refine Kd.C_drewN ?_ _) | (with_reducible refine Kd.C_drew ?_)))
                        (case side6 => exact HC1.out)
                        rintro e w14 ⟨rfl, hb⟩
                        have HS0_ := (hb.cell (World.block_lt_of_cell? _ _ (hHeld.1))).trans (hHeld.1)
                        have HS1_ := (hb.cell (World.block_lt_of_cell? _ _ (hHeld.2))).trans (hHeld.2)
                        refine ⟨_, rfl, ?_⟩
                        have n0_ := Aside0.mk (Kd.V_below (by (with_reducible repeat (first | apply Kd.V_alloc | apply Kd.V_drewN | apply Kd.V_drew)); exact HO_0.out) hb)
                        have n1_ := Aside0.mk (Kd.N_below (by (with_reducible repeat (first | apply Kd.N_alloc | apply Kd.N_drewN | apply Kd.N_drew)); exact HO_5.out) hb)
                        have n2_ := Aside0.mk (Kd.V_below (by (with_reducible repeat (first | apply Kd.V_alloc | apply Kd.V_drewN | apply Kd.V_drew)); exact HL191_0.out) hb)
                        have n3_ := Aside0.mk (Kd.V_below (by (with_reducible repeat (first | apply Kd.V_alloc | apply Kd.V_drewN | apply Kd.V_drew)); exact HL192_0.out) hb)
                        have n4_ := Aside0.mk (Kd.C_below (by repeat (first | (with_reducible exact HR191_0.out) | (with_reducible refine Kd.C_alloc ?_ _) | (with_reducible refine Kd.C_drewN ?_ _) | (with_reducible refine Kd.C_drew ?_) | exact HR191_0.out)) hb)
                        have n5_ := Aside0.mk (Kd.C_below (by repeat (first | (with_reducible exact HR192_0.out) | (with_reducible refine Kd.C_alloc ?_ _) | (with_reducible refine Kd.C_drewN ?_ _) | (with_reducible refine Kd.C_drew ?_) | exact HR192_0.out)) hb)
                        have n6_ := Aside0.mk (below_step (by repeat (first | (with_reducible first | exact HB.out | apply below_alloc | apply pw_below_drewN | apply below_drew1) | exact HB.out)) hb)
                        clear HO_0
                        clear HO_5
                        clear HL191_0
                        clear HL192_0
                        clear HR191_0
                        clear HR192_0
                        clear HB
                        have HO_0 := n0_
                        have HO_5 := n1_
                        have HL191_0 := n2_
                        have HL192_0 := n3_
                        have HR191_0 := n4_
                        have HR192_0 := n5_
                        have HB := n6_
                        clear n0_ n1_ n2_ n3_ n4_ n5_ n6_
                        (try clear hb)
                        (try clear hb2)
                        (try clear hk)
                        (try clear hi)
                        refine hK.out _ _ ⟨HS0_, HS1_⟩ (fun hHeld => ?_)
                        clear hK K
                        refine norm_ (a' := ?_) ?_ ?_
                        rotate_left
                        · show Act.put _ (some 30) _ = _
                          simp only [Act.put, List.setIfInBounds_toArray, List.set_cons_zero, List.set_cons_succ, i64_w, i32_w]
                          rfl
                        refine pure_ (i := 14) (N := some 31) (v := ?_) (a' := ?_) #[true, true, true, true, true, true, true, true, true, true, true, true, true, true, true, false] rfl rfl (any_of HT_.out (by kernel_rfl)) (fun _ _ _ h => h) (Or.inl ⟨by rfl, ?_⟩) ?_ ?_
                        rotate_left
                        · intro w'
                          go_simp
                          with_reducible rfl
                        rotate_left
                        · simp only [Act.put, List.setIfInBounds_toArray, List.set_cons_zero, List.set_cons_succ, i64_w, i32_w]
                          rfl
                        refine pure_ (i := 15) (N := some 32) (v := ?_) (a' := ?_) #[true, true, true, true, true, true, true, true, true, true, true, true, true, true, true, true] rfl rfl (any_of HT_.out (by kernel_rfl)) (fun _ _ _ h => h) (Or.inl ⟨by rfl, ?_⟩) ?_ ?_
                        rotate_left
                        · intro w'
                          go_simp
                          with_reducible rfl
                        rotate_left
                        · simp only [Act.put, List.setIfInBounds_toArray, List.set_cons_zero, List.set_cons_succ, i64_w, i32_w]
                          rfl
                        refine done_ (done_of HT_.out (by kernel_rfl)) ?_
                        try go_wp2
                        go_roundg k2
                        case measure => have := HK1.out; have := HK2.out; omega
                        case rel => exact ⟨(ji6), (by first | rfl | (simp; done) | (simp only [← hji6] <;> (first | rfl | simp)) | (simp [*]; done)), H', ⟨by have := HK1.out; have := HK2.out; omega⟩, ⟨by (with_reducible repeat (first | apply Kd.V_alloc | apply Kd.V_drewN | apply Kd.V_drew)); exact HO_0.out⟩, ⟨by (with_reducible repeat (first | apply Kd.N_alloc | apply Kd.N_drewN | apply Kd.N_drew)); exact HO_5.out⟩, ⟨by repeat (first | (with_reducible first | exact HB.out | apply below_alloc | apply pw_below_drewN | apply below_drew1) | exact HB.out)⟩⟩
                      · rw [if_neg c12] at H
                        have c12b0 : decide (0 < t193) = false := decide_eq_false c12
                        clear c12
                        obtain ⟨y194, hy194⟩ : ∃ y_ : List (List (S28)), y_ = (([] : List (List (S28)))) := ⟨_, rfl⟩
                        replace H : (if 0 ≤ x7_2 then (if x7_2 ≤ (x5_1.length : Int) then ((some (x5_1.take (x7_2 : Int).toNat : List (List (S28)))).bind fun y197 => (if y194.length + y197.length < 5864062014805 then ((some (y194 ++ y197 : List (List (S28)))).bind fun y202 => (if y202.length < 5864062014805 then ((some (y202 ++ [rd_L3 l0 x6_1] : List (List (S28)))).bind fun y206 => ((some (x5_1.drop (x7_2 : Int).toNat : List (List (S28)))).bind fun y209 => (if y206.length + y209.length < 5864062014805 then (ref16_By.l0 k2 l0 l1 (y206 ++ y209) (wrap64 (x6_1 + 1))) else (none)))) else (none))) else (none))) else (none)) else (none)) = some r := by first | (rw [hy194]; with_reducible exact H) | (have H2_ := (Option.bind_some _ _).symm.trans H; rw [hy194]; with_reducible exact H2_) | (have H2_ := (Option.bind_some _ _).symm.trans H; with_reducible exact H2_) | with_reducible exact H | (rw [hy194]; exact H) | exact H
                        have Ny194 := Aside0.mk hy194
                        clear hy194
                        by_cases c15 : 0 ≤ x7_2
                        · rw [if_pos c15] at H
                          have c15b0 := eq_true c15
                          have c15b1 : decide (0 ≤ x7_2) = true := decide_eq_true c15
                          clear c15
                          by_cases c16 : x7_2 ≤ (x5_1.length : Int)
                          · rw [if_pos c16] at H
                            have c16b0 := eq_true c16
                            have c16b1 : decide (x7_2 ≤ (x5_1.length : Int)) = true := decide_eq_true c16
                            (try (have c16b1q_hl191_0 := c16b1; rw [hl191_0] at c16b1q_hl191_0))
                            (try (have c16b1q_hl192_0 := c16b1; rw [hl192_0] at c16b1q_hl192_0))
                            clear c16
                            obtain ⟨y197, hy197⟩ : ∃ y_ : List (List (S28)), y_ = (x5_1.take (x7_2 : Int).toNat) := ⟨_, rfl⟩
                            replace H : (if y194.length + y197.length < 5864062014805 then ((some (y194 ++ y197 : List (List (S28)))).bind fun y202 => (if y202.length < 5864062014805 then ((some (y202 ++ [rd_L3 l0 x6_1] : List (List (S28)))).bind fun y206 => ((some (x5_1.drop (x7_2 : Int).toNat : List (List (S28)))).bind fun y209 => (if y206.length + y209.length < 5864062014805 then (ref16_By.l0 k2 l0 l1 (y206 ++ y209) (wrap64 (x6_1 + 1))) else (none)))) else (none))) else (none)) = some r := by first | (rw [hy197]; with_reducible exact H) | (have H2_ := (Option.bind_some _ _).symm.trans H; rw [hy197]; with_reducible exact H2_) | (have H2_ := (Option.bind_some _ _).symm.trans H; with_reducible exact H2_) | with_reducible exact H | (rw [hy197]; exact H) | exact H
                            have Ny197 := Aside0.mk hy197
                            clear hy197
                            by_cases c17 : y194.length + y197.length < 5864062014805
                            · rw [if_pos c17] at H
                              have LMc17 := Aside0.mk c17
                              clear c17
                              obtain ⟨y202, hy202⟩ : ∃ y_ : List (List (S28)), y_ = (y194 ++ y197) := ⟨_, rfl⟩
                              replace H : (if y202.length < 5864062014805 then ((some (y202 ++ [rd_L3 l0 x6_1] : List (List (S28)))).bind fun y206 => ((some (x5_1.drop (x7_2 : Int).toNat : List (List (S28)))).bind fun y209 => (if y206.length + y209.length < 5864062014805 then (ref16_By.l0 k2 l0 l1 (y206 ++ y209) (wrap64 (x6_1 + 1))) else (none)))) else (none)) = some r := by first | (rw [hy202]; with_reducible exact H) | (have H2_ := (Option.bind_some _ _).symm.trans H; rw [hy202]; with_reducible exact H2_) | (have H2_ := (Option.bind_some _ _).symm.trans H; with_reducible exact H2_) | with_reducible exact H | (rw [hy202]; exact H) | exact H
                              have Ny202 := Aside0.mk hy202
                              clear hy202
                              by_cases c18 : y202.length < 5864062014805
                              · rw [if_pos c18] at H
                                have LMc18 := Aside0.mk c18
                                clear c18
                                obtain ⟨y206, hy206⟩ : ∃ y_ : List (List (S28)), y_ = (y202 ++ [rd_L3 l0 x6_1]) := ⟨_, rfl⟩
                                replace H : ((some (x5_1.drop (x7_2 : Int).toNat : List (List (S28)))).bind fun y209 => (if y206.length + y209.length < 5864062014805 then (ref16_By.l0 k2 l0 l1 (y206 ++ y209) (wrap64 (x6_1 + 1))) else (none))) = some r := by first | (rw [hy206]; with_reducible exact H) | (have H2_ := (Option.bind_some _ _).symm.trans H; rw [hy206]; with_reducible exact H2_) | (have H2_ := (Option.bind_some _ _).symm.trans H; with_reducible exact H2_) | with_reducible exact H | (rw [hy206]; exact H) | exact H
                                have Ny206 := Aside0.mk hy206
                                clear hy206
                                have c19b0 := eq_true (of_decide_eq_true (by first | (with_reducible assumption) | assumption) : 0 ≤ x7_2)
                                have c20b0 := eq_true (of_decide_eq_true (by first | (with_reducible assumption) | assumption) : x7_2 ≤ (x5_1.length : Int))
                                obtain ⟨y209, hy209⟩ : ∃ y_ : List (List (S28)), y_ = (x5_1.drop (x7_2 : Int).toNat) := ⟨_, rfl⟩
                                replace H : (if y206.length + y209.length < 5864062014805 then (ref16_By.l0 k2 l0 l1 (y206 ++ y209) (wrap64 (x6_1 + 1))) else (none)) = some r := by first | (rw [hy209]; with_reducible exact H) | (have H2_ := (Option.bind_some _ _).symm.trans H; rw [hy209]; with_reducible exact H2_) | (have H2_ := (Option.bind_some _ _).symm.trans H; with_reducible exact H2_) | with_reducible exact H | (rw [hy209]; exact H) | exact H
                                have Ny209 := Aside0.mk hy209
                                clear hy209
                                by_cases c21 : y206.length + y209.length < 5864062014805
                                · rw [if_pos c21] at H
                                  have LMc21 := Aside0.mk c21
                                  clear c21
                                  obtain ⟨y214, hy214⟩ : ∃ y_ : List (List (S28)), y_ = (y206 ++ y209) := ⟨_, rfl⟩
                                  replace H : (ref16_By.l0 k2 l0 l1 y214 (wrap64 (x6_1 + 1))) = some r := by first | (rw [hy214]; with_reducible exact H) | (have H2_ := (Option.bind_some _ _).symm.trans H; rw [hy214]; with_reducible exact H2_) | (have H2_ := (Option.bind_some _ _).symm.trans H; with_reducible exact H2_) | with_reducible exact H | (rw [hy214]; exact H) | exact H
                                  have Ny214 := Aside0.mk hy214
                                  clear hy214
                                  have H' := Aside0.mk H
                                  clear H
                                  try go_wp2
                                  have n0_ := Aside0.mk (Kd.V_drew HO_0.out)
                                  have n1_ := Aside0.mk (Kd.N_drew HO_5.out)
                                  have n2_ := Aside0.mk (below_drew1 HB.out)
                                  clear HO_0
                                  clear HO_5
                                  clear HB
                                  have HO_0 := n0_
                                  have HO_5 := n1_
                                  have HB := n2_
                                  clear n0_ n1_ n2_
                                  have p191 : 0 ≤ ((ji6) : Int) := of_decide_eq_true (by first | (with_reducible assumption) | assumption)
                                  have q191 : (ji6) < (x5_1.length : Int) := of_decide_eq_true (by first | (with_reducible assumption) | assumption)
                                  obtain ⟨ad191, A191_0, c191_0, e191, hx191_0, hl191_0, hi191_0⟩ := at_L3 (Kd.N_reads' HO_5.out).2.2 (ji6) p191 q191
                                  cases e191
                                  obtain ⟨ce191, hce191, hMe191, hcc191⟩ := Kd.N_get HO_5.out [] (ji6) p191 (by first | exact q191 | exact of_decide_eq_true (by first | (with_reducible assumption) | assumption) | (have e_ := (Kd.N_reads' HO_5.out).1; omega))
                                  obtain ⟨ua191_0, uc191_0, rfl, ul191_0, ge191_0⟩ := Kd.FK_slice_open hMe191
                                  have hv191_0 := hcc191 0 _ rfl
                                  rw [Nat.add_zero, show ((Kd.slice 28 k28)).sz = 1 from rfl, Nat.mul_one] at hv191_0
                                  replace hv191_0 := Option.some.inj (hv191_0.symm.trans hx191_0)
                                  injection hv191_0 with hva_ hvn_ hvc_
                                  rw [hva_] at ge191_0
                                  rw [hvc_] at ul191_0
                                  have HL191_0 := Aside0.mk (show Kd.V k28 28 _ w.heap.size _ _ (rd_L3 x5_1 (ji6)) from Kd.V_mk ul191_0 ge191_0)
                                  clear hva_ hvn_ hvc_ ge191_0 ul191_0
                                  clear hcc191 hce191
                                  have HR191_0 := Aside0.mk hi191_0
                                  have HC191_0 := Aside0.mk hl191_0
                                  clear hi191_0 hl191_0
                                  replace p191 := eq_true p191
                                  replace q191 := eq_true q191
                                  have p192 : 0 ≤ (x6_1 : Int) := of_decide_eq_true (by first | (with_reducible assumption) | assumption)
                                  have q192 : x6_1 < (l0.length : Int) := of_decide_eq_true (by first | (with_reducible assumption) | assumption)
                                  obtain ⟨ad192, A192_0, c192_0, e192, hx192_0, hl192_0, hi192_0⟩ := at_L3 (Kd.V_reads' HO_0.out).2.2 x6_1 p192 q192
                                  cases e192
                                  obtain ⟨ce192, hce192, hMe192, hcc192⟩ := Kd.V_get HO_0.out [] x6_1 p192 (by first | exact q192 | exact of_decide_eq_true (by first | (with_reducible assumption) | assumption) | (have e_ := (Kd.V_reads' HO_0.out).1; omega))
                                  obtain ⟨ua192_0, uc192_0, rfl, ul192_0, ge192_0⟩ := Kd.FK_slice_open hMe192
                                  have hv192_0 := hcc192 0 _ rfl
                                  rw [Nat.add_zero, show ((Kd.slice 28 k28)).sz = 1 from rfl, Nat.mul_one] at hv192_0
                                  replace hv192_0 := Option.some.inj (hv192_0.symm.trans hx192_0)
                                  injection hv192_0 with hva_ hvn_ hvc_
                                  rw [hva_] at ge192_0
                                  rw [hvc_] at ul192_0
                                  have HL192_0 := Aside0.mk (show Kd.V k28 28 _ w.heap.size _ _ (rd_L3 l0 x6_1) from Kd.V_mk ul192_0 ge192_0)
                                  clear hva_ hvn_ hvc_ ge192_0 ul192_0
                                  clear hcc192 hce192
                                  have HR192_0 := Aside0.mk hi192_0
                                  have HC192_0 := Aside0.mk hl192_0
                                  clear hi192_0 hl192_0
                                  replace p192 := eq_true p192
                                  replace q192 := eq_true q192
                                  refine start_ (n := 16) (S := fun w' => w'.cell? (ad191.add ((ji6)).toNat) = some (.slice A191_0 (rd_L3 x5_1 (ji6)).length c191_0) ∧ w'.cell? (ad192.add (x6_1).toNat) = some (.slice A192_0 (rd_L3 l0 x6_1).length c192_0)) (ds := []) #[false, false, false, false, false, false, false, false, false, false, false, false, false, false, false, false] (by kernel_rfl) rfl rfl ⟨hx191_0, hx192_0⟩ (fun hHeld => ?_); refine with_tabW ref16_By.tab6 ref16_By.bits6 (fun HT_ HW_ => ?_)
                                  generalize wr.drew = w22 at HO_0 HO_5 HB HL191_0 HL192_0 HR191_0 HR192_0 hx191_0 hx192_0 hHeld ⊢
                                  refine pure_ (i := 0) (N := some 17) (v := ?_) (a' := ?_) #[true, false, false, false, false, false, false, false, false, false, false, false, false, false, false, false] rfl rfl (any_of HT_.out (by kernel_rfl)) (fun _ _ _ h => h) (Or.inl ⟨by rfl, ?_⟩) ?_ ?_
                                  rotate_left
                                  · intro w'
                                    go_simp
                                    with_reducible rfl
                                  rotate_left
                                  · simp only [Act.put, List.setIfInBounds_toArray, List.set_cons_zero, List.set_cons_succ, i64_w, i32_w]
                                    rfl
                                  refine pure_ (i := 1) (N := some 18) (v := ?_) (a' := ?_) #[true, true, false, false, false, false, false, false, false, false, false, false, false, false, false, false] rfl rfl (any_of HT_.out (by kernel_rfl)) (fun _ _ _ h => h) (Or.inl ⟨by rfl, ?_⟩) ?_ ?_
                                  rotate_left
                                  · intro w'
                                    go_simp
                                    with_reducible rfl
                                  rotate_left
                                  · simp only [Act.put, List.setIfInBounds_toArray, List.set_cons_zero, List.set_cons_succ, i64_w, i32_w]
                                    rfl
                                  refine pure_ (i := 2) (N := some 19) (v := ?_) (a' := ?_) #[true, true, true, false, false, false, false, false, false, false, false, false, false, false, false, false] rfl rfl (any_of HT_.out (by kernel_rfl)) (fun _ _ _ h => h) (Or.inl ⟨by rfl, ?_⟩) ?_ ?_
                                  rotate_left
                                  · intro w'
                                    go_simp
                                    with_reducible rfl
                                  rotate_left
                                  · simp only [Act.put, List.setIfInBounds_toArray, List.set_cons_zero, List.set_cons_succ, i64_w, i32_w]
                                    rfl
                                  refine pure_ (i := 3) (N := some 20) (v := ?_) (a' := ?_) #[true, true, true, true, false, false, false, false, false, false, false, false, false, false, false, false] rfl rfl (any_of HT_.out (by kernel_rfl)) (fun _ _ _ h => h) (Or.inl ⟨by rfl, ?_⟩) ?_ ?_
                                  rotate_left
                                  · intro w'
                                    go_simp
                                    with_reducible rfl
                                  rotate_left
                                  · simp only [Act.put, List.setIfInBounds_toArray, List.set_cons_zero, List.set_cons_succ, i64_w, i32_w]
                                    rfl
                                  refine pure_ (i := 4) (N := some 21) (v := ?_) (a' := ?_) #[true, true, true, true, true, false, false, false, false, false, false, false, false, false, false, false] rfl rfl (any_of HT_.out (by kernel_rfl)) (fun _ _ _ h => h) (Or.inl ⟨by rfl, ?_⟩) ?_ ?_
                                  rotate_left
                                  · intro w'
                                    go_simp
                                    with_reducible rfl
                                  rotate_left
                                  · simp only [Act.put, List.setIfInBounds_toArray, List.set_cons_zero, List.set_cons_succ, i64_w, i32_w]
                                    rfl
                                  refine pure_ (i := 5) (N := some 22) (v := ?_) (a' := ?_) #[true, true, true, true, true, true, false, false, false, false, false, false, false, false, false, false] rfl rfl (any_of HT_.out (by kernel_rfl)) (fun _ _ _ h => h) (Or.inl ⟨by rfl, ?_⟩) ?_ ?_
                                  rotate_left
                                  · intro w'
                                    go_simp
                                    with_reducible rfl
                                  rotate_left
                                  · simp only [Act.put, List.setIfInBounds_toArray, List.set_cons_zero, List.set_cons_succ, i64_w, i32_w]
                                    rfl
                                  refine pure_ (i := 6) (N := some 23) (v := ?_) (a' := ?_) #[true, true, true, true, true, true, true, false, false, false, false, false, false, false, false, false] rfl rfl (any_of HT_.out (by kernel_rfl)) (fun _ _ _ h => h) (Or.inl ⟨by rfl, ?_⟩) ?_ ?_
                                  rotate_left
                                  · intro w'
                                    go_simp
                                    with_reducible rfl
                                  rotate_left
                                  · simp only [Act.put, List.setIfInBounds_toArray, List.set_cons_zero, List.set_cons_succ, i64_w, i32_w]
                                    rfl
                                  refine pure_ (i := 8) (N := some 25) (v := ?_) (a' := ?_) #[true, true, true, true, true, true, true, false, true, false, false, false, false, false, false, false] rfl rfl (any_of HT_.out (by kernel_rfl)) (fun _ _ _ h => h) (Or.inl ⟨by rfl, ?_⟩) ?_ ?_
                                  rotate_left
                                  · intro w'
                                    go_simp
                                    with_reducible rfl
                                  rotate_left
                                  · simp only [Act.put, List.setIfInBounds_toArray, List.set_cons_zero, List.set_cons_succ, i64_w, i32_w]
                                    rfl
                                  refine pure_ (i := 9) (N := some 26) (v := ?_) (a' := ?_) #[true, true, true, true, true, true, true, false, true, true, false, false, false, false, false, false] rfl rfl (any_of HT_.out (by kernel_rfl)) (fun _ _ _ h => h) (Or.inl ⟨by rfl, ?_⟩) ?_ ?_
                                  rotate_left
                                  · intro w'
                                    go_simp
                                    with_reducible rfl
                                  rotate_left
                                  · simp only [Act.put, List.setIfInBounds_toArray, List.set_cons_zero, List.set_cons_succ, i64_w, i32_w]
                                    rfl
                                  refine pure_ (i := 10) (N := some 27) (v := ?_) (a' := ?_) #[true, true, true, true, true, true, true, false, true, true, true, false, false, false, false, false] rfl rfl (any_of HT_.out (by kernel_rfl)) (fun _ _ _ h => h) (Or.inl ⟨by rfl, ?_⟩) ?_ ?_
                                  rotate_left
                                  · intro w'
                                    go_simp
                                    with_reducible rfl
                                  rotate_left
                                  · simp only [Act.put, List.setIfInBounds_toArray, List.set_cons_zero, List.set_cons_succ, i64_w, i32_w]
                                    rfl
                                  refine pure_ (i := 12) (N := some 29) (v := ?_) (a' := ?_) #[true, true, true, true, true, true, true, false, true, true, true, false, true, false, false, false] rfl rfl (any_of HT_.out (by kernel_rfl)) (fun _ _ _ h => h) (Or.inl ⟨by rfl, ?_⟩) ?_ ?_
                                  rotate_left
                                  · intro w'
                                    go_simp
                                    with_reducible rfl
                                  rotate_left
                                  · simp only [Act.put, List.setIfInBounds_toArray, List.set_cons_zero, List.set_cons_succ, i64_w, i32_w]
                                    rfl
                                  refine take_ (i := 7) (N := some 24) (v := ?_) (a' := ?_) #[true, true, true, true, true, true, true, true, true, true, true, false, true, false, false, false] rfl rfl (take_ofW HT_.out HW_.out (by kernel_rfl)) (fun _ _ _ h => h) (Or.inl ⟨by rfl, ?_⟩) hHeld ?_ ?_
                                  rotate_left
                                  · rintro w' ⟨s0, s1⟩
                                    go_simp
                                    with_reducible rfl
                                  rotate_left
                                  · simp only [Act.put, List.setIfInBounds_toArray, List.set_cons_zero, List.set_cons_succ, i64_w, i32_w]
                                    rfl
                                  refine take_ (i := 11) (N := some 28) (v := ?_) (a' := ?_) #[true, true, true, true, true, true, true, true, true, true, true, true, true, false, false, false] rfl rfl (take_ofW HT_.out HW_.out (by kernel_rfl)) (fun _ _ _ h => h) (Or.inl ⟨by rfl, ?_⟩) hHeld ?_ ?_
                                  rotate_left
                                  · rintro w' ⟨s0, s1⟩
                                    go_simp
                                    with_reducible rfl
                                  rotate_left
                                  · simp only [Act.put, List.setIfInBounds_toArray, List.set_cons_zero, List.set_cons_succ, i64_w, i32_w]
                                    rfl
                                  refine one_ (i := 13) (N := some 30) #[true, true, true, true, true, true, true, true, true, true, true, true, true, true, false, false] rfl rfl (one_of HT_.out (by kernel_rfl)) (by decide) (fun K hK => ?_)
                                  refine goes_ Try.func15 (by kernel_rfl) rfl #[.slice A191_0 (rd_L3 x5_1 (ji6)).length c191_0, .slice A192_0 (rd_L3 l0 x6_1).length c192_0, .slice A1 l1.length c1] (by rfl) rfl rfl (by (try simp only [List.map_toArray, List.map_cons, List.map_nil]); first | done | (simp only [hji6]; rfl) | rfl | (simp only [List.length_drop, List.length_take]; rfl)) ?_
                                  with_reducible refine (ref16_Order.calls k2 _ _ (rd_L3 x5_1 (ji6)) _ _ (rd_L3 l0 x6_1) _ _ l1 t193 _ ?side1 ?side2 ?side3 ?side4 ?side5 ?side6 A11.out).mono ?_
                                  (case side1 => repeat (first | exact (by repeat (first | (with_reducible exact HR191_0.out) | (with_reducible refine Kd.C_alloc ?_ _) | (with_reducible refine Kd.C_drewN ?_ _) | (with_reducible refine Kd.C_drew ?_) | exact HR191_0.out)) | (with_reducible refine Kd.C_alloc ?_ _) | (with_reducible refine Kd.C_drewN ?_ _) | (with_reducible refine Kd.C_drew ?_)))
                                  (case side2 => exact HC191_0.out)
                                  (case side3 => repeat (first | exact (by repeat (first | (with_reducible exact HR192_0.out) | (with_reducible refine Kd.C_alloc ?_ _) | (with_reducible refine Kd.C_drewN ?_ _) | (with_reducible refine Kd.C_drew ?_) | exact HR192_0.out)) | (with_reducible refine Kd.C_alloc ?_ _) | (with_reducible refine Kd.C_drewN ?_ _) | (with_reducible refine Kd.C_drew ?_)))
                                  (case side4 => exact HC192_0.out)
                                  (case side5 => repeat (first | exact (Kd.C_below HR1.out HB.out) | (with_reducible refine Kd.C_alloc ?_ _) | (with_reducible refine Kd.C_drewN ?_ _) | (with_reducible refine Kd.C_drew ?_)))
                                  (case side6 => exact HC1.out)
                                  rintro e w23 ⟨rfl, hb⟩
                                  have HS0_ := (hb.cell (World.block_lt_of_cell? _ _ (hHeld.1))).trans (hHeld.1)
                                  have HS1_ := (hb.cell (World.block_lt_of_cell? _ _ (hHeld.2))).trans (hHeld.2)
                                  refine ⟨_, rfl, ?_⟩
                                  have n0_ := Aside0.mk (Kd.V_below (by (with_reducible repeat (first | apply Kd.V_alloc | apply Kd.V_drewN | apply Kd.V_drew)); exact HO_0.out) hb)
                                  have n1_ := Aside0.mk (Kd.N_below (by (with_reducible repeat (first | apply Kd.N_alloc | apply Kd.N_drewN | apply Kd.N_drew)); exact HO_5.out) hb)
                                  have n2_ := Aside0.mk (Kd.V_below (by (with_reducible repeat (first | apply Kd.V_alloc | apply Kd.V_drewN | apply Kd.V_drew)); exact HL191_0.out) hb)
                                  have n3_ := Aside0.mk (Kd.V_below (by (with_reducible repeat (first | apply Kd.V_alloc | apply Kd.V_drewN | apply Kd.V_drew)); exact HL192_0.out) hb)
                                  have n4_ := Aside0.mk (Kd.C_below (by repeat (first | (with_reducible exact HR191_0.out) | (with_reducible refine Kd.C_alloc ?_ _) | (with_reducible refine Kd.C_drewN ?_ _) | (with_reducible refine Kd.C_drew ?_) | exact HR191_0.out)) hb)
                                  have n5_ := Aside0.mk (Kd.C_below (by repeat (first | (with_reducible exact HR192_0.out) | (with_reducible refine Kd.C_alloc ?_ _) | (with_reducible refine Kd.C_drewN ?_ _) | (with_reducible refine Kd.C_drew ?_) | exact HR192_0.out)) hb)
                                  have n6_ := Aside0.mk (below_step (by repeat (first | (with_reducible first | exact HB.out | apply below_alloc | apply pw_below_drewN | apply below_drew1) | exact HB.out)) hb)
                                  clear HO_0
                                  clear HO_5
                                  clear HL191_0
                                  clear HL192_0
                                  clear HR191_0
                                  clear HR192_0
                                  clear HB
                                  have HO_0 := n0_
                                  have HO_5 := n1_
                                  have HL191_0 := n2_
                                  have HL192_0 := n3_
                                  have HR191_0 := n4_
                                  have HR192_0 := n5_
                                  have HB := n6_
                                  clear n0_ n1_ n2_ n3_ n4_ n5_ n6_
                                  (try clear hb)
                                  (try clear hb2)
                                  (try clear hk)
                                  (try clear hi)
                                  refine hK.out _ _ ⟨HS0_, HS1_⟩ (fun hHeld => ?_)
                                  clear hK K
                                  refine norm_ (a' := ?_) ?_ ?_
                                  rotate_left
                                  · show Act.put _ (some 30) _ = _
                                    simp only [Act.put, List.setIfInBounds_toArray, List.set_cons_zero, List.set_cons_succ, i64_w, i32_w]
                                    rfl
                                  refine pure_ (i := 14) (N := some 31) (v := ?_) (a' := ?_) #[true, true, true, true, true, true, true, true, true, true, true, true, true, true, true, false] rfl rfl (any_of HT_.out (by kernel_rfl)) (fun _ _ _ h => h) (Or.inl ⟨by rfl, ?_⟩) ?_ ?_
                                  rotate_left
                                  · intro w'
                                    go_simp
                                    with_reducible rfl
                                  rotate_left
                                  · simp only [Act.put, List.setIfInBounds_toArray, List.set_cons_zero, List.set_cons_succ, i64_w, i32_w]
                                    rfl
                                  refine pure_ (i := 15) (N := some 32) (v := ?_) (a' := ?_) #[true, true, true, true, true, true, true, true, true, true, true, true, true, true, true, true] rfl rfl (any_of HT_.out (by kernel_rfl)) (fun _ _ _ h => h) (Or.inl ⟨by rfl, ?_⟩) ?_ ?_
                                  rotate_left
                                  · intro w'
                                    go_simp
                                    with_reducible rfl
                                  rotate_left
                                  · simp only [Act.put, List.setIfInBounds_toArray, List.set_cons_zero, List.set_cons_succ, i64_w, i32_w]
                                    rfl
                                  refine done_ (done_of HT_.out (by kernel_rfl)) ?_
                                  try go_wp2_with (first | ((with_reducible refine gate_dst (N := 35) rfl ?_); refine Kd.N_lit (Kd.slice 28 k28) _ 26 ?hg (N' := 35) ?hd (xs := ([] : List (List (S28)))) (inner := []) (ok := (fun k_ => (P0_ k_ ∨ w.heap.size ≤ k_) ∧ some k_ ≠ (.slice (some ad191) x5_1.length co4 : Value).ownBlock)) (okp := (fun k_ => (P0_ k_ ∨ w.heap.size ≤ k_) ∧ some k_ ≠ (.slice (some ad191) x5_1.length co4 : Value).ownBlock)) ?hr ?hp (fun _ hk => hk) ((show ∀ k_, w23.heap.size ≤ k_ → (fun k_ => (P0_ k_ ∨ w.heap.size ≤ k_) ∧ some k_ ≠ (.slice (some ad191) x5_1.length co4 : Value).ownBlock) k_ from fun k_ hk => ⟨(.inr (Nat.le_trans (below_size (by repeat (first | (with_reducible first | exact HB.out | apply below_alloc | apply pw_below_drewN | apply below_drew1) | exact HB.out))) hk)), Kd.fresh' (Kd.N_lt (by (with_reducible repeat (first | apply Kd.N_alloc | apply Kd.N_drewN | apply Kd.N_drew)); exact HO_5.out)) k_ hk⟩) _ (Nat.le_refl _)) (Below.refl _ _) (Nat.le_refl _) (by simp) ?_; (case hd => rfl); (case hg => rfl); (case hr => first | (go_simp; done) | (go_simp; rfl)); (case hp => exact (Reps.none _ _)); intro v195 w24 ho25 hb hg_ hnew_; clear hg_ hnew_; (first | rw [← Ny194.out] at ho25 | (simp only [Int.reduceToNat] at ho25; rw [← Ny194.out] at ho25)); have n0_ := Aside0.mk (Kd.V_elder' (by (with_reducible repeat (first | apply Kd.V_alloc | apply Kd.V_drewN | apply Kd.V_drew)); exact HO_0.out) (Kd.N_base ho25) hb); have n1_ := Aside0.mk (Kd.N_elder' (by (with_reducible repeat (first | apply Kd.N_alloc | apply Kd.N_drewN | apply Kd.N_drew)); exact HO_5.out) (Kd.N_base ho25) hb); have n2_ := Aside0.mk (Kd.V_elder' (by (with_reducible repeat (first | apply Kd.V_alloc | apply Kd.V_drewN | apply Kd.V_drew)); exact HL191_0.out) (Kd.N_base ho25) hb); have n3_ := Aside0.mk (Kd.V_elder' (by (with_reducible repeat (first | apply Kd.V_alloc | apply Kd.V_drewN | apply Kd.V_drew)); exact HL192_0.out) (Kd.N_base ho25) hb); have n4_ := Aside0.mk (Kd.N_lower ho25 (below_size (by repeat (first | (with_reducible first | exact HB.out | apply below_alloc | apply pw_below_drewN | apply below_drew1) | exact HB.out)))); have n5_ := Aside0.mk (Kd.C_below (by repeat (first | (with_reducible exact HR191_0.out) | (with_reducible refine Kd.C_alloc ?_ _) | (with_reducible refine Kd.C_drewN ?_ _) | (with_reducible refine Kd.C_drew ?_) | exact HR191_0.out)) hb); have n6_ := Aside0.mk (Kd.C_below (by repeat (first | (with_reducible exact HR192_0.out) | (with_reducible refine Kd.C_alloc ?_ _) | (with_reducible refine Kd.C_drewN ?_ _) | (with_reducible refine Kd.C_drew ?_) | exact HR192_0.out)) hb); have n7_ := Aside0.mk (below_step (by repeat (first | (with_reducible first | exact HB.out | apply below_alloc | apply pw_below_drewN | apply below_drew1) | exact HB.out)) hb); clear HO_0; clear HO_5; clear HL191_0; clear HL192_0; clear HR191_0; clear HR192_0; clear HB; have HO_0 := n0_; have HO_5 := n1_; have HL191_0 := n2_; have HL192_0 := n3_; have HO196 := n4_; have HR191_0 := n5_; have HR192_0 := n6_; have HB := n7_; clear n0_ n1_ n2_ n3_ n4_ n5_ n6_ n7_; clear hb ho25; have q26 : (x7_2 : Int) ≤ ((x5_1.length : Int) : Int) := of_decide_eq_true (by first | (with_reducible assumption) | assumption); obtain ⟨i026, hi026, _, hsz26, _⟩ := info_parts info26; have hroom26 : x5_1.length ≤ co4 := (Kd.N_reads' HO_5.out).2.1; have hC26 : Kd.F (Kd.slice 28 k28) _ _ (some ad191) x5_1.length x5_1 := (Kd.V_at (base := w.heap.size) (Kd.N_V HO_5.out)).2.2; have hcut26 := cut_to (P := Try.prog) 22 26 .i64 Try.underlying22 hi026 (some ad191) x5_1.length co4 x7_2 (of_decide_eq_true (by first | (with_reducible assumption) | assumption)) q26 hroom26; have hr26 := Kd.F_take (m := (x7_2 : Int).toNat) hC26 (by omega); have hy26 : y197.length = (x7_2 : Int).toNat := (by rw [Ny197.out, List.length_take]; omega); rw [← Ny197.out] at hr26; rw [← hy26] at hcut26; have HO201 := Aside0.mk (show Kd.V (Kd.slice 28 k28) 26 _ w.heap.size _ (.slice (some ad191) y197.length co4) y197 from Kd.V_mk (by omega) hr26); have HC201 := Aside0.mk (show y197.length ≤ co4 from by omega); clear hr26 hC26 hroom26 hi026 hsz26; have KY26 := Aside0.mk hy26; clear hy26; replace q26 := eq_true q26) | ((with_reducible refine gate_builtin (b := .append) (xs := #[.tmp 35, .tmp 38]) rfl ?_); at_builtin; refine Kd.N_append_rows (Kd.slice 28 k28) (w0 := w) w.heap.size rfl (.tmp 35) (.tmp 38) 22 26 (.slice none 0 0) 24 rfl Try.underlying22 info26 rfl (by decide) (by omega) v195 y194 y197 _ _ _ (fun k_ => (P0_ k_ ∨ w.heap.size ≤ k_)) (fun k_ => ((fun k_ => (P0_ k_ ∨ w.heap.size ≤ k_))) k_ ∧ some k_ ≠ (v195 : Value).ownBlock) rfl rfl ?aO ?aR (fun _ hk => hk) ?aF ?aB ?aS ?aL ?_; (case aR => exact (by skip; exact Kd.V_F (Kd.V_mono (ok' := (fun k_ => ((fun k_ => (P0_ k_ ∨ w.heap.size ≤ k_))) k_ ∧ some k_ ≠ (v195 : Value).ownBlock)) (HO201.out) (fun k_ hk => ⟨hk.1, hk.2⟩)))); (case aB => exact (by repeat (first | (with_reducible first | exact HB.out | apply below_alloc | apply pw_below_drewN | apply below_drew1) | exact HB.out))); (case aF => exact (fun k_ hk => (.inr (Nat.le_trans (below_size (by repeat (first | (with_reducible first | exact HB.out | apply below_alloc | apply pw_below_drewN | apply below_drew1) | exact HB.out))) hk)))); (case aO => exact (by (with_reducible repeat (first | apply Kd.N_alloc | apply Kd.N_drewN | apply Kd.N_drew)); exact Kd.N_mono HO196.out (fun _ hk => hk.1))); (case aS => exact (below_size (by repeat (first | (with_reducible first | exact HB.out | apply below_alloc | apply pw_below_drewN | apply below_drew1) | exact HB.out)))); (case aL => have := LMc17.out; omega); intro v203 w27 ho hb hg hat; rw [← Ny202.out] at ho; have n0_ := Aside0.mk (Kd.V_afterv (ok := (fun k_ => (P0_ k_ ∨ w.heap.size ≤ k_) ∧ some k_ ≠ (.slice (some ad191) x5_1.length co4 : Value).ownBlock)) (by (with_reducible repeat (first | apply Kd.V_alloc | apply Kd.V_drewN | apply Kd.V_drew)); exact HO_0.out) hg hat); have n1_ := Aside0.mk (Kd.N_afterv (ok := (fun k_ => (P0_ k_ ∨ w.heap.size ≤ k_))) (by (with_reducible repeat (first | apply Kd.N_alloc | apply Kd.N_drewN | apply Kd.N_drew)); exact HO_5.out) hg hat); have n2_ := Aside0.mk (Kd.V_afterv (ok := (fun k_ => (P0_ k_ ∨ w.heap.size ≤ k_) ∧ some k_ ≠ (.slice (some ad191) x5_1.length co4 : Value).ownBlock)) (by (with_reducible repeat (first | apply Kd.V_alloc | apply Kd.V_drewN | apply Kd.V_drew)); exact HL191_0.out) hg hat); have n3_ := Aside0.mk (Kd.V_afterv (ok := (fun k_ => (P0_ k_ ∨ w.heap.size ≤ k_) ∧ some k_ ≠ (.slice (some ad191) x5_1.length co4 : Value).ownBlock)) (by (with_reducible repeat (first | apply Kd.V_alloc | apply Kd.V_drewN | apply Kd.V_drew)); exact HL192_0.out) hg hat); have n4_ := Aside0.mk (Kd.V_afterv (ok := (fun k_ => (P0_ k_ ∨ w.heap.size ≤ k_))) (by (with_reducible repeat (first | apply Kd.V_alloc | apply Kd.V_drewN | apply Kd.V_drew)); exact HO201.out) hg hat); have n5_ := Aside0.mk (hb); have n6_ := Aside0.mk (ho); clear HO_0; clear HO_5; clear HL191_0; clear HL192_0; clear HO201; clear HB; clear HO196; have HO_0 := n0_; have HO_5 := n1_; have HL191_0 := n2_; have HL192_0 := n3_; have HO201 := n4_; have HB := n5_; have HO204 := n6_; clear n0_ n1_ n2_ n3_ n4_ n5_ n6_; clear ho hb hg hat; have p205 : 0 ≤ (x6_1 : Int) := of_decide_eq_true (by first | (with_reducible assumption) | assumption); have q205 : x6_1 < (l0.length : Int) := of_decide_eq_true (by first | (with_reducible assumption) | assumption); obtain ⟨ad205, A205_0, c205_0, e205, hx205_0, hl205_0, hi205_0⟩ := at_L3 (Kd.V_reads' HO_0.out).2.2 x6_1 p205 q205; obtain rfl : ad192 = ad205 := (by injection e205); obtain ⟨ce205, hce205, hMe205, hcc205⟩ := Kd.V_get HO_0.out [] x6_1 p205 (by first | exact q205 | exact of_decide_eq_true (by first | (with_reducible assumption) | assumption) | (have e_ := (Kd.V_reads' HO_0.out).1; omega)); obtain ⟨ua205_0, uc205_0, rfl, ul205_0, ge205_0⟩ := Kd.FK_slice_open hMe205; have hv205_0 := hcc205 0 _ rfl; rw [Nat.add_zero, show ((Kd.slice 28 k28)).sz = 1 from rfl, Nat.mul_one] at hv205_0; replace hv205_0 := Option.some.inj (hv205_0.symm.trans hx205_0); injection hv205_0 with hva_ hvn_ hvc_; rw [hva_] at ge205_0; rw [hvc_] at ul205_0; have HL205_0 := Aside0.mk (show Kd.V k28 28 _ w.heap.size _ _ (rd_L3 l0 x6_1) from Kd.V_mk ul205_0 ge205_0); clear hva_ hvn_ hvc_ ge205_0 ul205_0; clear hcc205 hce205; have HR205_0 := Aside0.mk hi205_0; have HC205_0 := Aside0.mk hl205_0; clear hi205_0 hl205_0; replace p205 := eq_true p205; replace q205 := eq_true q205) | ((with_reducible refine gate_builtin (b := .append) (xs := #[.tmp 40, .tmp 45]) rfl ?_); at_builtin; refine Kd.N_append (Kd.slice 28 k28) (w0 := w) w.heap.size rfl (.tmp 40) (.tmp 45) 22 26 (.slice none 0 0) 24 rfl Try.underlying22 info26 rfl (by decide) (by omega) v203 y202 (rd_L3 l0 x6_1) [.slice A205_0 (rd_L3 l0 x6_1).length c205_0] (fun k_ => (P0_ k_ ∨ w.heap.size ≤ k_)) (fun k_ => ((fun k_ => (P0_ k_ ∨ w.heap.size ≤ k_))) k_ ∧ some k_ ≠ (v203 : Value).ownBlock) rfl rfl ?aP (fun _ hk => hk) ?aF ?aO ?aB ?aS ?aL ?_; (case aP => exact (Kd.FK_slice_mk (Kd.V_reads' (Kd.V_mono (ok' := (fun k_ => ((fun k_ => (P0_ k_ ∨ w.heap.size ≤ k_))) k_ ∧ some k_ ≠ (v203 : Value).ownBlock)) (HL205_0.out) (fun k_ hk => ⟨hk.1.1, hk.2⟩))).2.1 (Kd.V_F (Kd.V_mono (ok' := (fun k_ => ((fun k_ => (P0_ k_ ∨ w.heap.size ≤ k_))) k_ ∧ some k_ ≠ (v203 : Value).ownBlock)) (HL205_0.out) (fun k_ hk => ⟨hk.1.1, hk.2⟩))))); (case aB => exact (by repeat (first | (with_reducible first | exact HB.out | apply below_alloc | apply pw_below_drewN | apply below_drew1) | exact HB.out))); (case aF => exact (fun k_ hk => (.inr (Nat.le_trans (below_size (by repeat (first | (with_reducible first | exact HB.out | apply below_alloc | apply pw_below_drewN | apply below_drew1) | exact HB.out))) hk)))); (case aO => exact (by (with_reducible repeat (first | apply Kd.N_alloc | apply Kd.N_drewN | apply Kd.N_drew)); exact HO204.out)); (case aS => exact (below_size (by repeat (first | (with_reducible first | exact HB.out | apply below_alloc | apply pw_below_drewN | apply below_drew1) | exact HB.out)))); (case aL => have := LMc18.out; omega); intro v207 w28 ho hb hg hat; rw [← Ny206.out] at ho; have n0_ := Aside0.mk (Kd.V_afterv (ok := (fun k_ => (P0_ k_ ∨ w.heap.size ≤ k_) ∧ some k_ ≠ (.slice (some ad191) x5_1.length co4 : Value).ownBlock)) (by (with_reducible repeat (first | apply Kd.V_alloc | apply Kd.V_drewN | apply Kd.V_drew)); exact HO_0.out) hg hat); have n1_ := Aside0.mk (Kd.N_afterv (ok := (fun k_ => (P0_ k_ ∨ w.heap.size ≤ k_))) (by (with_reducible repeat (first | apply Kd.N_alloc | apply Kd.N_drewN | apply Kd.N_drew)); exact HO_5.out) hg hat); have n2_ := Aside0.mk (Kd.V_afterv (ok := (fun k_ => (P0_ k_ ∨ w.heap.size ≤ k_) ∧ some k_ ≠ (.slice (some ad191) x5_1.length co4 : Value).ownBlock)) (by (with_reducible repeat (first | apply Kd.V_alloc | apply Kd.V_drewN | apply Kd.V_drew)); exact HL191_0.out) hg hat); have n3_ := Aside0.mk (Kd.V_afterv (ok := (fun k_ => (P0_ k_ ∨ w.heap.size ≤ k_) ∧ some k_ ≠ (.slice (some ad191) x5_1.length co4 : Value).ownBlock)) (by (with_reducible repeat (first | apply Kd.V_alloc | apply Kd.V_drewN | apply Kd.V_drew)); exact HL192_0.out) hg hat); have n4_ := Aside0.mk (Kd.V_afterv (ok := (fun k_ => (P0_ k_ ∨ w.heap.size ≤ k_))) (by (with_reducible repeat (first | apply Kd.V_alloc | apply Kd.V_drewN | apply Kd.V_drew)); exact HO201.out) hg hat); have n5_ := Aside0.mk (Kd.V_afterv (ok := (fun k_ => (P0_ k_ ∨ w.heap.size ≤ k_) ∧ some k_ ≠ (.slice (some ad191) x5_1.length co4 : Value).ownBlock)) (by (with_reducible repeat (first | apply Kd.V_alloc | apply Kd.V_drewN | apply Kd.V_drew)); exact HL205_0.out) hg hat); have n6_ := Aside0.mk (hb); have n7_ := Aside0.mk (ho); clear HO_0; clear HO_5; clear HL191_0; clear HL192_0; clear HO201; clear HL205_0; clear HB; clear HO204; have HO_0 := n0_; have HO_5 := n1_; have HL191_0 := n2_; have HL192_0 := n3_; have HO201 := n4_; have HL205_0 := n5_; have HB := n6_; have HO208 := n7_; clear n0_ n1_ n2_ n3_ n4_ n5_ n6_ n7_; clear ho hb hg hat; have q29 : (x7_2 : Int) ≤ ((x5_1.length : Int) : Int) := of_decide_eq_true (by first | (with_reducible assumption) | assumption); obtain ⟨i029, hi029, _, hsz29, _⟩ := info_parts info26; have hroom29 : x5_1.length ≤ co4 := (Kd.N_reads' HO_5.out).2.1; have hC29 : Kd.F (Kd.slice 28 k28) _ _ (some ad191) x5_1.length x5_1 := (Kd.V_at (base := w.heap.size) (Kd.N_V HO_5.out)).2.2; have q029 : (0 : Int) ≤ (x7_2 : Int) := of_decide_eq_true (by first | (with_reducible assumption) | assumption); have hcut29 := cut_from (P := Try.prog) 22 26 .i64 Try.underlying22 hi029 1 hsz29 (some ad191) x5_1.length co4 x7_2 q029 q29; have hr29 := Kd.F_cut (m := (x7_2 : Int).toNat) (c := co4) hC29 (by omega) hroom29; obtain ⟨A29, hA29⟩ : ∃ A1, A1 = (if co4 = (x7_2 : Int).toNat then (some ad191) else ((some ad191) : Option Addr).map (·.add ((x7_2 : Int).toNat * 1))) := ⟨_, rfl⟩; obtain ⟨c29, hc29⟩ : ∃ c1, c1 = co4 - (x7_2 : Int).toNat := ⟨_, rfl⟩; have hy29 : y209.length = x5_1.length - (x7_2 : Int).toNat := (by rw [Ny209.out, List.length_drop] <;> omega); rw [show (x5_1).drop (x7_2 : Int).toNat = y209 from Ny209.out.symm] at hr29; replace hr29 : Kd.F (Kd.slice 28 k28) _ _ A29 y209.length y209 := (by rw [hA29]; exact hr29); rw [← hy29, ← hA29, ← hc29] at hcut29; have HO213 := Aside0.mk (show Kd.V (Kd.slice 28 k28) 26 _ w.heap.size _ (.slice A29 y209.length c29) y209 from Kd.V_mk (by rw [hy29, hc29]; exact Nat.sub_le_sub_right hroom29 _) hr29); have HC213 := Aside0.mk (show y209.length ≤ c29 from by rw [hy29, hc29]; exact Nat.sub_le_sub_right hroom29 _); clear hr29 hC29 hroom29 hi029 hsz29 hc29; have KY29 := Aside0.mk hy29; have KA29 := Aside0.mk hA29; clear hy29 hA29; replace q29 := eq_true q29) | ((with_reducible refine gate_builtin (b := .append) (xs := #[.tmp 47, .tmp 50]) rfl ?_); at_builtin; refine Kd.N_append_rows (Kd.slice 28 k28) (w0 := w) w.heap.size rfl (.tmp 47) (.tmp 50) 22 26 (.slice none 0 0) 24 rfl Try.underlying22 info26 rfl (by decide) (by omega) v207 y206 y209 _ _ _ (fun k_ => (P0_ k_ ∨ w.heap.size ≤ k_)) (fun k_ => ((fun k_ => (P0_ k_ ∨ w.heap.size ≤ k_))) k_ ∧ some k_ ≠ (v207 : Value).ownBlock) rfl rfl ?aO ?aR (fun _ hk => hk) ?aF ?aB ?aS ?aL ?_; (case aR => exact (by skip; exact Kd.V_F (Kd.V_mono (ok' := (fun k_ => ((fun k_ => (P0_ k_ ∨ w.heap.size ≤ k_))) k_ ∧ some k_ ≠ (v207 : Value).ownBlock)) (HO213.out) (fun k_ hk => ⟨hk.1, hk.2⟩)))); (case aB => exact (by repeat (first | (with_reducible first | exact HB.out | apply below_alloc | apply pw_below_drewN | apply below_drew1) | exact HB.out))); (case aF => exact (fun k_ hk => (.inr (Nat.le_trans (below_size (by repeat (first | (with_reducible first | exact HB.out | apply below_alloc | apply pw_below_drewN | apply below_drew1) | exact HB.out))) hk)))); (case aO => exact (by (with_reducible repeat (first | apply Kd.N_alloc | apply Kd.N_drewN | apply Kd.N_drew)); exact HO208.out)); (case aS => exact (below_size (by repeat (first | (with_reducible first | exact HB.out | apply below_alloc | apply pw_below_drewN | apply below_drew1) | exact HB.out)))); (case aL => have := LMc21.out; omega); intro v215 w30 ho hb hg hat; rw [← Ny214.out] at ho; have n0_ := Aside0.mk (Kd.V_afterv (ok := (fun k_ => (P0_ k_ ∨ w.heap.size ≤ k_) ∧ some k_ ≠ (.slice (some ad191) x5_1.length co4 : Value).ownBlock)) (by (with_reducible repeat (first | apply Kd.V_alloc | apply Kd.V_drewN | apply Kd.V_drew)); exact HO_0.out) hg hat); have n1_ := Aside0.mk (Kd.N_afterv (ok := (fun k_ => (P0_ k_ ∨ w.heap.size ≤ k_))) (by (with_reducible repeat (first | apply Kd.N_alloc | apply Kd.N_drewN | apply Kd.N_drew)); exact HO_5.out) hg hat); have n2_ := Aside0.mk (Kd.V_afterv (ok := (fun k_ => (P0_ k_ ∨ w.heap.size ≤ k_) ∧ some k_ ≠ (.slice (some ad191) x5_1.length co4 : Value).ownBlock)) (by (with_reducible repeat (first | apply Kd.V_alloc | apply Kd.V_drewN | apply Kd.V_drew)); exact HL191_0.out) hg hat); have n3_ := Aside0.mk (Kd.V_afterv (ok := (fun k_ => (P0_ k_ ∨ w.heap.size ≤ k_) ∧ some k_ ≠ (.slice (some ad191) x5_1.length co4 : Value).ownBlock)) (by (with_reducible repeat (first | apply Kd.V_alloc | apply Kd.V_drewN | apply Kd.V_drew)); exact HL192_0.out) hg hat); have n4_ := Aside0.mk (Kd.V_afterv (ok := (fun k_ => (P0_ k_ ∨ w.heap.size ≤ k_))) (by (with_reducible repeat (first | apply Kd.V_alloc | apply Kd.V_drewN | apply Kd.V_drew)); exact HO201.out) hg hat); have n5_ := Aside0.mk (Kd.V_afterv (ok := (fun k_ => (P0_ k_ ∨ w.heap.size ≤ k_) ∧ some k_ ≠ (.slice (some ad191) x5_1.length co4 : Value).ownBlock)) (by (with_reducible repeat (first | apply Kd.V_alloc | apply Kd.V_drewN | apply Kd.V_drew)); exact HL205_0.out) hg hat); have n6_ := Aside0.mk (Kd.V_afterv (ok := (fun k_ => (P0_ k_ ∨ w.heap.size ≤ k_))) (by (with_reducible repeat (first | apply Kd.V_alloc | apply Kd.V_drewN | apply Kd.V_drew)); exact HO213.out) hg hat); have n7_ := Aside0.mk (hb); have n8_ := Aside0.mk (ho); clear HO_0; clear HO_5; clear HL191_0; clear HL192_0; clear HO201; clear HL205_0; clear HO213; clear HB; clear HO208; have HO_0 := n0_; have HO_5 := n1_; have HL191_0 := n2_; have HL192_0 := n3_; have HO201 := n4_; have HL205_0 := n5_; have HO213 := n6_; have HB := n7_; have HO216 := n8_; clear n0_ n1_ n2_ n3_ n4_ n5_ n6_ n7_ n8_; clear ho hb hg hat))
                                  go_roundg k2
                                  case measure => have := HK1.out; have := HK2.out; omega
                                  case rel => exact ⟨(y214), (wrap64 (x6_1 + 1)), (by first | rfl | (simp; done) | (simp [*]; done)), H', ⟨by have := HK1.out; have := HK2.out; omega⟩, ⟨by (with_reducible repeat (first | apply Kd.V_alloc | apply Kd.V_drewN | apply Kd.V_drew)); exact Kd.V_mono HO_0.out (fun _ hk => ⟨hk.1.1, hk.2⟩)⟩, ⟨by (with_reducible repeat (first | apply Kd.N_alloc | apply Kd.N_drewN | apply Kd.N_drew)); exact HO216.out⟩, ⟨by repeat (first | (with_reducible first | exact HB.out | apply below_alloc | apply pw_below_drewN | apply below_drew1) | exact HB.out)⟩⟩
                                · rw [if_neg c21] at H
                                  exact absurd H (by simp)
                              · rw [if_neg c18] at H
                                exact absurd H (by simp)
                            · rw [if_neg c17] at H
                              exact absurd H (by simp)
                          · rw [if_neg c16] at H
                            exact absurd H (by simp)
                        · rw [if_neg c15] at H
                          exact absurd H (by simp)
                    · rw [if_neg c10] at H
                      exact absurd H (by simp)
                  · rw [if_neg c9] at H
                    exact absurd H (by simp)
                · rw [if_neg c8] at H
                  exact absurd H (by simp)
              · rw [if_neg c7] at H
                exact absurd H (by simp)
            · rw [if_neg c5] at H
              have c5b0 : decide (0 < x7_2) = false := decide_eq_false c5
              clear c5
              obtain ⟨y217, hy217⟩ : ∃ y_ : List (List (S28)), y_ = (([] : List (List (S28)))) := ⟨_, rfl⟩
              replace H : (if 0 ≤ x7_2 then (if x7_2 ≤ (x5_1.length : Int) then ((some (x5_1.take (x7_2 : Int).toNat : List (List (S28)))).bind fun y220 => (if y217.length + y220.length < 5864062014805 then ((some (y217 ++ y220 : List (List (S28)))).bind fun y225 => (if 0 ≤ x6_1 then (if x6_1 < (l0.length : Int) then (if y225.length < 5864062014805 then ((some (y225 ++ [rd_L3 l0 x6_1] : List (List (S28)))).bind fun y229 => ((some (x5_1.drop (x7_2 : Int).toNat : List (List (S28)))).bind fun y232 => (if y229.length + y232.length < 5864062014805 then (ref16_By.l0 k2 l0 l1 (y229 ++ y232) (wrap64 (x6_1 + 1))) else (none)))) else (none)) else (none)) else (none))) else (none))) else (none)) else (none)) = some r := by first | (rw [hy217]; with_reducible exact H) | (have H2_ := (Option.bind_some _ _).symm.trans H; rw [hy217]; with_reducible exact H2_) | (have H2_ := (Option.bind_some _ _).symm.trans H; with_reducible exact H2_) | with_reducible exact H | (rw [hy217]; exact H) | exact H
              have Ny217 := Aside0.mk hy217
              clear hy217
              by_cases c31 : 0 ≤ x7_2
              · rw [if_pos c31] at H
                have c31b0 := eq_true c31
                have c31b1 : decide (0 ≤ x7_2) = true := decide_eq_true c31
                clear c31
                by_cases c32 : x7_2 ≤ (x5_1.length : Int)
                · rw [if_pos c32] at H
                  have c32b0 := eq_true c32
                  have c32b1 : decide (x7_2 ≤ (x5_1.length : Int)) = true := decide_eq_true c32
                  (try (have c32b1q_hl191_0 := c32b1; rw [hl191_0] at c32b1q_hl191_0))
                  (try (have c32b1q_hl192_0 := c32b1; rw [hl192_0] at c32b1q_hl192_0))
                  (try (have c32b1q_hl205_0 := c32b1; rw [hl205_0] at c32b1q_hl205_0))
                  clear c32
                  obtain ⟨y220, hy220⟩ : ∃ y_ : List (List (S28)), y_ = (x5_1.take (x7_2 : Int).toNat) := ⟨_, rfl⟩
                  replace H : (if y217.length + y220.length < 5864062014805 then ((some (y217 ++ y220 : List (List (S28)))).bind fun y225 => (if 0 ≤ x6_1 then (if x6_1 < (l0.length : Int) then (if y225.length < 5864062014805 then ((some (y225 ++ [rd_L3 l0 x6_1] : List (List (S28)))).bind fun y229 => ((some (x5_1.drop (x7_2 : Int).toNat : List (List (S28)))).bind fun y232 => (if y229.length + y232.length < 5864062014805 then (ref16_By.l0 k2 l0 l1 (y229 ++ y232) (wrap64 (x6_1 + 1))) else (none)))) else (none)) else (none)) else (none))) else (none)) = some r := by first | (rw [hy220]; with_reducible exact H) | (have H2_ := (Option.bind_some _ _).symm.trans H; rw [hy220]; with_reducible exact H2_) | (have H2_ := (Option.bind_some _ _).symm.trans H; with_reducible exact H2_) | with_reducible exact H | (rw [hy220]; exact H) | exact H
                  have Ny220 := Aside0.mk hy220
                  clear hy220
                  by_cases c33 : y217.length + y220.length < 5864062014805
                  · rw [if_pos c33] at H
                    have LMc33 := Aside0.mk c33
                    clear c33
                    obtain ⟨y225, hy225⟩ : ∃ y_ : List (List (S28)), y_ = (y217 ++ y220) := ⟨_, rfl⟩
                    replace H : (if 0 ≤ x6_1 then (if x6_1 < (l0.length : Int) then (if y225.length < 5864062014805 then ((some (y225 ++ [rd_L3 l0 x6_1] : List (List (S28)))).bind fun y229 => ((some (x5_1.drop (x7_2 : Int).toNat : List (List (S28)))).bind fun y232 => (if y229.length + y232.length < 5864062014805 then (ref16_By.l0 k2 l0 l1 (y229 ++ y232) (wrap64 (x6_1 + 1))) else (none)))) else (none)) else (none)) else (none)) = some r := by first | (rw [hy225]; with_reducible exact H) | (have H2_ := (Option.bind_some _ _).symm.trans H; rw [hy225]; with_reducible exact H2_) | (have H2_ := (Option.bind_some _ _).symm.trans H; with_reducible exact H2_) | with_reducible exact H | (rw [hy225]; exact H) | exact H
                    have Ny225 := Aside0.mk hy225
                    clear hy225
                    by_cases c34 : 0 ≤ x6_1
                    · rw [if_pos c34] at H
                      have c34b0 : decide (0 ≤ x6_1) = true := decide_eq_true c34
                      clear c34
                      by_cases c35 : x6_1 < (l0.length : Int)
                      · rw [if_pos c35] at H
                        have c35b0 : decide (x6_1 < (l0.length : Int)) = true := decide_eq_true c35
                        (try (have c35b0q_hl191_0 := c35b0; rw [hl191_0] at c35b0q_hl191_0))
                        (try (have c35b0q_hl192_0 := c35b0; rw [hl192_0] at c35b0q_hl192_0))
                        (try (have c35b0q_hl205_0 := c35b0; rw [hl205_0] at c35b0q_hl205_0))
                        clear c35
                        by_cases c36 : y225.length < 5864062014805
                        · rw [if_pos c36] at H
                          have LMc36 := Aside0.mk c36
                          clear c36
                          obtain ⟨y229, hy229⟩ : ∃ y_ : List (List (S28)), y_ = (y225 ++ [rd_L3 l0 x6_1]) := ⟨_, rfl⟩
                          replace H : ((some (x5_1.drop (x7_2 : Int).toNat : List (List (S28)))).bind fun y232 => (if y229.length + y232.length < 5864062014805 then (ref16_By.l0 k2 l0 l1 (y229 ++ y232) (wrap64 (x6_1 + 1))) else (none))) = some r := by first | (rw [hy229]; with_reducible exact H) | (have H2_ := (Option.bind_some _ _).symm.trans H; rw [hy229]; with_reducible exact H2_) | (have H2_ := (Option.bind_some _ _).symm.trans H; with_reducible exact H2_) | with_reducible exact H | (rw [hy229]; exact H) | exact H
                          have Ny229 := Aside0.mk hy229
                          clear hy229
                          have c37b0 := eq_true (of_decide_eq_true (by first | (with_reducible assumption) | assumption) : 0 ≤ x7_2)
                          have c38b0 := eq_true (of_decide_eq_true (by first | (with_reducible assumption) | assumption) : x7_2 ≤ (x5_1.length : Int))
                          obtain ⟨y232, hy232⟩ : ∃ y_ : List (List (S28)), y_ = (x5_1.drop (x7_2 : Int).toNat) := ⟨_, rfl⟩
                          replace H : (if y229.length + y232.length < 5864062014805 then (ref16_By.l0 k2 l0 l1 (y229 ++ y232) (wrap64 (x6_1 + 1))) else (none)) = some r := by first | (rw [hy232]; with_reducible exact H) | (have H2_ := (Option.bind_some _ _).symm.trans H; rw [hy232]; with_reducible exact H2_) | (have H2_ := (Option.bind_some _ _).symm.trans H; with_reducible exact H2_) | with_reducible exact H | (rw [hy232]; exact H) | exact H
                          have Ny232 := Aside0.mk hy232
                          clear hy232
                          by_cases c39 : y229.length + y232.length < 5864062014805
                          · rw [if_pos c39] at H
                            have LMc39 := Aside0.mk c39
                            clear c39
                            obtain ⟨y237, hy237⟩ : ∃ y_ : List (List (S28)), y_ = (y229 ++ y232) := ⟨_, rfl⟩
                            replace H : (ref16_By.l0 k2 l0 l1 y237 (wrap64 (x6_1 + 1))) = some r := by first | (rw [hy237]; with_reducible exact H) | (have H2_ := (Option.bind_some _ _).symm.trans H; rw [hy237]; with_reducible exact H2_) | (have H2_ := (Option.bind_some _ _).symm.trans H; with_reducible exact H2_) | with_reducible exact H | (rw [hy237]; exact H) | exact H
                            have Ny237 := Aside0.mk hy237
                            clear hy237
                            have H' := Aside0.mk H
                            clear H
                            try go_wp2
                            have n0_ := Aside0.mk (Kd.V_drew HO_0.out)
                            have n1_ := Aside0.mk (Kd.N_drew HO_5.out)
                            have n2_ := Aside0.mk (below_drew1 HB.out)
                            clear HO_0
                            clear HO_5
                            clear HB
                            have HO_0 := n0_
                            have HO_5 := n1_
                            have HB := n2_
                            clear n0_ n1_ n2_
                            refine start_ (n := 16) (S := fun w' => True) (ds := []) #[false, false, false, false, false, false, false, false, false, false, false, false, false, false, false, false] (by kernel_rfl) rfl rfl trivial (fun hHeld => ?_); refine with_tabW ref16_By.tab6 ref16_By.bits6 (fun HT_ HW_ => ?_)
                            generalize wr.drew = w40 at HO_0 HO_5 HB hHeld ⊢
                            refine pure_ (i := 0) (N := some 17) (v := ?_) (a' := ?_) #[true, false, false, false, false, false, false, false, false, false, false, false, false, false, false, false] rfl rfl (any_of HT_.out (by kernel_rfl)) (fun _ _ _ h => h) (Or.inl ⟨by rfl, ?_⟩) ?_ ?_
                            rotate_left
                            · intro w'
                              go_simp
                              with_reducible rfl
                            rotate_left
                            · simp only [Act.put, List.setIfInBounds_toArray, List.set_cons_zero, List.set_cons_succ, i64_w, i32_w]
                              rfl
                            refine pure_ (i := 1) (N := some 18) (v := ?_) (a' := ?_) #[true, true, false, false, false, false, false, false, false, false, false, false, false, false, false, false] rfl rfl (any_of HT_.out (by kernel_rfl)) (fun _ _ _ h => h) (Or.inl ⟨by rfl, ?_⟩) ?_ ?_
                            rotate_left
                            · intro w'
                              go_simp
                              with_reducible rfl
                            rotate_left
                            · simp only [Act.put, List.setIfInBounds_toArray, List.set_cons_zero, List.set_cons_succ, i64_w, i32_w]
                              rfl
                            refine pure_ (i := 2) (N := some 19) (v := ?_) (a' := ?_) #[true, true, true, false, false, false, false, false, false, false, false, false, false, false, false, false] rfl rfl (any_of HT_.out (by kernel_rfl)) (fun _ _ _ h => h) (Or.inl ⟨by rfl, ?_⟩) ?_ ?_
                            rotate_left
                            · intro w'
                              go_simp
                              with_reducible rfl
                            rotate_left
                            · simp only [Act.put, List.setIfInBounds_toArray, List.set_cons_zero, List.set_cons_succ, i64_w, i32_w]
                              rfl
                            refine pure_ (i := 3) (N := some 20) (v := undef) (a' := ?_) #[true, true, true, true, false, false, false, false, false, false, false, false, false, false, false, false] rfl rfl (any_of HT_.out (by kernel_rfl)) (fun _ _ _ h => h) (Or.inr ⟨by rfl, rfl⟩) ?_ ?_
                            rotate_left
                            · simp only [Act.put, List.setIfInBounds_toArray, List.set_cons_zero, List.set_cons_succ, i64_w, i32_w]
                              rfl
                            refine pure_ (i := 4) (N := some 21) (v := undef) (a' := ?_) #[true, true, true, true, true, false, false, false, false, false, false, false, false, false, false, false] rfl rfl (any_of HT_.out (by kernel_rfl)) (fun _ _ _ h => h) (Or.inr ⟨by rfl, rfl⟩) ?_ ?_
                            rotate_left
                            · simp only [Act.put, List.setIfInBounds_toArray, List.set_cons_zero, List.set_cons_succ, i64_w, i32_w]
                              rfl
                            refine pure_ (i := 5) (N := some 22) (v := undef) (a' := ?_) #[true, true, true, true, true, true, false, false, false, false, false, false, false, false, false, false] rfl rfl (any_of HT_.out (by kernel_rfl)) (fun _ _ _ h => h) (Or.inr ⟨by rfl, rfl⟩) ?_ ?_
                            rotate_left
                            · simp only [Act.put, List.setIfInBounds_toArray, List.set_cons_zero, List.set_cons_succ, i64_w, i32_w]
                              rfl
                            refine pure_ (i := 6) (N := some 23) (v := undef) (a' := ?_) #[true, true, true, true, true, true, true, false, false, false, false, false, false, false, false, false] rfl rfl (any_of HT_.out (by kernel_rfl)) (fun _ _ _ h => h) (Or.inr ⟨by rfl, rfl⟩) ?_ ?_
                            rotate_left
                            · simp only [Act.put, List.setIfInBounds_toArray, List.set_cons_zero, List.set_cons_succ, i64_w, i32_w]
                              rfl
                            refine pure_ (i := 7) (N := some 24) (v := undef) (a' := ?_) #[true, true, true, true, true, true, true, true, false, false, false, false, false, false, false, false] rfl rfl (any_of HT_.out (by kernel_rfl)) (fun _ _ _ h => h) (Or.inr ⟨by rfl, rfl⟩) ?_ ?_
                            rotate_left
                            · simp only [Act.put, List.setIfInBounds_toArray, List.set_cons_zero, List.set_cons_succ, i64_w, i32_w]
                              rfl
                            refine pure_ (i := 8) (N := some 25) (v := undef) (a' := ?_) #[true, true, true, true, true, true, true, true, true, false, false, false, false, false, false, false] rfl rfl (any_of HT_.out (by kernel_rfl)) (fun _ _ _ h => h) (Or.inr ⟨by rfl, rfl⟩) ?_ ?_
                            rotate_left
                            · simp only [Act.put, List.setIfInBounds_toArray, List.set_cons_zero, List.set_cons_succ, i64_w, i32_w]
                              rfl
                            refine pure_ (i := 9) (N := some 26) (v := undef) (a' := ?_) #[true, true, true, true, true, true, true, true, true, true, false, false, false, false, false, false] rfl rfl (any_of HT_.out (by kernel_rfl)) (fun _ _ _ h => h) (Or.inr ⟨by rfl, rfl⟩) ?_ ?_
                            rotate_left
                            · simp only [Act.put, List.setIfInBounds_toArray, List.set_cons_zero, List.set_cons_succ, i64_w, i32_w]
                              rfl
                            refine pure_ (i := 10) (N := some 27) (v := undef) (a' := ?_) #[true, true, true, true, true, true, true, true, true, true, true, false, false, false, false, false] rfl rfl (any_of HT_.out (by kernel_rfl)) (fun _ _ _ h => h) (Or.inr ⟨by rfl, rfl⟩) ?_ ?_
                            rotate_left
                            · simp only [Act.put, List.setIfInBounds_toArray, List.set_cons_zero, List.set_cons_succ, i64_w, i32_w]
                              rfl
                            refine pure_ (i := 11) (N := some 28) (v := undef) (a' := ?_) #[true, true, true, true, true, true, true, true, true, true, true, true, false, false, false, false] rfl rfl (any_of HT_.out (by kernel_rfl)) (fun _ _ _ h => h) (Or.inr ⟨by rfl, rfl⟩) ?_ ?_
                            rotate_left
                            · simp only [Act.put, List.setIfInBounds_toArray, List.set_cons_zero, List.set_cons_succ, i64_w, i32_w]
                              rfl
                            refine pure_ (i := 12) (N := some 29) (v := undef) (a' := ?_) #[true, true, true, true, true, true, true, true, true, true, true, true, true, false, false, false] rfl rfl (any_of HT_.out (by kernel_rfl)) (fun _ _ _ h => h) (Or.inr ⟨by rfl, rfl⟩) ?_ ?_
                            rotate_left
                            · simp only [Act.put, List.setIfInBounds_toArray, List.set_cons_zero, List.set_cons_succ, i64_w, i32_w]
                              rfl
                            refine pure_ (i := 13) (N := some 30) (v := undef) (a' := ?_) #[true, true, true, true, true, true, true, true, true, true, true, true, true, true, false, false] rfl rfl (any_of HT_.out (by kernel_rfl)) (fun _ _ _ h => h) (Or.inr ⟨by rfl, rfl⟩) ?_ ?_
                            rotate_left
                            · simp only [Act.put, List.setIfInBounds_toArray, List.set_cons_zero, List.set_cons_succ, i64_w, i32_w]
                              rfl
                            refine pure_ (i := 14) (N := some 31) (v := undef) (a' := ?_) #[true, true, true, true, true, true, true, true, true, true, true, true, true, true, true, false] rfl rfl (any_of HT_.out (by kernel_rfl)) (fun _ _ _ h => h) (Or.inr ⟨by rfl, rfl⟩) ?_ ?_
                            rotate_left
                            · simp only [Act.put, List.setIfInBounds_toArray, List.set_cons_zero, List.set_cons_succ, i64_w, i32_w]
                              rfl
                            refine pure_ (i := 15) (N := some 32) (v := ?_) (a' := ?_) #[true, true, true, true, true, true, true, true, true, true, true, true, true, true, true, true] rfl rfl (any_of HT_.out (by kernel_rfl)) (fun _ _ _ h => h) (Or.inl ⟨by rfl, ?_⟩) ?_ ?_
                            rotate_left
                            · intro w'
                              go_simp
                              with_reducible rfl
                            rotate_left
                            · simp only [Act.put, List.setIfInBounds_toArray, List.set_cons_zero, List.set_cons_succ, i64_w, i32_w]
                              rfl
                            refine done_ (done_of HT_.out (by kernel_rfl)) ?_
                            try go_wp2_with (first | ((with_reducible refine gate_dst (N := 35) rfl ?_); refine Kd.N_lit (Kd.slice 28 k28) _ 26 ?hg (N' := 35) ?hd (xs := ([] : List (List (S28)))) (inner := []) (ok := (fun k_ => (P0_ k_ ∨ w.heap.size ≤ k_) ∧ some k_ ≠ (.slice Ao4 x5_1.length co4 : Value).ownBlock)) (okp := (fun k_ => (P0_ k_ ∨ w.heap.size ≤ k_) ∧ some k_ ≠ (.slice Ao4 x5_1.length co4 : Value).ownBlock)) ?hr ?hp (fun _ hk => hk) ((show ∀ k_, w40.heap.size ≤ k_ → (fun k_ => (P0_ k_ ∨ w.heap.size ≤ k_) ∧ some k_ ≠ (.slice Ao4 x5_1.length co4 : Value).ownBlock) k_ from fun k_ hk => ⟨(.inr (Nat.le_trans (below_size (by repeat (first | (with_reducible first | exact HB.out | apply below_alloc | apply pw_below_drewN | apply below_drew1) | exact HB.out))) hk)), Kd.fresh' (Kd.N_lt (by (with_reducible repeat (first | apply Kd.N_alloc | apply Kd.N_drewN | apply Kd.N_drew)); exact HO_5.out)) k_ hk⟩) _ (Nat.le_refl _)) (Below.refl _ _) (Nat.le_refl _) (by simp) ?_; (case hd => rfl); (case hg => rfl); (case hr => first | (go_simp; done) | (go_simp; rfl)); (case hp => exact (Reps.none _ _)); intro v218 w41 ho42 hb hg_ hnew_; clear hg_ hnew_; (first | rw [← Ny217.out] at ho42 | (simp only [Int.reduceToNat] at ho42; rw [← Ny217.out] at ho42)); have n0_ := Aside0.mk (Kd.V_elder' (by (with_reducible repeat (first | apply Kd.V_alloc | apply Kd.V_drewN | apply Kd.V_drew)); exact HO_0.out) (Kd.N_base ho42) hb); have n1_ := Aside0.mk (Kd.N_elder' (by (with_reducible repeat (first | apply Kd.N_alloc | apply Kd.N_drewN | apply Kd.N_drew)); exact HO_5.out) (Kd.N_base ho42) hb); have n2_ := Aside0.mk (Kd.N_lower ho42 (below_size (by repeat (first | (with_reducible first | exact HB.out | apply below_alloc | apply pw_below_drewN | apply below_drew1) | exact HB.out)))); have n3_ := Aside0.mk (below_step (by repeat (first | (with_reducible first | exact HB.out | apply below_alloc | apply pw_below_drewN | apply below_drew1) | exact HB.out)) hb); clear HO_0; clear HO_5; clear HB; have HO_0 := n0_; have HO_5 := n1_; have HO219 := n2_; have HB := n3_; clear n0_ n1_ n2_ n3_; clear hb ho42; have q43 : (x7_2 : Int) ≤ ((x5_1.length : Int) : Int) := of_decide_eq_true (by first | (with_reducible assumption) | assumption); obtain ⟨i043, hi043, _, hsz43, _⟩ := info_parts info26; have hroom43 : x5_1.length ≤ co4 := (Kd.N_reads' HO_5.out).2.1; have hC43 : Kd.F (Kd.slice 28 k28) _ _ Ao4 x5_1.length x5_1 := (Kd.V_at (base := w.heap.size) (Kd.N_V HO_5.out)).2.2; have hcut43 := cut_to (P := Try.prog) 22 26 .i64 Try.underlying22 hi043 Ao4 x5_1.length co4 x7_2 (of_decide_eq_true (by first | (with_reducible assumption) | assumption)) q43 hroom43; have hr43 := Kd.F_take (m := (x7_2 : Int).toNat) hC43 (by omega); have hy43 : y220.length = (x7_2 : Int).toNat := (by rw [Ny220.out, List.length_take]; omega); rw [← Ny220.out] at hr43; rw [← hy43] at hcut43; have HO224 := Aside0.mk (show Kd.V (Kd.slice 28 k28) 26 _ w.heap.size _ (.slice Ao4 y220.length co4) y220 from Kd.V_mk (by omega) hr43); have HC224 := Aside0.mk (show y220.length ≤ co4 from by omega); clear hr43 hC43 hroom43 hi043 hsz43; have KY43 := Aside0.mk hy43; clear hy43; replace q43 := eq_true q43) | ((with_reducible refine gate_builtin (b := .append) (xs := #[.tmp 35, .tmp 38]) rfl ?_); at_builtin; refine Kd.N_append_rows (Kd.slice 28 k28) (w0 := w) w.heap.size rfl (.tmp 35) (.tmp 38) 22 26 (.slice none 0 0) 24 rfl Try.underlying22 info26 rfl (by decide) (by omega) v218 y217 y220 _ _ _ (fun k_ => (P0_ k_ ∨ w.heap.size ≤ k_)) (fun k_ => ((fun k_ => (P0_ k_ ∨ w.heap.size ≤ k_))) k_ ∧ some k_ ≠ (v218 : Value).ownBlock) rfl rfl ?aO ?aR (fun _ hk => hk) ?aF ?aB ?aS ?aL ?_; (case aR => exact (by skip; exact Kd.V_F (Kd.V_mono (ok' := (fun k_ => ((fun k_ => (P0_ k_ ∨ w.heap.size ≤ k_))) k_ ∧ some k_ ≠ (v218 : Value).ownBlock)) (HO224.out) (fun k_ hk => ⟨hk.1, hk.2⟩)))); (case aB => exact (by repeat (first | (with_reducible first | exact HB.out | apply below_alloc | apply pw_below_drewN | apply below_drew1) | exact HB.out))); (case aF => exact (fun k_ hk => (.inr (Nat.le_trans (below_size (by repeat (first | (with_reducible first | exact HB.out | apply below_alloc | apply pw_below_drewN | apply below_drew1) | exact HB.out))) hk)))); (case aO => exact (by (with_reducible repeat (first | apply Kd.N_alloc | apply Kd.N_drewN | apply Kd.N_drew)); exact Kd.N_mono HO219.out (fun _ hk => hk.1))); (case aS => exact (below_size (by repeat (first | (with_reducible first | exact HB.out | apply below_alloc | apply pw_below_drewN | apply below_drew1) | exact HB.out)))); (case aL => have := LMc33.out; omega); intro v226 w44 ho hb hg hat; rw [← Ny225.out] at ho; have n0_ := Aside0.mk (Kd.V_afterv (ok := (fun k_ => (P0_ k_ ∨ w.heap.size ≤ k_) ∧ some k_ ≠ (.slice Ao4 x5_1.length co4 : Value).ownBlock)) (by (with_reducible repeat (first | apply Kd.V_alloc | apply Kd.V_drewN | apply Kd.V_drew)); exact HO_0.out) hg hat); have n1_ := Aside0.mk (Kd.N_afterv (ok := (fun k_ => (P0_ k_ ∨ w.heap.size ≤ k_))) (by (with_reducible repeat (first | apply Kd.N_alloc | apply Kd.N_drewN | apply Kd.N_drew)); exact HO_5.out) hg hat); have n2_ := Aside0.mk (Kd.V_afterv (ok := (fun k_ => (P0_ k_ ∨ w.heap.size ≤ k_))) (by (with_reducible repeat (first | apply Kd.V_alloc | apply Kd.V_drewN | apply Kd.V_drew)); exact HO224.out) hg hat); have n3_ := Aside0.mk (hb); have n4_ := Aside0.mk (ho); clear HO_0; clear HO_5; clear HO224; clear HB; clear HO219; have HO_0 := n0_; have HO_5 := n1_; have HO224 := n2_; have HB := n3_; have HO227 := n4_; clear n0_ n1_ n2_ n3_ n4_; clear ho hb hg hat; have p228 : 0 ≤ (x6_1 : Int) := of_decide_eq_true (by first | (with_reducible assumption) | assumption); have q228 : x6_1 < (l0.length : Int) := of_decide_eq_true (by first | (with_reducible assumption) | assumption); obtain ⟨ad228, A228_0, c228_0, e228, hx228_0, hl228_0, hi228_0⟩ := at_L3 (Kd.V_reads' HO_0.out).2.2 x6_1 p228 q228; cases e228; obtain ⟨ce228, hce228, hMe228, hcc228⟩ := Kd.V_get HO_0.out [] x6_1 p228 (by first | exact q228 | exact of_decide_eq_true (by first | (with_reducible assumption) | assumption) | (have e_ := (Kd.V_reads' HO_0.out).1; omega)); obtain ⟨ua228_0, uc228_0, rfl, ul228_0, ge228_0⟩ := Kd.FK_slice_open hMe228; have hv228_0 := hcc228 0 _ rfl; rw [Nat.add_zero, show ((Kd.slice 28 k28)).sz = 1 from rfl, Nat.mul_one] at hv228_0; replace hv228_0 := Option.some.inj (hv228_0.symm.trans hx228_0); injection hv228_0 with hva_ hvn_ hvc_; rw [hva_] at ge228_0; rw [hvc_] at ul228_0; have HL228_0 := Aside0.mk (show Kd.V k28 28 _ w.heap.size _ _ (rd_L3 l0 x6_1) from Kd.V_mk ul228_0 ge228_0); clear hva_ hvn_ hvc_ ge228_0 ul228_0; clear hcc228 hce228; have HR228_0 := Aside0.mk hi228_0; have HC228_0 := Aside0.mk hl228_0; clear hi228_0 hl228_0; replace p228 := eq_true p228; replace q228 := eq_true q228) | ((with_reducible refine gate_builtin (b := .append) (xs := #[.tmp 40, .tmp 45]) rfl ?_); at_builtin; refine Kd.N_append (Kd.slice 28 k28) (w0 := w) w.heap.size rfl (.tmp 40) (.tmp 45) 22 26 (.slice none 0 0) 24 rfl Try.underlying22 info26 rfl (by decide) (by omega) v226 y225 (rd_L3 l0 x6_1) [.slice A228_0 (rd_L3 l0 x6_1).length c228_0] (fun k_ => (P0_ k_ ∨ w.heap.size ≤ k_)) (fun k_ => ((fun k_ => (P0_ k_ ∨ w.heap.size ≤ k_))) k_ ∧ some k_ ≠ (v226 : Value).ownBlock) rfl rfl ?aP (fun _ hk => hk) ?aF ?aO ?aB ?aS ?aL ?_; (case aP => exact (Kd.FK_slice_mk (Kd.V_reads' (Kd.V_mono (ok' := (fun k_ => ((fun k_ => (P0_ k_ ∨ w.heap.size ≤ k_))) k_ ∧ some k_ ≠ (v226 : Value).ownBlock)) (HL228_0.out) (fun k_ hk => ⟨hk.1.1, hk.2⟩))).2.1 (Kd.V_F (Kd.V_mono (ok' := (fun k_ => ((fun k_ => (P0_ k_ ∨ w.heap.size ≤ k_))) k_ ∧ some k_ ≠ (v226 : Value).ownBlock)) (HL228_0.out) (fun k_ hk => ⟨hk.1.1, hk.2⟩))))); (case aB => exact (by repeat (first | (with_reducible first | exact HB.out | apply below_alloc | apply pw_below_drewN | apply below_drew1) | exact HB.out))); (case aF => exact (fun k_ hk => (.inr (Nat.le_trans (below_size (by repeat (first | (with_reducible first | exact HB.out | apply below_alloc | apply pw_below_drewN | apply below_drew1) | exact HB.out))) hk)))); (case aO => exact (by (with_reducible repeat (first | apply Kd.N_alloc | apply Kd.N_drewN | apply Kd.N_drew)); exact HO227.out)); (case aS => exact (below_size (by repeat (first | (with_reducible first | exact HB.out | apply below_alloc | apply pw_below_drewN | apply below_drew1) | exact HB.out)))); (case aL => have := LMc36.out; omega); intro v230 w45 ho hb hg hat; rw [← Ny229.out] at ho; have n0_ := Aside0.mk (Kd.V_afterv (ok := (fun k_ => (P0_ k_ ∨ w.heap.size ≤ k_) ∧ some k_ ≠ (.slice Ao4 x5_1.length co4 : Value).ownBlock)) (by (with_reducible repeat (first | apply Kd.V_alloc | apply Kd.V_drewN | apply Kd.V_drew)); exact HO_0.out) hg hat); have n1_ := Aside0.mk (Kd.N_afterv (ok := (fun k_ => (P0_ k_ ∨ w.heap.size ≤ k_))) (by (with_reducible repeat (first | apply Kd.N_alloc | apply Kd.N_drewN | apply Kd.N_drew)); exact HO_5.out) hg hat); have n2_ := Aside0.mk (Kd.V_afterv (ok := (fun k_ => (P0_ k_ ∨ w.heap.size ≤ k_))) (by (with_reducible repeat (first | apply Kd.V_alloc | apply Kd.V_drewN | apply Kd.V_drew)); exact HO224.out) hg hat); have n3_ := Aside0.mk (Kd.V_afterv (ok := (fun k_ => (P0_ k_ ∨ w.heap.size ≤ k_) ∧ some k_ ≠ (.slice Ao4 x5_1.length co4 : Value).ownBlock)) (by (with_reducible repeat (first | apply Kd.V_alloc | apply Kd.V_drewN | apply Kd.V_drew)); exact HL228_0.out) hg hat); have n4_ := Aside0.mk (hb); have n5_ := Aside0.mk (ho); clear HO_0; clear HO_5; clear HO224; clear HL228_0; clear HB; clear HO227; have HO_0 := n0_; have HO_5 := n1_; have HO224 := n2_; have HL228_0 := n3_; have HB := n4_; have HO231 := n5_; clear n0_ n1_ n2_ n3_ n4_ n5_; clear ho hb hg hat; have q46 : (x7_2 : Int) ≤ ((x5_1.length : Int) : Int) := of_decide_eq_true (by first | (with_reducible assumption) | assumption); obtain ⟨i046, hi046, _, hsz46, _⟩ := info_parts info26; have hroom46 : x5_1.length ≤ co4 := (Kd.N_reads' HO_5.out).2.1; have hC46 : Kd.F (Kd.slice 28 k28) _ _ Ao4 x5_1.length x5_1 := (Kd.V_at (base := w.heap.size) (Kd.N_V HO_5.out)).2.2; have q046 : (0 : Int) ≤ (x7_2 : Int) := of_decide_eq_true (by first | (with_reducible assumption) | assumption); have hcut46 := cut_from (P := Try.prog) 22 26 .i64 Try.underlying22 hi046 1 hsz46 Ao4 x5_1.length co4 x7_2 q046 q46; have hr46 := Kd.F_cut (m := (x7_2 : Int).toNat) (c := co4) hC46 (by omega) hroom46; obtain ⟨A46, hA46⟩ : ∃ A1, A1 = (if co4 = (x7_2 : Int).toNat then Ao4 else (Ao4 : Option Addr).map (·.add ((x7_2 : Int).toNat * 1))) := ⟨_, rfl⟩; obtain ⟨c46, hc46⟩ : ∃ c1, c1 = co4 - (x7_2 : Int).toNat := ⟨_, rfl⟩; have hy46 : y232.length = x5_1.length - (x7_2 : Int).toNat := (by rw [Ny232.out, List.length_drop] <;> omega); rw [show (x5_1).drop (x7_2 : Int).toNat = y232 from Ny232.out.symm] at hr46; replace hr46 : Kd.F (Kd.slice 28 k28) _ _ A46 y232.length y232 := (by rw [hA46]; exact hr46); rw [← hy46, ← hA46, ← hc46] at hcut46; have HO236 := Aside0.mk (show Kd.V (Kd.slice 28 k28) 26 _ w.heap.size _ (.slice A46 y232.length c46) y232 from Kd.V_mk (by rw [hy46, hc46]; exact Nat.sub_le_sub_right hroom46 _) hr46); have HC236 := Aside0.mk (show y232.length ≤ c46 from by rw [hy46, hc46]; exact Nat.sub_le_sub_right hroom46 _); clear hr46 hC46 hroom46 hi046 hsz46 hc46; have KY46 := Aside0.mk hy46; have KA46 := Aside0.mk hA46; clear hy46 hA46; replace q46 := eq_true q46) | ((with_reducible refine gate_builtin (b := .append) (xs := #[.tmp 47, .tmp 50]) rfl ?_); at_builtin; refine Kd.N_append_rows (Kd.slice 28 k28) (w0 := w) w.heap.size rfl (.tmp 47) (.tmp 50) 22 26 (.slice none 0 0) 24 rfl Try.underlying22 info26 rfl (by decide) (by omega) v230 y229 y232 _ _ _ (fun k_ => (P0_ k_ ∨ w.heap.size ≤ k_)) (fun k_ => ((fun k_ => (P0_ k_ ∨ w.heap.size ≤ k_))) k_ ∧ some k_ ≠ (v230 : Value).ownBlock) rfl rfl ?aO ?aR (fun _ hk => hk) ?aF ?aB ?aS ?aL ?_; (case aR => exact (by skip; exact Kd.V_F (Kd.V_mono (ok' := (fun k_ => ((fun k_ => (P0_ k_ ∨ w.heap.size ≤ k_))) k_ ∧ some k_ ≠ (v230 : Value).ownBlock)) (HO236.out) (fun k_ hk => ⟨hk.1, hk.2⟩)))); (case aB => exact (by repeat (first | (with_reducible first | exact HB.out | apply below_alloc | apply pw_below_drewN | apply below_drew1) | exact HB.out))); (case aF => exact (fun k_ hk => (.inr (Nat.le_trans (below_size (by repeat (first | (with_reducible first | exact HB.out | apply below_alloc | apply pw_below_drewN | apply below_drew1) | exact HB.out))) hk)))); (case aO => exact (by (with_reducible repeat (first | apply Kd.N_alloc | apply Kd.N_drewN | apply Kd.N_drew)); exact HO231.out)); (case aS => exact (below_size (by repeat (first | (with_reducible first | exact HB.out | apply below_alloc | apply pw_below_drewN | apply below_drew1) | exact HB.out)))); (case aL => have := LMc39.out; omega); intro v238 w47 ho hb hg hat; rw [← Ny237.out] at ho; have n0_ := Aside0.mk (Kd.V_afterv (ok := (fun k_ => (P0_ k_ ∨ w.heap.size ≤ k_) ∧ some k_ ≠ (.slice Ao4 x5_1.length co4 : Value).ownBlock)) (by (with_reducible repeat (first | apply Kd.V_alloc | apply Kd.V_drewN | apply Kd.V_drew)); exact HO_0.out) hg hat); have n1_ := Aside0.mk (Kd.N_afterv (ok := (fun k_ => (P0_ k_ ∨ w.heap.size ≤ k_))) (by (with_reducible repeat (first | apply Kd.N_alloc | apply Kd.N_drewN | apply Kd.N_drew)); exact HO_5.out) hg hat); have n2_ := Aside0.mk (Kd.V_afterv (ok := (fun k_ => (P0_ k_ ∨ w.heap.size ≤ k_))) (by (with_reducible repeat (first | apply Kd.V_alloc | apply Kd.V_drewN | apply Kd.V_drew)); exact HO224.out) hg hat); have n3_ := Aside0.mk (Kd.V_afterv (ok := (fun k_ => (P0_ k_ ∨ w.heap.size ≤ k_) ∧ some k_ ≠ (.slice Ao4 x5_1.length co4 : Value).ownBlock)) (by (with_reducible repeat (first | apply Kd.V_alloc | apply Kd.V_drewN | apply Kd.V_drew)); exact HL228_0.out) hg hat); have n4_ := Aside0.mk (Kd.V_afterv (ok := (fun k_ => (P0_ k_ ∨ w.heap.size ≤ k_))) (by (with_reducible repeat (first | apply Kd.V_alloc | apply Kd.V_drewN | apply Kd.V_drew)); exact HO236.out) hg hat); have n5_ := Aside0.mk (hb); have n6_ := Aside0.mk (ho); clear HO_0; clear HO_5; clear HO224; clear HL228_0; clear HO236; clear HB; clear HO231; have HO_0 := n0_; have HO_5 := n1_; have HO224 := n2_; have HL228_0 := n3_; have HO236 := n4_; have HB := n5_; have HO239 := n6_; clear n0_ n1_ n2_ n3_ n4_ n5_ n6_; clear ho hb hg hat))
                            go_roundg k2
                            case measure => have := HK1.out; have := HK2.out; omega
                            case rel => exact ⟨(y237), (wrap64 (x6_1 + 1)), (by first | rfl | (simp; done) | (simp [*]; done)), H', ⟨by have := HK1.out; have := HK2.out; omega⟩, ⟨by (with_reducible repeat (first | apply Kd.V_alloc | apply Kd.V_drewN | apply Kd.V_drew)); exact Kd.V_mono HO_0.out (fun _ hk => ⟨hk.1.1, hk.2⟩)⟩, ⟨by (with_reducible repeat (first | apply Kd.N_alloc | apply Kd.N_drewN | apply Kd.N_drew)); exact HO239.out⟩, ⟨by repeat (first | (with_reducible first | exact HB.out | apply below_alloc | apply pw_below_drewN | apply below_drew1) | exact HB.out)⟩⟩
                          · rw [if_neg c39] at H
                            exact absurd H (by simp)
                        · rw [if_neg c36] at H
                          exact absurd H (by simp)
                      · rw [if_neg c35] at H
                        exact absurd H (by simp)
                    · rw [if_neg c34] at H
                      exact absurd H (by simp)
                  · rw [if_neg c33] at H
                    exact absurd H (by simp)
                · rw [if_neg c32] at H
                  exact absurd H (by simp)
              · rw [if_neg c31] at H
                exact absurd H (by simp)
      · rw [if_neg c3] at H
        have c3b0 : decide (x6_1 < (l0.length : Int)) = false := decide_eq_false c3
        (try (have c3b0q_hl191_0 := c3b0; rw [hl191_0] at c3b0q_hl191_0))
        (try (have c3b0q_hl192_0 := c3b0; rw [hl192_0] at c3b0q_hl192_0))
        (try (have c3b0q_hl205_0 := c3b0; rw [hl205_0] at c3b0q_hl205_0))
        (try (have c3b0q_hl228_0 := c3b0; rw [hl228_0] at c3b0q_hl228_0))
        clear c3
        obtain rfl := Option.some.inj H
        go_wp2
        go_ret
        exact ⟨_, by first | rfl | (simp [errW_none, errW_some] <;> rfl) | (simp [*, errW_none, errW_some] <;> rfl), by (with_reducible repeat (first | apply Kd.N_alloc | apply Kd.N_drewN | apply Kd.N_drew)); exact HO_5.out, by repeat (first | (with_reducible first | exact HB.out | apply below_alloc | apply pw_below_drewN | apply below_drew1) | exact HB.out)⟩

end Go.Proofs.Ythpoeljnmdjjiaa.PSrn
