-- Written by this session's program wip/gprint/gprint.py, over the kit's print, with given functions; no text of print.sh's.
import Derived.Test.YtknkoeahcemmmaaPCrbx0
import Derived.Test.YtknkoeahcemmmaaPCrbx2
import Derived.Test.YtknkoeahcemmmaaPCrbx3
namespace Go.Proofs.Ytknkoeahcemmmaa.PCrb
open Go.RowKit Go.Proofs.YtknkoeahcemmmaaW.PrintWords Go.Proofs.YtknkoeahcemmmaaW.PrintLast Go.Proofs.YtknkoeahcemmmaaW.PrintMore
attribute [local go_sem] max2_int min2_int max_two min_two max_three min_three max_four min_four   -- for this text's walks alone
set_option linter.unusedVariables false
set_option linter.unusedSimpArgs false

/-! ### ref03_Open: function 17 -/
def ref03_Open.j0 : Nat → List Int → Int → Int → Bool → Option (List Int × List Int × Int)
  | 0, _, _, _, _ => none
  | k + 1, x0, x7, x8, x28 => if x28 = true then (some (([] : List Int), ([] : List Int), 2)) else (if (IntKind.u64.wrap (wrap64 ((x0.length : Int) - x8))) < (IntKind.u64.wrap (x7 + 4)) then (some (([] : List Int), ([] : List Int), 3)) else (if 0 ≤ x8 then (if x8 ≤ (wrap64 (x8 + (wrap64 (x7)))) then (if (wrap64 (x8 + (wrap64 (x7)))) ≤ (x0.length : Int) then ((some ((x0.take ((wrap64 (x8 + (wrap64 (x7)))) : Int).toNat).drop (x8 : Int).toNat : List Int)).bind fun y131 => ((ref03_Block.f k y131).bind fun t136 => (if 0 ≤ (t136.length : Int) then (if (t136.length : Int) ≤ (x0.length : Int) then (if (strOfNums t136).toList = (strOfNums (x0.take ((t136.length : Int) : Int).toNat)).toList then (some (y131, (x0.drop ((t136.length : Int) : Int).toNat), 0)) else (some (([] : List Int), ([] : List Int), 5))) else (none)) else (none)))) else (none)) else (none)) else (none)))
def ref03_Open.f (k : Nat) (l0 : List Int) (a1 : Int) : Option (List Int × List Int × Int) := (ref02_Get.f k l0).bind fun bt128 => (if bt128.2.2 = 0 then (if a1 < 0 then (ref03_Open.j0 k l0 bt128.1 bt128.2.1 true) else (ref03_Open.j0 k l0 bt128.1 bt128.2.1 (decide (bt128.1 > (IntKind.u64.wrap (a1)))))) else (some (([] : List Int), ([] : List Int), bt128.2.2)))
theorem ref03_Open.mono_l : ∀ k, (∀ y0 y1 y2 y3, LeO (ref03_Open.j0 k y0 y1 y2 y3) (ref03_Open.j0 (k + 1) y0 y1 y2 y3))
  | 0 => fun _ _ _ _ r h => by simp [ref03_Open.j0] at h
  | k + 1 => by
    have ih0 := ref03_Open.mono_l k
    · intro y0 y1 y2 y3
      unfold ref03_Open.j0
      repeat' first
      | (with_reducible exact ih0 _ _ _ _)
      | (with_reducible exact ref02_Get.mono _ _)
      | (with_reducible exact ref03_Block.mono _ _)
      | (with_reducible exact LeO.refl _)
      | (with_reducible exact LeO.none _)
      | (with_reducible refine LeO.ite ?_ ?_)
      | (with_reducible refine LeO.bind ?_ (fun _ => ?_))
      | exact ih0 _ _ _ _
      | exact ref02_Get.mono _ _
      | exact ref03_Block.mono _ _
      | exact LeO.none _
      | refine LeO.ite ?_ ?_
      | refine LeO.bind ?_ (fun _ => ?_)
theorem ref03_Open.mono : ∀ a0 a1 k, LeO (ref03_Open.f k a0 a1) (ref03_Open.f (k + 1) a0 a1) := by
  intro a0 a1 k
  have ih0 := ref03_Open.mono_l k
  unfold ref03_Open.f
  repeat' first
      | (with_reducible exact ih0 _ _ _ _)
      | (with_reducible exact ref02_Get.mono _ _)
      | (with_reducible exact ref03_Block.mono _ _)
      | (with_reducible exact LeO.refl _)
      | (with_reducible exact LeO.none _)
      | (with_reducible refine LeO.ite ?_ ?_)
      | (with_reducible refine LeO.bind ?_ (fun _ => ?_))
      | exact ih0 _ _ _ _
      | exact ref02_Get.mono _ _
      | exact ref03_Block.mono _ _
      | exact LeO.none _
      | refine LeO.ite ?_ ?_
      | refine LeO.bind ?_ (fun _ => ?_)
set_option maxHeartbeats 8000000 in
set_option maxRecDepth 100000 in
theorem ref03_Open.calls (k : Nat) (P0_ : Nat → Prop) (A0 : Option Addr) (c0 : Nat) (l0 : List Int) (a1 : Int) (r1 : List Int) (r2 : List Int) (r3 : Int) (w : World) (hs0 : Kd.V (Kd.int .u8) 5 w w.heap.size (fun k_ => P0_ k_) (.slice A0 l0.length c0) l0) (h : ref03_Open.f k l0 a1 = some (r1, r2, r3)) :
    Calls Try.prog 17 #[.slice A0 l0.length c0, .int .i64 a1] w fun e w' => ∃ v0_ v1_ : Value, e = .returned (.tuple #[v0_, v1_, .int .i64 r3]) ∧ Kd.V (Kd.int .u8) 5 w' w.heap.size (fun k_ => (P0_ k_ ∨ w.heap.size ≤ k_)) v0_ r1 ∧ Kd.V (Kd.int .u8) 5 w' w.heap.size (fun k_ => (P0_ k_ ∨ w.heap.size ≤ k_)) v1_ r2 ∧ Below w.heap.size w w' := by
  have HO0 := Aside0.mk (show Kd.V (Kd.int .u8) 5 w w.heap.size (fun k_ => (P0_ k_ ∨ w.heap.size ≤ k_)) (.slice A0 l0.length c0) l0 from Kd.V_mono hs0 (fun k_ hk => .inl hk))
  have HB := Aside0.mk (Below.refl w.heap.size w)
  have H : ((ref02_Get.f k l0).bind fun bt128 => (if bt128.2.2 = 0 then (if a1 < 0 then (ref03_Open.j0 k l0 bt128.1 bt128.2.1 true) else (ref03_Open.j0 k l0 bt128.1 bt128.2.1 (decide (bt128.1 > (IntKind.u64.wrap (a1)))))) else (some (([] : List Int), ([] : List Int), bt128.2.2)))) = some (r1, r2, r3) := h
  clear h
  replace H := Option.bind_eq_some_iff.mp H
  obtain ⟨⟨t128, t129, t130⟩, A30, H⟩ := H
  replace H : (if t130 = 0 then (if a1 < 0 then (ref03_Open.j0 k l0 t128 t129 true) else (ref03_Open.j0 k l0 t128 t129 (decide (t128 > (IntKind.u64.wrap (a1)))))) else (some (([] : List Int), ([] : List Int), t130))) = some (r1, r2, r3) := H
  have A3 := Aside0.mk A30
  clear A30
  by_cases c4 : t130 = 0
  · rw [if_pos c4] at H
    have c4b0 : (t130 == 0) = true := beq_iff_eq.mpr c4
    have c4b1 : (t130 != 0) = false := bne_eq_false_iff_eq.mpr c4
    clear c4
    have HC5 := Aside0.mk H
    clear H
    go_enter Try.func17, Try.ntmps17
    go_upto_region 4 with (first | (go_at_call 23; (with_reducible refine (ref02_Get.calls k _ _ l0 t128 t129 t130 _ ?side1 ?side2 A3.out).mono ?_); (case side1 => repeat (first | exact (Kd.V_reads' HO0.out).2.2 | (with_reducible refine Kd.C_alloc ?_ _) | (with_reducible refine Kd.C_drewN ?_ _) | (with_reducible refine Kd.C_drew ?_))); (case side2 => exact (Kd.V_reads' HO0.out).2.1); rintro e w' ⟨rfl, ⟨nd, rfl⟩⟩; (try first | exact ⟨rfl, _, World.drewN_drewN _ _ _⟩ | exact ⟨rfl, _, Eq.trans (World.drewN_drewN _ _ _) (congrArg (World.drewN _) (Nat.add_assoc _ _ _))⟩)))
    repeat (go_quiet (first | (go_at_call 23; (with_reducible refine (ref02_Get.calls k _ _ l0 t128 t129 t130 _ ?side1 ?side2 A3.out).mono ?_); (case side1 => repeat (first | exact (Kd.V_reads' HO0.out).2.2 | (with_reducible refine Kd.C_alloc ?_ _) | (with_reducible refine Kd.C_drewN ?_ _) | (with_reducible refine Kd.C_drew ?_))); (case side2 => exact (Kd.V_reads' HO0.out).2.1); rintro e w' ⟨rfl, ⟨nd, rfl⟩⟩; (try first | exact ⟨rfl, _, World.drewN_drewN _ _ _⟩ | exact ⟨rfl, _, Eq.trans (World.drewN_drewN _ _ _) (congrArg (World.drewN _) (Nat.add_assoc _ _ _))⟩))); go_upto_region 4 with (first | (go_at_call 23; (with_reducible refine (ref02_Get.calls k _ _ l0 t128 t129 t130 _ ?side1 ?side2 A3.out).mono ?_); (case side1 => repeat (first | exact (Kd.V_reads' HO0.out).2.2 | (with_reducible refine Kd.C_alloc ?_ _) | (with_reducible refine Kd.C_drewN ?_ _) | (with_reducible refine Kd.C_drew ?_))); (case side2 => exact (Kd.V_reads' HO0.out).2.1); rintro e w' ⟨rfl, ⟨nd, rfl⟩⟩; (try first | exact ⟨rfl, _, World.drewN_drewN _ _ _⟩ | exact ⟨rfl, _, Eq.trans (World.drewN_drewN _ _ _) (congrArg (World.drewN _) (Nat.add_assoc _ _ _))⟩))))
    (try simp only [Act.put, List.setIfInBounds_toArray, List.set_cons_zero, List.set_cons_succ])
    go_cut [28] (fun v28 wc => ∃ (kq : Nat) (x28_4 : Bool), v28 = .bool x28_4 ∧ Aside0 (ref03_Open.j0 kq l0 t128 t129 x28_4 = some (r1, r2, r3)) ∧ Aside0 (kq ≤ k) ∧ Aside0 (Kd.V (Kd.int .u8) 5 wc w.heap.size (fun k_ => (P0_ k_ ∨ w.heap.size ≤ k_)) (.slice A0 l0.length c0) l0) ∧ Aside0 (Below w.heap.size w wc))
    case first =>
      have H := HC5.out
      clear HC5
      by_cases c6 : a1 < 0
      · rw [if_pos c6] at H
        have c6b0 : decide (a1 < 0) = true := decide_eq_true c6
        clear c6
        (first | rw [c6b0] | (simp only [i64_w, i32_w]; rw [c6b0]) | skip)
        have H' := Aside0.mk H
        clear H
        go_wp2
        repeat (first | (go_quiet (fail); try go_wp2) | (go_region; try go_wp2))
        go_meet
        case rel => exact ⟨_, (true), (by first | rfl | (simp; done) | (simp [*]; done)), H', ⟨by first | omega | exact Nat.le_refl _⟩, ⟨by (with_reducible repeat (first | apply Kd.V_alloc | apply Kd.V_drewN | apply Kd.V_drew)); exact HO0.out⟩, ⟨by repeat (first | (with_reducible first | exact HB.out | apply below_alloc | apply pw_below_drewN | apply below_drew1) | exact HB.out)⟩⟩
      · rw [if_neg c6] at H
        have c6b0 : decide (a1 < 0) = false := decide_eq_false c6
        clear c6
        (first | rw [c6b0] | (simp only [i64_w, i32_w]; rw [c6b0]) | skip)
        have H' := Aside0.mk H
        clear H
        go_wp2
        repeat (first | (go_quiet (fail); try go_wp2) | (go_region; try go_wp2))
        go_meet
        case rel => exact ⟨_, (decide (t128 > (IntKind.u64.wrap (a1)))), (by first | rfl | (simp; done) | (simp [*]; done)), H', ⟨by first | omega | exact Nat.le_refl _⟩, ⟨by (with_reducible repeat (first | apply Kd.V_alloc | apply Kd.V_drewN | apply Kd.V_drew)); exact HO0.out⟩, ⟨by repeat (first | (with_reducible first | exact HB.out | apply below_alloc | apply pw_below_drewN | apply below_drew1) | exact HB.out)⟩⟩
    case rest =>
      clear HC5
      try clear c1
      try clear p2
      try clear c4
      try clear c4b0
      try clear c4b1
      try clear c6
      try clear c6b0
      obtain ⟨kq, x28_4, rfl, HA, HJ4, HO_0, HB⟩ := hcut
      cases kq with
      | zero => exact absurd HA.out (by simp [ref03_Open.j0])
      | succ kj4 =>
        have H := HA.out
        clear HA
        simp only [ref03_Open.j0] at H
        by_cases c7 : x28_4 = true
        · subst c7
          have H1 : (some (([] : List Int), ([] : List Int), 2)) = some (r1, r2, r3) := by rw [if_pos rfl] at H; exact H
          clear H
          have H := H1
          clear H1
          simp only [Option.some.injEq, Prod.mk.injEq] at H
          obtain ⟨rfl, rfl, rfl⟩ := H
          go_wp2
          repeat (first | (go_quiet (fail); try go_wp2) | (go_region; try go_wp2))
          go_ret3
          exact ⟨_, _, by first | rfl | (simp [errW_none, errW_some] <;> rfl) | (simp [*, errW_none, errW_some] <;> rfl), (Kd.V_nil _ _ _ _ _), (Kd.V_nil _ _ _ _ _), by repeat (first | (with_reducible first | exact HB.out | apply below_alloc | apply pw_below_drewN | apply below_drew1) | exact HB.out)⟩
        · replace c7 := Bool.eq_false_iff.mpr c7
          subst c7
          have H1 : (if (IntKind.u64.wrap (wrap64 ((l0.length : Int) - t129))) < (IntKind.u64.wrap (t128 + 4)) then (some (([] : List Int), ([] : List Int), 3)) else (if 0 ≤ t129 then (if t129 ≤ (wrap64 (t129 + (wrap64 (t128)))) then (if (wrap64 (t129 + (wrap64 (t128)))) ≤ (l0.length : Int) then ((some ((l0.take ((wrap64 (t129 + (wrap64 (t128)))) : Int).toNat).drop (t129 : Int).toNat : List Int)).bind fun y131 => ((ref03_Block.f kj4 y131).bind fun t136 => (if 0 ≤ (t136.length : Int) then (if (t136.length : Int) ≤ (l0.length : Int) then (if (strOfNums t136).toList = (strOfNums (l0.take ((t136.length : Int) : Int).toNat)).toList then (some (y131, (l0.drop ((t136.length : Int) : Int).toNat), 0)) else (some (([] : List Int), ([] : List Int), 5))) else (none)) else (none)))) else (none)) else (none)) else (none))) = some (r1, r2, r3) := by rw [if_neg (show ¬ (false = true) by decide)] at H; exact H
          clear H
          have H := H1
          clear H1
          by_cases c8 : (IntKind.u64.wrap (wrap64 ((l0.length : Int) - t129))) < (IntKind.u64.wrap (t128 + 4))
          · rw [if_pos c8] at H
            have c8b0 : decide ((IntKind.u64.wrap (wrap64 ((l0.length : Int) - t129))) < (IntKind.u64.wrap (t128 + 4))) = true := decide_eq_true c8
            clear c8
            simp only [Option.some.injEq, Prod.mk.injEq] at H
            obtain ⟨rfl, rfl, rfl⟩ := H
            go_wp2
            repeat (first | (go_quiet (fail); try go_wp2) | (go_region; try go_wp2))
            go_ret3
            exact ⟨_, _, by first | rfl | (simp [errW_none, errW_some] <;> rfl) | (simp [*, errW_none, errW_some] <;> rfl), (Kd.V_nil _ _ _ _ _), (Kd.V_nil _ _ _ _ _), by repeat (first | (with_reducible first | exact HB.out | apply below_alloc | apply pw_below_drewN | apply below_drew1) | exact HB.out)⟩
          · rw [if_neg c8] at H
            have c8b0 : decide ((IntKind.u64.wrap (wrap64 ((l0.length : Int) - t129))) < (IntKind.u64.wrap (t128 + 4))) = false := decide_eq_false c8
            clear c8
            by_cases c9 : 0 ≤ t129
            · rw [if_pos c9] at H
              have c9b0 := eq_true c9
              have c9b1 : decide (0 ≤ t129) = true := decide_eq_true c9
              clear c9
              by_cases c10 : t129 ≤ (wrap64 (t129 + (wrap64 (t128))))
              · rw [if_pos c10] at H
                have c10b0 := eq_true c10
                have c10b1 : decide (t129 ≤ (wrap64 (t129 + (wrap64 (t128))))) = true := decide_eq_true c10
                by_cases c11 : (wrap64 (t129 + (wrap64 (t128)))) ≤ (l0.length : Int)
                · rw [if_pos c11] at H
                  have c11b0 := eq_true c11
                  have c11b1 : decide ((wrap64 (t129 + (wrap64 (t128)))) ≤ (l0.length : Int)) = true := decide_eq_true c11
                  obtain ⟨y131, hy131⟩ : ∃ y_ : List Int, y_ = ((l0.take ((wrap64 (t129 + (wrap64 (t128)))) : Int).toNat).drop (t129 : Int).toNat) := ⟨_, rfl⟩
                  replace H : ((ref03_Block.f kj4 y131).bind fun t136 => (if 0 ≤ (t136.length : Int) then (if (t136.length : Int) ≤ (l0.length : Int) then (if (strOfNums t136).toList = (strOfNums (l0.take ((t136.length : Int) : Int).toNat)).toList then (some (y131, (l0.drop ((t136.length : Int) : Int).toNat), 0)) else (some (([] : List Int), ([] : List Int), 5))) else (none)) else (none))) = some (r1, r2, r3) := by first | (rw [hy131]; with_reducible exact H) | (have H2_ := (Option.bind_some _ _).symm.trans H; rw [hy131]; with_reducible exact H2_) | (have H2_ := (Option.bind_some _ _).symm.trans H; with_reducible exact H2_) | with_reducible exact H | (rw [hy131]; exact H) | exact H
                  have Ny131 := Aside0.mk hy131
                  clear hy131
                  replace H := Option.bind_eq_some_iff.mp H
                  obtain ⟨t136, A120, H⟩ := H
                  replace H : (if 0 ≤ (t136.length : Int) then (if (t136.length : Int) ≤ (l0.length : Int) then (if (strOfNums t136).toList = (strOfNums (l0.take ((t136.length : Int) : Int).toNat)).toList then (some (y131, (l0.drop ((t136.length : Int) : Int).toNat), 0)) else (some (([] : List Int), ([] : List Int), 5))) else (none)) else (none)) = some (r1, r2, r3) := H
                  have A12 := Aside0.mk A120
                  clear A120
                  by_cases c13 : 0 ≤ (t136.length : Int)
                  · rw [if_pos c13] at H
                    have c13b0 := eq_true c13
                    have c13b1 : decide (0 ≤ (t136.length : Int)) = true := decide_eq_true c13
                    clear c13
                    by_cases c14 : (t136.length : Int) ≤ (l0.length : Int)
                    · rw [if_pos c14] at H
                      have c14b0 := eq_true c14
                      have c14b1 : decide ((t136.length : Int) ≤ (l0.length : Int)) = true := decide_eq_true c14
                      clear c14
                      obtain ⟨y139, hy139⟩ : ∃ y_ : List Int, y_ = (l0.take ((t136.length : Int) : Int).toNat) := ⟨_, rfl⟩
                      replace H : (if (strOfNums t136).toList = (strOfNums y139).toList then (some (y131, (l0.drop ((t136.length : Int) : Int).toNat), 0)) else (some (([] : List Int), ([] : List Int), 5))) = some (r1, r2, r3) := by first | (rw [hy139]; with_reducible exact H) | (have H2_ := (Option.bind_some _ _).symm.trans H; rw [hy139]; with_reducible exact H2_) | (have H2_ := (Option.bind_some _ _).symm.trans H; with_reducible exact H2_) | with_reducible exact H | (rw [hy139]; exact H) | exact H
                      have Ny139 := Aside0.mk hy139
                      clear hy139
                      by_cases c15 : (strOfNums t136).toList = (strOfNums y139).toList
                      · rw [if_pos c15] at H
                        have c15b0 : ((strOfNums t136).toList == (strOfNums y139).toList) = true := beq_iff_eq.mpr c15
                        have c15b1 : ((strOfNums t136).toList != (strOfNums y139).toList) = false := bne_eq_false_iff_eq.mpr c15
                        clear c15
                        have c16b0 := eq_true (of_decide_eq_true (by first | (with_reducible assumption) | assumption) : 0 ≤ (t136.length : Int))
                        have c17b0 := eq_true (of_decide_eq_true (by first | (with_reducible assumption) | assumption) : (t136.length : Int) ≤ (l0.length : Int))
                        obtain ⟨y144, hy144⟩ : ∃ y_ : List Int, y_ = (l0.drop ((t136.length : Int) : Int).toNat) := ⟨_, rfl⟩
                        replace H : (some (y131, y144, 0)) = some (r1, r2, r3) := by first | (rw [hy144]; with_reducible exact H) | (have H2_ := (Option.bind_some _ _).symm.trans H; rw [hy144]; with_reducible exact H2_) | (have H2_ := (Option.bind_some _ _).symm.trans H; with_reducible exact H2_) | with_reducible exact H | (rw [hy144]; exact H) | exact H
                        have Ny144 := Aside0.mk hy144
                        clear hy144
                        simp only [Option.some.injEq, Prod.mk.injEq] at H
                        obtain ⟨rfl, rfl, rfl⟩ := H
                        have q18 : ((wrap64 (t129 + (wrap64 (t128)))) : Int) ≤ ((l0.length : Int) : Int) := of_decide_eq_true (by first | (with_reducible assumption) | assumption)
                        obtain ⟨i018, hi018, _, hsz18, _⟩ := info_parts info5
                        have hroom18 : l0.length ≤ c0 := (Kd.V_reads' HO_0.out).2.1
                        have hC18 : Kd.F (Kd.int .u8) _ _ A0 l0.length l0 := (Kd.V_at (base := w.heap.size) HO_0.out).2.2
                        have ql18 : (t129 : Int) ≤ ((wrap64 (t129 + (wrap64 (t128)))) : Int) := of_decide_eq_true (by first | (with_reducible assumption) | assumption)
                        have q018 : (0 : Int) ≤ (t129 : Int) := of_decide_eq_true (by first | (with_reducible assumption) | assumption)
                        have hcut18 := cut_mid (P := Try.prog) 22 5 .i64 .i64 Try.underlying22 hi018 1 hsz18 A0 l0.length c0 t129 (wrap64 (t129 + (wrap64 (t128)))) q018 ql18 q18 hroom18
                        have hr18 := Kd.F_mid (lo := (t129 : Int).toNat) (hi := ((wrap64 (t129 + (wrap64 (t128)))) : Int).toNat) (c := c0) hC18 (by omega) (by omega) hroom18
                        obtain ⟨A18, hA18⟩ : ∃ A1, A1 = (if c0 = (t129 : Int).toNat then A0 else (A0 : Option Addr).map (·.add ((t129 : Int).toNat * 1))) := ⟨_, rfl⟩
                        obtain ⟨c18, hc18⟩ : ∃ c1, c1 = c0 - (t129 : Int).toNat := ⟨_, rfl⟩
                        have hy18 : y131.length = ((wrap64 (t129 + (wrap64 (t128)))) : Int).toNat - (t129 : Int).toNat := (by rw [Ny131.out, List.length_drop, List.length_take] <;> omega)
                        rw [show ((l0).take ((wrap64 (t129 + (wrap64 (t128)))) : Int).toNat).drop (t129 : Int).toNat = y131 from Ny131.out.symm] at hr18
                        replace hr18 : Kd.F (Kd.int .u8) _ _ A18 y131.length y131 := (by rw [hA18]; exact hr18)
                        rw [← hy18, ← hA18, ← hc18] at hcut18
                        have HO135 := Aside0.mk (show Kd.V (Kd.int .u8) 5 _ w.heap.size _ (.slice A18 y131.length c18) y131 from Kd.V_mk (by rw [hy18, hc18]; exact Nat.sub_le_sub_right (Nat.le_trans (by omega) hroom18) _) hr18)
                        have HC135 := Aside0.mk (show y131.length ≤ c18 from by rw [hy18, hc18]; exact Nat.sub_le_sub_right (Nat.le_trans (by omega) hroom18) _)
                        clear hr18 hC18 hroom18 hi018 hsz18 hc18
                        have KY18 := Aside0.mk hy18
                        have KA18 := Aside0.mk hA18
                        clear hy18 hA18
                        replace q18 := eq_true q18
                        go_wp2_with (first | (go_at_call 19; (with_reducible refine (ref03_Block.calls kj4 _ _ y131 t136 _ ?side1 ?side2 A12.out).mono ?_); (case side1 => repeat (first | exact (Kd.V_reads' HO135.out).2.2 | (with_reducible refine Kd.C_alloc ?_ _) | (with_reducible refine Kd.C_drewN ?_ _) | (with_reducible refine Kd.C_drew ?_))); (case side2 => exact (Kd.V_reads' HO135.out).2.1); rintro e w19 ⟨v137, rfl, ho0, hb⟩; have n0_ := Aside0.mk (Kd.V_elder' (by (with_reducible repeat (first | apply Kd.V_alloc | apply Kd.V_drewN | apply Kd.V_drew)); exact HO_0.out) (Kd.R_base ho0) hb); have n1_ := Aside0.mk (Kd.V_elder' (by (with_reducible repeat (first | apply Kd.V_alloc | apply Kd.V_drewN | apply Kd.V_drew)); exact HO135.out) (Kd.R_base ho0) hb); have n2_ := Aside0.mk (Kd.R_lower (Kd.R_newM (M := fun k_ => (w.heap.size ≤ k_)) ho0 (below_size (by repeat (first | (with_reducible first | exact HB.out | apply below_alloc | apply pw_below_drewN | apply below_drew1) | exact HB.out))) (fun k_ h_ => h_)) (below_size (by repeat (first | (with_reducible first | exact HB.out | apply below_alloc | apply pw_below_drewN | apply below_drew1) | exact HB.out)))); have n3_ := Aside0.mk (below_step (by repeat (first | (with_reducible first | exact HB.out | apply below_alloc | apply pw_below_drewN | apply below_drew1) | exact HB.out)) hb); clear HO_0; clear HO135; clear HB; have HO_0 := n0_; have HO135 := n1_; have HO138 := n2_; have HB := n3_; clear n0_ n1_ n2_ n3_; (try clear hb); (try clear hb2); (try clear hk); (try clear hi); (try clear ho0); have hcv20 := own_string (P := Try.prog) Try.underlying22 Try.underlying5 Try.underlying9 (Kd.own_of_R HO138.out); have hcv20d := own_string (P := Try.prog) Try.underlying22 Try.underlying5 Try.underlying9 (Kd.own_of_R (Kd.R_drew HO138.out)); have hcv20n := fun (n_ : Nat) => own_string (P := Try.prog) Try.underlying22 Try.underlying5 Try.underlying9 (Kd.own_of_R (Kd.R_drewN HO138.out n_)); obtain ⟨Ao21, co21, eo21⟩ := Kd.R_slice HO138.out; subst eo21; have q22 : ((t136.length : Int) : Int) ≤ ((l0.length : Int) : Int) := of_decide_eq_true (by first | (with_reducible assumption) | assumption); obtain ⟨i022, hi022, _, hsz22, _⟩ := info_parts info5; have hroom22 : l0.length ≤ c0 := (Kd.V_reads' HO_0.out).2.1; have hC22 : Kd.F (Kd.int .u8) _ _ A0 l0.length l0 := (Kd.V_at (base := w.heap.size) HO_0.out).2.2; have hcut22 := cut_to (P := Try.prog) 22 5 .i64 Try.underlying22 hi022 A0 l0.length c0 (t136.length : Int) (of_decide_eq_true (by first | (with_reducible assumption) | assumption)) q22 hroom22; have hr22 := Kd.F_take (m := ((t136.length : Int) : Int).toNat) hC22 (by omega); have hy22 : y139.length = ((t136.length : Int) : Int).toNat := (by rw [Ny139.out, List.length_take]; omega); rw [← Ny139.out] at hr22; rw [← hy22] at hcut22; have HO143 := Aside0.mk (show Kd.V (Kd.int .u8) 5 _ w.heap.size _ (.slice A0 y139.length c0) y139 from Kd.V_mk (by omega) hr22); have HC143 := Aside0.mk (show y139.length ≤ c0 from by omega); clear hr22 hC22 hroom22 hi022 hsz22; have KY22 := Aside0.mk hy22; clear hy22; replace q22 := eq_true q22; have hcv23 := Go.Proofs.Ytknkoeahcemmmaa.Hand.V_string (P := Try.prog) Try.underlying22 Try.underlying5 Try.underlying9 HO143.out; have hcv23d := Go.Proofs.Ytknkoeahcemmmaa.Hand.V_string (P := Try.prog) Try.underlying22 Try.underlying5 Try.underlying9 (Kd.V_drew HO143.out); have hcv23n := fun (n_ : Nat) => Go.Proofs.Ytknkoeahcemmmaa.Hand.V_string (P := Try.prog) Try.underlying22 Try.underlying5 Try.underlying9 (Kd.V_drewN HO143.out n_); have q24 : ((t136.length : Int) : Int) ≤ ((l0.length : Int) : Int) := of_decide_eq_true (by first | (with_reducible assumption) | assumption); obtain ⟨i024, hi024, _, hsz24, _⟩ := info_parts info5; have hroom24 : l0.length ≤ c0 := (Kd.V_reads' HO_0.out).2.1; have hC24 : Kd.F (Kd.int .u8) _ _ A0 l0.length l0 := (Kd.V_at (base := w.heap.size) HO_0.out).2.2; have q024 : (0 : Int) ≤ ((t136.length : Int) : Int) := of_decide_eq_true (by first | (with_reducible assumption) | assumption); have hcut24 := cut_from (P := Try.prog) 22 5 .i64 Try.underlying22 hi024 1 hsz24 A0 l0.length c0 (t136.length : Int) q024 q24; have hr24 := Kd.F_cut (m := ((t136.length : Int) : Int).toNat) (c := c0) hC24 (by omega) hroom24; obtain ⟨A24, hA24⟩ : ∃ A1, A1 = (if c0 = ((t136.length : Int) : Int).toNat then A0 else (A0 : Option Addr).map (·.add (((t136.length : Int) : Int).toNat * 1))) := ⟨_, rfl⟩; obtain ⟨c24, hc24⟩ : ∃ c1, c1 = c0 - ((t136.length : Int) : Int).toNat := ⟨_, rfl⟩; have hy24 : y144.length = l0.length - ((t136.length : Int) : Int).toNat := (by rw [Ny144.out, List.length_drop] <;> omega); rw [show (l0).drop ((t136.length : Int) : Int).toNat = y144 from Ny144.out.symm] at hr24; replace hr24 : Kd.F (Kd.int .u8) _ _ A24 y144.length y144 := (by rw [hA24]; exact hr24); rw [← hy24, ← hA24, ← hc24] at hcut24; have HO148 := Aside0.mk (show Kd.V (Kd.int .u8) 5 _ w.heap.size _ (.slice A24 y144.length c24) y144 from Kd.V_mk (by rw [hy24, hc24]; exact Nat.sub_le_sub_right hroom24 _) hr24); have HC148 := Aside0.mk (show y144.length ≤ c24 from by rw [hy24, hc24]; exact Nat.sub_le_sub_right hroom24 _); clear hr24 hC24 hroom24 hi024 hsz24 hc24; have KY24 := Aside0.mk hy24; have KA24 := Aside0.mk hA24; clear hy24 hA24; replace q24 := eq_true q24))
                        repeat (go_quiet (first | (go_at_call 19; (with_reducible refine (ref03_Block.calls kj4 _ _ y131 t136 _ ?side1 ?side2 A12.out).mono ?_); (case side1 => repeat (first | exact (Kd.V_reads' HO135.out).2.2 | (with_reducible refine Kd.C_alloc ?_ _) | (with_reducible refine Kd.C_drewN ?_ _) | (with_reducible refine Kd.C_drew ?_))); (case side2 => exact (Kd.V_reads' HO135.out).2.1); rintro e w19 ⟨v137, rfl, ho0, hb⟩; have n0_ := Aside0.mk (Kd.V_elder' (by (with_reducible repeat (first | apply Kd.V_alloc | apply Kd.V_drewN | apply Kd.V_drew)); exact HO_0.out) (Kd.R_base ho0) hb); have n1_ := Aside0.mk (Kd.V_elder' (by (with_reducible repeat (first | apply Kd.V_alloc | apply Kd.V_drewN | apply Kd.V_drew)); exact HO135.out) (Kd.R_base ho0) hb); have n2_ := Aside0.mk (Kd.R_lower (Kd.R_newM (M := fun k_ => (w.heap.size ≤ k_)) ho0 (below_size (by repeat (first | (with_reducible first | exact HB.out | apply below_alloc | apply pw_below_drewN | apply below_drew1) | exact HB.out))) (fun k_ h_ => h_)) (below_size (by repeat (first | (with_reducible first | exact HB.out | apply below_alloc | apply pw_below_drewN | apply below_drew1) | exact HB.out)))); have n3_ := Aside0.mk (below_step (by repeat (first | (with_reducible first | exact HB.out | apply below_alloc | apply pw_below_drewN | apply below_drew1) | exact HB.out)) hb); clear HO_0; clear HO135; clear HB; have HO_0 := n0_; have HO135 := n1_; have HO138 := n2_; have HB := n3_; clear n0_ n1_ n2_ n3_; (try clear hb); (try clear hb2); (try clear hk); (try clear hi); (try clear ho0); have hcv20 := own_string (P := Try.prog) Try.underlying22 Try.underlying5 Try.underlying9 (Kd.own_of_R HO138.out); have hcv20d := own_string (P := Try.prog) Try.underlying22 Try.underlying5 Try.underlying9 (Kd.own_of_R (Kd.R_drew HO138.out)); have hcv20n := fun (n_ : Nat) => own_string (P := Try.prog) Try.underlying22 Try.underlying5 Try.underlying9 (Kd.own_of_R (Kd.R_drewN HO138.out n_)); obtain ⟨Ao21, co21, eo21⟩ := Kd.R_slice HO138.out; subst eo21; have q22 : ((t136.length : Int) : Int) ≤ ((l0.length : Int) : Int) := of_decide_eq_true (by first | (with_reducible assumption) | assumption); obtain ⟨i022, hi022, _, hsz22, _⟩ := info_parts info5; have hroom22 : l0.length ≤ c0 := (Kd.V_reads' HO_0.out).2.1; have hC22 : Kd.F (Kd.int .u8) _ _ A0 l0.length l0 := (Kd.V_at (base := w.heap.size) HO_0.out).2.2; have hcut22 := cut_to (P := Try.prog) 22 5 .i64 Try.underlying22 hi022 A0 l0.length c0 (t136.length : Int) (of_decide_eq_true (by first | (with_reducible assumption) | assumption)) q22 hroom22; have hr22 := Kd.F_take (m := ((t136.length : Int) : Int).toNat) hC22 (by omega); have hy22 : y139.length = ((t136.length : Int) : Int).toNat := (by rw [Ny139.out, List.length_take]; omega); rw [← Ny139.out] at hr22; rw [← hy22] at hcut22; have HO143 := Aside0.mk (show Kd.V (Kd.int .u8) 5 _ w.heap.size _ (.slice A0 y139.length c0) y139 from Kd.V_mk (by omega) hr22); have HC143 := Aside0.mk (show y139.length ≤ c0 from by omega); clear hr22 hC22 hroom22 hi022 hsz22; have KY22 := Aside0.mk hy22; clear hy22; replace q22 := eq_true q22; have hcv23 := Go.Proofs.Ytknkoeahcemmmaa.Hand.V_string (P := Try.prog) Try.underlying22 Try.underlying5 Try.underlying9 HO143.out; have hcv23d := Go.Proofs.Ytknkoeahcemmmaa.Hand.V_string (P := Try.prog) Try.underlying22 Try.underlying5 Try.underlying9 (Kd.V_drew HO143.out); have hcv23n := fun (n_ : Nat) => Go.Proofs.Ytknkoeahcemmmaa.Hand.V_string (P := Try.prog) Try.underlying22 Try.underlying5 Try.underlying9 (Kd.V_drewN HO143.out n_); have q24 : ((t136.length : Int) : Int) ≤ ((l0.length : Int) : Int) := of_decide_eq_true (by first | (with_reducible assumption) | assumption); obtain ⟨i024, hi024, _, hsz24, _⟩ := info_parts info5; have hroom24 : l0.length ≤ c0 := (Kd.V_reads' HO_0.out).2.1; have hC24 : Kd.F (Kd.int .u8) _ _ A0 l0.length l0 := (Kd.V_at (base := w.heap.size) HO_0.out).2.2; have q024 : (0 : Int) ≤ ((t136.length : Int) : Int) := of_decide_eq_true (by first | (with_reducible assumption) | assumption); have hcut24 := cut_from (P := Try.prog) 22 5 .i64 Try.underlying22 hi024 1 hsz24 A0 l0.length c0 (t136.length : Int) q024 q24; have hr24 := Kd.F_cut (m := ((t136.length : Int) : Int).toNat) (c := c0) hC24 (by omega) hroom24; obtain ⟨A24, hA24⟩ : ∃ A1, A1 = (if c0 = ((t136.length : Int) : Int).toNat then A0 else (A0 : Option Addr).map (·.add (((t136.length : Int) : Int).toNat * 1))) := ⟨_, rfl⟩; obtain ⟨c24, hc24⟩ : ∃ c1, c1 = c0 - ((t136.length : Int) : Int).toNat := ⟨_, rfl⟩; have hy24 : y144.length = l0.length - ((t136.length : Int) : Int).toNat := (by rw [Ny144.out, List.length_drop] <;> omega); rw [show (l0).drop ((t136.length : Int) : Int).toNat = y144 from Ny144.out.symm] at hr24; replace hr24 : Kd.F (Kd.int .u8) _ _ A24 y144.length y144 := (by rw [hA24]; exact hr24); rw [← hy24, ← hA24, ← hc24] at hcut24; have HO148 := Aside0.mk (show Kd.V (Kd.int .u8) 5 _ w.heap.size _ (.slice A24 y144.length c24) y144 from Kd.V_mk (by rw [hy24, hc24]; exact Nat.sub_le_sub_right hroom24 _) hr24); have HC148 := Aside0.mk (show y144.length ≤ c24 from by rw [hy24, hc24]; exact Nat.sub_le_sub_right hroom24 _); clear hr24 hC24 hroom24 hi024 hsz24 hc24; have KY24 := Aside0.mk hy24; have KA24 := Aside0.mk hA24; clear hy24 hA24; replace q24 := eq_true q24)); try go_wp2_with (first | (go_at_call 19; (with_reducible refine (ref03_Block.calls kj4 _ _ y131 t136 _ ?side1 ?side2 A12.out).mono ?_); (case side1 => repeat (first | exact (Kd.V_reads' HO135.out).2.2 | (with_reducible refine Kd.C_alloc ?_ _) | (with_reducible refine Kd.C_drewN ?_ _) | (with_reducible refine Kd.C_drew ?_))); (case side2 => exact (Kd.V_reads' HO135.out).2.1); rintro e w19 ⟨v137, rfl, ho0, hb⟩; have n0_ := Aside0.mk (Kd.V_elder' (by (with_reducible repeat (first | apply Kd.V_alloc | apply Kd.V_drewN | apply Kd.V_drew)); exact HO_0.out) (Kd.R_base ho0) hb); have n1_ := Aside0.mk (Kd.V_elder' (by (with_reducible repeat (first | apply Kd.V_alloc | apply Kd.V_drewN | apply Kd.V_drew)); exact HO135.out) (Kd.R_base ho0) hb); have n2_ := Aside0.mk (Kd.R_lower (Kd.R_newM (M := fun k_ => (w.heap.size ≤ k_)) ho0 (below_size (by repeat (first | (with_reducible first | exact HB.out | apply below_alloc | apply pw_below_drewN | apply below_drew1) | exact HB.out))) (fun k_ h_ => h_)) (below_size (by repeat (first | (with_reducible first | exact HB.out | apply below_alloc | apply pw_below_drewN | apply below_drew1) | exact HB.out)))); have n3_ := Aside0.mk (below_step (by repeat (first | (with_reducible first | exact HB.out | apply below_alloc | apply pw_below_drewN | apply below_drew1) | exact HB.out)) hb); clear HO_0; clear HO135; clear HB; have HO_0 := n0_; have HO135 := n1_; have HO138 := n2_; have HB := n3_; clear n0_ n1_ n2_ n3_; (try clear hb); (try clear hb2); (try clear hk); (try clear hi); (try clear ho0); have hcv20 := own_string (P := Try.prog) Try.underlying22 Try.underlying5 Try.underlying9 (Kd.own_of_R HO138.out); have hcv20d := own_string (P := Try.prog) Try.underlying22 Try.underlying5 Try.underlying9 (Kd.own_of_R (Kd.R_drew HO138.out)); have hcv20n := fun (n_ : Nat) => own_string (P := Try.prog) Try.underlying22 Try.underlying5 Try.underlying9 (Kd.own_of_R (Kd.R_drewN HO138.out n_)); obtain ⟨Ao21, co21, eo21⟩ := Kd.R_slice HO138.out; subst eo21; have q22 : ((t136.length : Int) : Int) ≤ ((l0.length : Int) : Int) := of_decide_eq_true (by first | (with_reducible assumption) | assumption); obtain ⟨i022, hi022, _, hsz22, _⟩ := info_parts info5; have hroom22 : l0.length ≤ c0 := (Kd.V_reads' HO_0.out).2.1; have hC22 : Kd.F (Kd.int .u8) _ _ A0 l0.length l0 := (Kd.V_at (base := w.heap.size) HO_0.out).2.2; have hcut22 := cut_to (P := Try.prog) 22 5 .i64 Try.underlying22 hi022 A0 l0.length c0 (t136.length : Int) (of_decide_eq_true (by first | (with_reducible assumption) | assumption)) q22 hroom22; have hr22 := Kd.F_take (m := ((t136.length : Int) : Int).toNat) hC22 (by omega); have hy22 : y139.length = ((t136.length : Int) : Int).toNat := (by rw [Ny139.out, List.length_take]; omega); rw [← Ny139.out] at hr22; rw [← hy22] at hcut22; have HO143 := Aside0.mk (show Kd.V (Kd.int .u8) 5 _ w.heap.size _ (.slice A0 y139.length c0) y139 from Kd.V_mk (by omega) hr22); have HC143 := Aside0.mk (show y139.length ≤ c0 from by omega); clear hr22 hC22 hroom22 hi022 hsz22; have KY22 := Aside0.mk hy22; clear hy22; replace q22 := eq_true q22; have hcv23 := Go.Proofs.Ytknkoeahcemmmaa.Hand.V_string (P := Try.prog) Try.underlying22 Try.underlying5 Try.underlying9 HO143.out; have hcv23d := Go.Proofs.Ytknkoeahcemmmaa.Hand.V_string (P := Try.prog) Try.underlying22 Try.underlying5 Try.underlying9 (Kd.V_drew HO143.out); have hcv23n := fun (n_ : Nat) => Go.Proofs.Ytknkoeahcemmmaa.Hand.V_string (P := Try.prog) Try.underlying22 Try.underlying5 Try.underlying9 (Kd.V_drewN HO143.out n_); have q24 : ((t136.length : Int) : Int) ≤ ((l0.length : Int) : Int) := of_decide_eq_true (by first | (with_reducible assumption) | assumption); obtain ⟨i024, hi024, _, hsz24, _⟩ := info_parts info5; have hroom24 : l0.length ≤ c0 := (Kd.V_reads' HO_0.out).2.1; have hC24 : Kd.F (Kd.int .u8) _ _ A0 l0.length l0 := (Kd.V_at (base := w.heap.size) HO_0.out).2.2; have q024 : (0 : Int) ≤ ((t136.length : Int) : Int) := of_decide_eq_true (by first | (with_reducible assumption) | assumption); have hcut24 := cut_from (P := Try.prog) 22 5 .i64 Try.underlying22 hi024 1 hsz24 A0 l0.length c0 (t136.length : Int) q024 q24; have hr24 := Kd.F_cut (m := ((t136.length : Int) : Int).toNat) (c := c0) hC24 (by omega) hroom24; obtain ⟨A24, hA24⟩ : ∃ A1, A1 = (if c0 = ((t136.length : Int) : Int).toNat then A0 else (A0 : Option Addr).map (·.add (((t136.length : Int) : Int).toNat * 1))) := ⟨_, rfl⟩; obtain ⟨c24, hc24⟩ : ∃ c1, c1 = c0 - ((t136.length : Int) : Int).toNat := ⟨_, rfl⟩; have hy24 : y144.length = l0.length - ((t136.length : Int) : Int).toNat := (by rw [Ny144.out, List.length_drop] <;> omega); rw [show (l0).drop ((t136.length : Int) : Int).toNat = y144 from Ny144.out.symm] at hr24; replace hr24 : Kd.F (Kd.int .u8) _ _ A24 y144.length y144 := (by rw [hA24]; exact hr24); rw [← hy24, ← hA24, ← hc24] at hcut24; have HO148 := Aside0.mk (show Kd.V (Kd.int .u8) 5 _ w.heap.size _ (.slice A24 y144.length c24) y144 from Kd.V_mk (by rw [hy24, hc24]; exact Nat.sub_le_sub_right hroom24 _) hr24); have HC148 := Aside0.mk (show y144.length ≤ c24 from by rw [hy24, hc24]; exact Nat.sub_le_sub_right hroom24 _); clear hr24 hC24 hroom24 hi024 hsz24 hc24; have KY24 := Aside0.mk hy24; have KA24 := Aside0.mk hA24; clear hy24 hA24; replace q24 := eq_true q24)))
                        go_ret3
                        exact ⟨_, _, by first | rfl | (simp [errW_none, errW_some] <;> rfl) | (simp [*, errW_none, errW_some] <;> rfl), by (with_reducible repeat (first | apply Kd.V_alloc | apply Kd.V_drewN | apply Kd.V_drew)); exact Kd.V_mono HO135.out (fun _ hk => hk.1), by (with_reducible repeat (first | apply Kd.V_alloc | apply Kd.V_drewN | apply Kd.V_drew)); exact Kd.V_mono HO148.out (fun _ hk => hk.1), by repeat (first | (with_reducible first | exact HB.out | apply below_alloc | apply pw_below_drewN | apply below_drew1) | exact HB.out)⟩
                      · rw [if_neg c15] at H
                        have c15b0 : ((strOfNums t136).toList == (strOfNums y139).toList) = false := beq_eq_false_iff_ne.mpr c15
                        have c15b1 : ((strOfNums t136).toList != (strOfNums y139).toList) = true := bne_iff_ne.mpr c15
                        simp only [Option.some.injEq, Prod.mk.injEq] at H
                        obtain ⟨rfl, rfl, rfl⟩ := H
                        have q25 : ((wrap64 (t129 + (wrap64 (t128)))) : Int) ≤ ((l0.length : Int) : Int) := of_decide_eq_true (by first | (with_reducible assumption) | assumption)
                        obtain ⟨i025, hi025, _, hsz25, _⟩ := info_parts info5
                        have hroom25 : l0.length ≤ c0 := (Kd.V_reads' HO_0.out).2.1
                        have hC25 : Kd.F (Kd.int .u8) _ _ A0 l0.length l0 := (Kd.V_at (base := w.heap.size) HO_0.out).2.2
                        have ql25 : (t129 : Int) ≤ ((wrap64 (t129 + (wrap64 (t128)))) : Int) := of_decide_eq_true (by first | (with_reducible assumption) | assumption)
                        have q025 : (0 : Int) ≤ (t129 : Int) := of_decide_eq_true (by first | (with_reducible assumption) | assumption)
                        have hcut25 := cut_mid (P := Try.prog) 22 5 .i64 .i64 Try.underlying22 hi025 1 hsz25 A0 l0.length c0 t129 (wrap64 (t129 + (wrap64 (t128)))) q025 ql25 q25 hroom25
                        have hr25 := Kd.F_mid (lo := (t129 : Int).toNat) (hi := ((wrap64 (t129 + (wrap64 (t128)))) : Int).toNat) (c := c0) hC25 (by omega) (by omega) hroom25
                        obtain ⟨A25, hA25⟩ : ∃ A1, A1 = (if c0 = (t129 : Int).toNat then A0 else (A0 : Option Addr).map (·.add ((t129 : Int).toNat * 1))) := ⟨_, rfl⟩
                        obtain ⟨c25, hc25⟩ : ∃ c1, c1 = c0 - (t129 : Int).toNat := ⟨_, rfl⟩
                        have hy25 : y131.length = ((wrap64 (t129 + (wrap64 (t128)))) : Int).toNat - (t129 : Int).toNat := (by rw [Ny131.out, List.length_drop, List.length_take] <;> omega)
                        rw [show ((l0).take ((wrap64 (t129 + (wrap64 (t128)))) : Int).toNat).drop (t129 : Int).toNat = y131 from Ny131.out.symm] at hr25
                        replace hr25 : Kd.F (Kd.int .u8) _ _ A25 y131.length y131 := (by rw [hA25]; exact hr25)
                        rw [← hy25, ← hA25, ← hc25] at hcut25
                        have HO135 := Aside0.mk (show Kd.V (Kd.int .u8) 5 _ w.heap.size _ (.slice A25 y131.length c25) y131 from Kd.V_mk (by rw [hy25, hc25]; exact Nat.sub_le_sub_right (Nat.le_trans (by omega) hroom25) _) hr25)
                        have HC135 := Aside0.mk (show y131.length ≤ c25 from by rw [hy25, hc25]; exact Nat.sub_le_sub_right (Nat.le_trans (by omega) hroom25) _)
                        clear hr25 hC25 hroom25 hi025 hsz25 hc25
                        have KY25 := Aside0.mk hy25
                        have KA25 := Aside0.mk hA25
                        clear hy25 hA25
                        replace q25 := eq_true q25
                        go_wp2_with (first | (go_at_call 19; (with_reducible refine (ref03_Block.calls kj4 _ _ y131 t136 _ ?side1 ?side2 A12.out).mono ?_); (case side1 => repeat (first | exact (Kd.V_reads' HO135.out).2.2 | (with_reducible refine Kd.C_alloc ?_ _) | (with_reducible refine Kd.C_drewN ?_ _) | (with_reducible refine Kd.C_drew ?_))); (case side2 => exact (Kd.V_reads' HO135.out).2.1); rintro e w26 ⟨v137, rfl, ho0, hb⟩; have n0_ := Aside0.mk (Kd.V_elder' (by (with_reducible repeat (first | apply Kd.V_alloc | apply Kd.V_drewN | apply Kd.V_drew)); exact HO_0.out) (Kd.R_base ho0) hb); have n1_ := Aside0.mk (Kd.V_elder' (by (with_reducible repeat (first | apply Kd.V_alloc | apply Kd.V_drewN | apply Kd.V_drew)); exact HO135.out) (Kd.R_base ho0) hb); have n2_ := Aside0.mk (Kd.R_lower (Kd.R_newM (M := fun k_ => (w.heap.size ≤ k_)) ho0 (below_size (by repeat (first | (with_reducible first | exact HB.out | apply below_alloc | apply pw_below_drewN | apply below_drew1) | exact HB.out))) (fun k_ h_ => h_)) (below_size (by repeat (first | (with_reducible first | exact HB.out | apply below_alloc | apply pw_below_drewN | apply below_drew1) | exact HB.out)))); have n3_ := Aside0.mk (below_step (by repeat (first | (with_reducible first | exact HB.out | apply below_alloc | apply pw_below_drewN | apply below_drew1) | exact HB.out)) hb); clear HO_0; clear HO135; clear HB; have HO_0 := n0_; have HO135 := n1_; have HO138 := n2_; have HB := n3_; clear n0_ n1_ n2_ n3_; (try clear hb); (try clear hb2); (try clear hk); (try clear hi); (try clear ho0); have hcv27 := own_string (P := Try.prog) Try.underlying22 Try.underlying5 Try.underlying9 (Kd.own_of_R HO138.out); have hcv27d := own_string (P := Try.prog) Try.underlying22 Try.underlying5 Try.underlying9 (Kd.own_of_R (Kd.R_drew HO138.out)); have hcv27n := fun (n_ : Nat) => own_string (P := Try.prog) Try.underlying22 Try.underlying5 Try.underlying9 (Kd.own_of_R (Kd.R_drewN HO138.out n_)); obtain ⟨Ao28, co28, eo28⟩ := Kd.R_slice HO138.out; subst eo28; have q29 : ((t136.length : Int) : Int) ≤ ((l0.length : Int) : Int) := of_decide_eq_true (by first | (with_reducible assumption) | assumption); obtain ⟨i029, hi029, _, hsz29, _⟩ := info_parts info5; have hroom29 : l0.length ≤ c0 := (Kd.V_reads' HO_0.out).2.1; have hC29 : Kd.F (Kd.int .u8) _ _ A0 l0.length l0 := (Kd.V_at (base := w.heap.size) HO_0.out).2.2; have hcut29 := cut_to (P := Try.prog) 22 5 .i64 Try.underlying22 hi029 A0 l0.length c0 (t136.length : Int) (of_decide_eq_true (by first | (with_reducible assumption) | assumption)) q29 hroom29; have hr29 := Kd.F_take (m := ((t136.length : Int) : Int).toNat) hC29 (by omega); have hy29 : y139.length = ((t136.length : Int) : Int).toNat := (by rw [Ny139.out, List.length_take]; omega); rw [← Ny139.out] at hr29; rw [← hy29] at hcut29; have HO143 := Aside0.mk (show Kd.V (Kd.int .u8) 5 _ w.heap.size _ (.slice A0 y139.length c0) y139 from Kd.V_mk (by omega) hr29); have HC143 := Aside0.mk (show y139.length ≤ c0 from by omega); clear hr29 hC29 hroom29 hi029 hsz29; have KY29 := Aside0.mk hy29; clear hy29; replace q29 := eq_true q29; have hcv30 := Go.Proofs.Ytknkoeahcemmmaa.Hand.V_string (P := Try.prog) Try.underlying22 Try.underlying5 Try.underlying9 HO143.out; have hcv30d := Go.Proofs.Ytknkoeahcemmmaa.Hand.V_string (P := Try.prog) Try.underlying22 Try.underlying5 Try.underlying9 (Kd.V_drew HO143.out); have hcv30n := fun (n_ : Nat) => Go.Proofs.Ytknkoeahcemmmaa.Hand.V_string (P := Try.prog) Try.underlying22 Try.underlying5 Try.underlying9 (Kd.V_drewN HO143.out n_)))
                        repeat (go_quiet (first | (go_at_call 19; (with_reducible refine (ref03_Block.calls kj4 _ _ y131 t136 _ ?side1 ?side2 A12.out).mono ?_); (case side1 => repeat (first | exact (Kd.V_reads' HO135.out).2.2 | (with_reducible refine Kd.C_alloc ?_ _) | (with_reducible refine Kd.C_drewN ?_ _) | (with_reducible refine Kd.C_drew ?_))); (case side2 => exact (Kd.V_reads' HO135.out).2.1); rintro e w26 ⟨v137, rfl, ho0, hb⟩; have n0_ := Aside0.mk (Kd.V_elder' (by (with_reducible repeat (first | apply Kd.V_alloc | apply Kd.V_drewN | apply Kd.V_drew)); exact HO_0.out) (Kd.R_base ho0) hb); have n1_ := Aside0.mk (Kd.V_elder' (by (with_reducible repeat (first | apply Kd.V_alloc | apply Kd.V_drewN | apply Kd.V_drew)); exact HO135.out) (Kd.R_base ho0) hb); have n2_ := Aside0.mk (Kd.R_lower (Kd.R_newM (M := fun k_ => (w.heap.size ≤ k_)) ho0 (below_size (by repeat (first | (with_reducible first | exact HB.out | apply below_alloc | apply pw_below_drewN | apply below_drew1) | exact HB.out))) (fun k_ h_ => h_)) (below_size (by repeat (first | (with_reducible first | exact HB.out | apply below_alloc | apply pw_below_drewN | apply below_drew1) | exact HB.out)))); have n3_ := Aside0.mk (below_step (by repeat (first | (with_reducible first | exact HB.out | apply below_alloc | apply pw_below_drewN | apply below_drew1) | exact HB.out)) hb); clear HO_0; clear HO135; clear HB; have HO_0 := n0_; have HO135 := n1_; have HO138 := n2_; have HB := n3_; clear n0_ n1_ n2_ n3_; (try clear hb); (try clear hb2); (try clear hk); (try clear hi); (try clear ho0); have hcv27 := own_string (P := Try.prog) Try.underlying22 Try.underlying5 Try.underlying9 (Kd.own_of_R HO138.out); have hcv27d := own_string (P := Try.prog) Try.underlying22 Try.underlying5 Try.underlying9 (Kd.own_of_R (Kd.R_drew HO138.out)); have hcv27n := fun (n_ : Nat) => own_string (P := Try.prog) Try.underlying22 Try.underlying5 Try.underlying9 (Kd.own_of_R (Kd.R_drewN HO138.out n_)); obtain ⟨Ao28, co28, eo28⟩ := Kd.R_slice HO138.out; subst eo28; have q29 : ((t136.length : Int) : Int) ≤ ((l0.length : Int) : Int) := of_decide_eq_true (by first | (with_reducible assumption) | assumption); obtain ⟨i029, hi029, _, hsz29, _⟩ := info_parts info5; have hroom29 : l0.length ≤ c0 := (Kd.V_reads' HO_0.out).2.1; have hC29 : Kd.F (Kd.int .u8) _ _ A0 l0.length l0 := (Kd.V_at (base := w.heap.size) HO_0.out).2.2; have hcut29 := cut_to (P := Try.prog) 22 5 .i64 Try.underlying22 hi029 A0 l0.length c0 (t136.length : Int) (of_decide_eq_true (by first | (with_reducible assumption) | assumption)) q29 hroom29; have hr29 := Kd.F_take (m := ((t136.length : Int) : Int).toNat) hC29 (by omega); have hy29 : y139.length = ((t136.length : Int) : Int).toNat := (by rw [Ny139.out, List.length_take]; omega); rw [← Ny139.out] at hr29; rw [← hy29] at hcut29; have HO143 := Aside0.mk (show Kd.V (Kd.int .u8) 5 _ w.heap.size _ (.slice A0 y139.length c0) y139 from Kd.V_mk (by omega) hr29); have HC143 := Aside0.mk (show y139.length ≤ c0 from by omega); clear hr29 hC29 hroom29 hi029 hsz29; have KY29 := Aside0.mk hy29; clear hy29; replace q29 := eq_true q29; have hcv30 := Go.Proofs.Ytknkoeahcemmmaa.Hand.V_string (P := Try.prog) Try.underlying22 Try.underlying5 Try.underlying9 HO143.out; have hcv30d := Go.Proofs.Ytknkoeahcemmmaa.Hand.V_string (P := Try.prog) Try.underlying22 Try.underlying5 Try.underlying9 (Kd.V_drew HO143.out); have hcv30n := fun (n_ : Nat) => Go.Proofs.Ytknkoeahcemmmaa.Hand.V_string (P := Try.prog) Try.underlying22 Try.underlying5 Try.underlying9 (Kd.V_drewN HO143.out n_))); try go_wp2_with (first | (go_at_call 19; (with_reducible refine (ref03_Block.calls kj4 _ _ y131 t136 _ ?side1 ?side2 A12.out).mono ?_); (case side1 => repeat (first | exact (Kd.V_reads' HO135.out).2.2 | (with_reducible refine Kd.C_alloc ?_ _) | (with_reducible refine Kd.C_drewN ?_ _) | (with_reducible refine Kd.C_drew ?_))); (case side2 => exact (Kd.V_reads' HO135.out).2.1); rintro e w26 ⟨v137, rfl, ho0, hb⟩; have n0_ := Aside0.mk (Kd.V_elder' (by (with_reducible repeat (first | apply Kd.V_alloc | apply Kd.V_drewN | apply Kd.V_drew)); exact HO_0.out) (Kd.R_base ho0) hb); have n1_ := Aside0.mk (Kd.V_elder' (by (with_reducible repeat (first | apply Kd.V_alloc | apply Kd.V_drewN | apply Kd.V_drew)); exact HO135.out) (Kd.R_base ho0) hb); have n2_ := Aside0.mk (Kd.R_lower (Kd.R_newM (M := fun k_ => (w.heap.size ≤ k_)) ho0 (below_size (by repeat (first | (with_reducible first | exact HB.out | apply below_alloc | apply pw_below_drewN | apply below_drew1) | exact HB.out))) (fun k_ h_ => h_)) (below_size (by repeat (first | (with_reducible first | exact HB.out | apply below_alloc | apply pw_below_drewN | apply below_drew1) | exact HB.out)))); have n3_ := Aside0.mk (below_step (by repeat (first | (with_reducible first | exact HB.out | apply below_alloc | apply pw_below_drewN | apply below_drew1) | exact HB.out)) hb); clear HO_0; clear HO135; clear HB; have HO_0 := n0_; have HO135 := n1_; have HO138 := n2_; have HB := n3_; clear n0_ n1_ n2_ n3_; (try clear hb); (try clear hb2); (try clear hk); (try clear hi); (try clear ho0); have hcv27 := own_string (P := Try.prog) Try.underlying22 Try.underlying5 Try.underlying9 (Kd.own_of_R HO138.out); have hcv27d := own_string (P := Try.prog) Try.underlying22 Try.underlying5 Try.underlying9 (Kd.own_of_R (Kd.R_drew HO138.out)); have hcv27n := fun (n_ : Nat) => own_string (P := Try.prog) Try.underlying22 Try.underlying5 Try.underlying9 (Kd.own_of_R (Kd.R_drewN HO138.out n_)); obtain ⟨Ao28, co28, eo28⟩ := Kd.R_slice HO138.out; subst eo28; have q29 : ((t136.length : Int) : Int) ≤ ((l0.length : Int) : Int) := of_decide_eq_true (by first | (with_reducible assumption) | assumption); obtain ⟨i029, hi029, _, hsz29, _⟩ := info_parts info5; have hroom29 : l0.length ≤ c0 := (Kd.V_reads' HO_0.out).2.1; have hC29 : Kd.F (Kd.int .u8) _ _ A0 l0.length l0 := (Kd.V_at (base := w.heap.size) HO_0.out).2.2; have hcut29 := cut_to (P := Try.prog) 22 5 .i64 Try.underlying22 hi029 A0 l0.length c0 (t136.length : Int) (of_decide_eq_true (by first | (with_reducible assumption) | assumption)) q29 hroom29; have hr29 := Kd.F_take (m := ((t136.length : Int) : Int).toNat) hC29 (by omega); have hy29 : y139.length = ((t136.length : Int) : Int).toNat := (by rw [Ny139.out, List.length_take]; omega); rw [← Ny139.out] at hr29; rw [← hy29] at hcut29; have HO143 := Aside0.mk (show Kd.V (Kd.int .u8) 5 _ w.heap.size _ (.slice A0 y139.length c0) y139 from Kd.V_mk (by omega) hr29); have HC143 := Aside0.mk (show y139.length ≤ c0 from by omega); clear hr29 hC29 hroom29 hi029 hsz29; have KY29 := Aside0.mk hy29; clear hy29; replace q29 := eq_true q29; have hcv30 := Go.Proofs.Ytknkoeahcemmmaa.Hand.V_string (P := Try.prog) Try.underlying22 Try.underlying5 Try.underlying9 HO143.out; have hcv30d := Go.Proofs.Ytknkoeahcemmmaa.Hand.V_string (P := Try.prog) Try.underlying22 Try.underlying5 Try.underlying9 (Kd.V_drew HO143.out); have hcv30n := fun (n_ : Nat) => Go.Proofs.Ytknkoeahcemmmaa.Hand.V_string (P := Try.prog) Try.underlying22 Try.underlying5 Try.underlying9 (Kd.V_drewN HO143.out n_))))
                        go_ret3
                        exact ⟨_, _, by first | rfl | (simp [errW_none, errW_some] <;> rfl) | (simp [*, errW_none, errW_some] <;> rfl), (Kd.V_nil _ _ _ _ _), (Kd.V_nil _ _ _ _ _), by repeat (first | (with_reducible first | exact HB.out | apply below_alloc | apply pw_below_drewN | apply below_drew1) | exact HB.out)⟩
                    · rw [if_neg c14] at H
                      exact absurd H (by simp)
                  · rw [if_neg c13] at H
                    exact absurd H (by simp)
                · rw [if_neg c11] at H
                  exact absurd H (by simp)
              · rw [if_neg c10] at H
                exact absurd H (by simp)
            · rw [if_neg c9] at H
              exact absurd H (by simp)
  · rw [if_neg c4] at H
    have c4b0 : (t130 == 0) = false := beq_eq_false_iff_ne.mpr c4
    have c4b1 : (t130 != 0) = true := bne_iff_ne.mpr c4
    simp only [Option.some.injEq, Prod.mk.injEq] at H
    obtain ⟨rfl, rfl, rfl⟩ := H
    go_enter Try.func17, Try.ntmps17
    go_wp2_with (first | (go_at_call 23; (with_reducible refine (ref02_Get.calls k _ _ l0 t128 t129 t130 _ ?side1 ?side2 A3.out).mono ?_); (case side1 => repeat (first | exact (Kd.V_reads' HO0.out).2.2 | (with_reducible refine Kd.C_alloc ?_ _) | (with_reducible refine Kd.C_drewN ?_ _) | (with_reducible refine Kd.C_drew ?_))); (case side2 => exact (Kd.V_reads' HO0.out).2.1); rintro e w' ⟨rfl, ⟨nd, rfl⟩⟩; (try first | exact ⟨rfl, _, World.drewN_drewN _ _ _⟩ | exact ⟨rfl, _, Eq.trans (World.drewN_drewN _ _ _) (congrArg (World.drewN _) (Nat.add_assoc _ _ _))⟩)))
    repeat (go_quiet (first | (go_at_call 23; (with_reducible refine (ref02_Get.calls k _ _ l0 t128 t129 t130 _ ?side1 ?side2 A3.out).mono ?_); (case side1 => repeat (first | exact (Kd.V_reads' HO0.out).2.2 | (with_reducible refine Kd.C_alloc ?_ _) | (with_reducible refine Kd.C_drewN ?_ _) | (with_reducible refine Kd.C_drew ?_))); (case side2 => exact (Kd.V_reads' HO0.out).2.1); rintro e w' ⟨rfl, ⟨nd, rfl⟩⟩; (try first | exact ⟨rfl, _, World.drewN_drewN _ _ _⟩ | exact ⟨rfl, _, Eq.trans (World.drewN_drewN _ _ _) (congrArg (World.drewN _) (Nat.add_assoc _ _ _))⟩))); try go_wp2_with (first | (go_at_call 23; (with_reducible refine (ref02_Get.calls k _ _ l0 t128 t129 t130 _ ?side1 ?side2 A3.out).mono ?_); (case side1 => repeat (first | exact (Kd.V_reads' HO0.out).2.2 | (with_reducible refine Kd.C_alloc ?_ _) | (with_reducible refine Kd.C_drewN ?_ _) | (with_reducible refine Kd.C_drew ?_))); (case side2 => exact (Kd.V_reads' HO0.out).2.1); rintro e w' ⟨rfl, ⟨nd, rfl⟩⟩; (try first | exact ⟨rfl, _, World.drewN_drewN _ _ _⟩ | exact ⟨rfl, _, Eq.trans (World.drewN_drewN _ _ _) (congrArg (World.drewN _) (Nat.add_assoc _ _ _))⟩))))
    go_ret3
    exact ⟨_, _, by first | rfl | (simp [errW_none, errW_some] <;> rfl) | (simp [*, errW_none, errW_some] <;> rfl), (Kd.V_nil _ _ _ _ _), (Kd.V_nil _ _ _ _ _), by repeat (first | (with_reducible first | exact HB.out | apply below_alloc | apply pw_below_drewN | apply below_drew1) | exact HB.out)⟩

end Go.Proofs.Ytknkoeahcemmmaa.PCrb
