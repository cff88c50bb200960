-- Written by this session's program wip/gprint/gprint.py, over the kit's print, with given functions; no text of print.sh's.
import Derived.Test.YtjchjdbfmiibhaaPRlsx0
import Derived.Test.YtjchjdbfmiibhaaPRlsx2
import Derived.Test.YtjchjdbfmiibhaaPRlsx4
import Derived.Test.YtjchjdbfmiibhaaPRlsx7
import Derived.Test.YtjchjdbfmiibhaaPRlsx9
namespace Go.Proofs.Ytjchjdbfmiibhaa.PRls
open Go.RowKit Go.Proofs.YtjchjdbfmiibhaaW.PrintWords Go.Proofs.YtjchjdbfmiibhaaW.PrintLast Go.Proofs.YtjchjdbfmiibhaaW.PrintMore
attribute [local go_sem] max2_int min2_int max_two min_two max_three min_three max_four min_four   -- for this text's walks alone
set_option linter.unusedVariables false
set_option linter.unusedSimpArgs false

/-! ### rle_Spread: function 27 -/
def rle_Spread.l0 : Nat → List (S32) → List (S49) → Int → Int → Option ((List (S32)))
  | 0, _, _, _, _ => none
  | k + 1, x3, x6, x7, x8 => if x8 < x7 then (if 0 ≤ x8 then (if x8 < (x6.length : Int) then ((api_Val_49.f (([(⟨(rd_T49 x6 x8).f1.f0, (rd_T49 x6 x8).f1.f1, (rd_T49 x6 x8).f1.f2⟩ : S32)] : List (S32))) (mn (mx ((rd_T49 x6 x8).f0) 0) (wrap64 (4096 - (x3.length : Int))))).bind fun t169 => (if x3.length + t169.length < 4398046511104 then (rle_Spread.l0 k (x3 ++ t169) x6 x7 (wrap64 (x8 + 1))) else (none))) else (none)) else (none)) else (some x3)
def rle_Spread.f (k : Nat) (l0 : List (S49)) : Option ((List (S32))) := rle_Spread.l0 k ([] : List (S32)) l0 (l0.length : Int) 0
theorem rle_Spread.mono_l : ∀ k, (∀ y0 y1 y2 y3, LeO (rle_Spread.l0 k y0 y1 y2 y3) (rle_Spread.l0 (k + 1) y0 y1 y2 y3))
  | 0 => fun _ _ _ _ r h => by simp [rle_Spread.l0] at h
  | k + 1 => by
    have ih0 := rle_Spread.mono_l k
    · intro y0 y1 y2 y3
      unfold rle_Spread.l0
      repeat' first
      | (with_reducible exact ih0 _ _ _ _)
      | (with_reducible exact LeO.refl _)
      | (with_reducible exact LeO.none _)
      | (with_reducible refine LeO.ite ?_ ?_)
      | (with_reducible refine LeO.bind ?_ (fun _ => ?_))
      | exact ih0 _ _ _ _
      | exact LeO.none _
      | refine LeO.ite ?_ ?_
      | refine LeO.bind ?_ (fun _ => ?_)
theorem rle_Spread.mono : ∀ a0 k, LeO (rle_Spread.f k a0) (rle_Spread.f (k + 1) a0) := by
  intro a0 k
  have ih0 := rle_Spread.mono_l k
  unfold rle_Spread.f
  repeat' first
      | (with_reducible exact ih0 _ _ _ _)
      | (with_reducible exact LeO.refl _)
      | (with_reducible exact LeO.none _)
      | (with_reducible refine LeO.ite ?_ ?_)
      | (with_reducible refine LeO.bind ?_ (fun _ => ?_))
      | exact ih0 _ _ _ _
      | exact LeO.none _
      | refine LeO.ite ?_ ?_
      | refine LeO.bind ?_ (fun _ => ?_)
set_option maxHeartbeats 8000000 in
set_option maxRecDepth 100000 in
theorem rle_Spread.calls (k : Nat) (A0 : Option Addr) (c0 : Nat) (l0 : List (S49)) (r : List (S32)) (w : World) (hr0 : Kd.C k49 w A0 l0.length l0) (hc0 : l0.length ≤ c0) (h : rle_Spread.f k l0 = some r) :
    Calls Try.prog 27 #[.slice A0 l0.length c0] w fun e w' => ∃ v0_ : Value, e = .returned (v0_) ∧ Kd.R k32 32 w' w.heap.size (fun _ => True) v0_ r ∧ Below w.heap.size w w' := by
  have hu49 := Try.underlying49
  have hu32 := Try.underlying32
  have HR0 := Aside0.mk hr0
  have HC0 := Aside0.mk hc0
  clear hr0 hc0
  have HB := Aside0.mk (Below.refl w.heap.size w)
  have H : (rle_Spread.l0 k ([] : List (S32)) l0 (l0.length : Int) 0) = some r := h
  clear h
  have H' := Aside0.mk H
  clear H
  go_enter Try.func27, Try.ntmps27
  go_wp2
  go_loopg [3, 8] k (fun kq v3 v8 w' => ∃ (x3_1 : List (S32)) (x8_1 : Int), v8 = .int .i64 x8_1 ∧ Aside0 (rle_Spread.l0 kq x3_1 l0 (l0.length : Int) x8_1 = some r) ∧ Aside0 (kq ≤ k) ∧ Aside0 (Kd.R k32 32 w' w.heap.size (fun _ => True) v3 x3_1) ∧ Aside0 (Below w.heap.size w w'))
  case atStart => exact ⟨(([] : List (S32))), (0), (by first | rfl | (simp; done) | (simp [*]; done)), H', ⟨Nat.le_refl _⟩, ⟨by first | exact Kd.R_nil _ _ _ _ _ | exact Kd.N_nil _ _ _ _ _ | exact Kd.V_nil _ _ _ _ _ | exact Kd.Q_nil _ _ _ _ _ | exact Kd.S_nil _ _ _ _ _⟩, ⟨by repeat (first | (with_reducible first | exact HB.out | apply below_alloc | apply pw_below_drewN | apply below_drew1) | exact HB.out)⟩⟩
  case round =>
    clear H'
    obtain ⟨x3_1, x8_1, rfl, HA, HK1, HO_3, HB⟩ := hrel
    cases gk with
    | zero => exact absurd HA.out (by simp [rle_Spread.l0])
    | succ k1 =>
      have H := HA.out
      clear HA
      simp only [rle_Spread.l0] at H
      by_cases c2 : x8_1 < (l0.length : Int)
      · rw [if_pos c2] at H
        have c2b0 : decide (x8_1 < (l0.length : Int)) = true := decide_eq_true c2
        clear c2
        by_cases c3 : 0 ≤ x8_1
        · rw [if_pos c3] at H
          have c3b0 : decide (0 ≤ x8_1) = true := decide_eq_true c3
          clear c3
          by_cases c4 : x8_1 < (l0.length : Int)
          · rw [if_pos c4] at H
            have c4b0 : decide (x8_1 < (l0.length : Int)) = true := decide_eq_true c4
            clear c4
            obtain ⟨y166, hy166⟩ : ∃ y_ : List (S32), y_ = (([(⟨(rd_T49 l0 x8_1).f1.f0, (rd_T49 l0 x8_1).f1.f1, (rd_T49 l0 x8_1).f1.f2⟩ : S32)] : List (S32))) := ⟨_, rfl⟩
            replace H : ((api_Val_49.f y166 (mn (mx ((rd_T49 l0 x8_1).f0) 0) (wrap64 (4096 - (x3_1.length : Int))))).bind fun t169 => (if x3_1.length + t169.length < 4398046511104 then (rle_Spread.l0 k1 (x3_1 ++ t169) l0 (l0.length : Int) (wrap64 (x8_1 + 1))) else (none))) = some r := by first | (rw [hy166]; with_reducible exact H) | (have H2_ := (Option.bind_some _ _).symm.trans H; rw [hy166]; with_reducible exact H2_) | (have H2_ := (Option.bind_some _ _).symm.trans H; with_reducible exact H2_) | with_reducible exact H | (rw [hy166]; exact H) | exact H
            have Ny166 := Aside0.mk hy166
            clear hy166
            obtain ⟨ji5, hji5⟩ : ∃ j_ : Int, (mx ((rd_T49 l0 x8_1).f0) 0) = j_ := ⟨_, rfl⟩
            replace H : ((api_Val_49.f y166 (mn (ji5) (wrap64 (4096 - (x3_1.length : Int))))).bind fun t169 => (if x3_1.length + t169.length < 4398046511104 then (rle_Spread.l0 k1 (x3_1 ++ t169) l0 (l0.length : Int) (wrap64 (x8_1 + 1))) else (none))) = some r := by first | (rw [hji5] at H; exact H) | (simp only [hji5] at H ⊢; exact H)
            have hji5_ : (if ((rd_T49 l0 x8_1).f0) < 0 then 0 else ((rd_T49 l0 x8_1).f0)) = ji5 := hji5
            obtain ⟨ji6, hji6⟩ : ∃ j_ : Int, (mn (ji5) (wrap64 (4096 - (x3_1.length : Int)))) = j_ := ⟨_, rfl⟩
            replace H : ((api_Val_49.f y166 (ji6)).bind fun t169 => (if x3_1.length + t169.length < 4398046511104 then (rle_Spread.l0 k1 (x3_1 ++ t169) l0 (l0.length : Int) (wrap64 (x8_1 + 1))) else (none))) = some r := by first | (rw [hji6] at H; exact H) | (simp only [hji6] at H ⊢; exact H)
            have hji6_ : (if (wrap64 (4096 - (x3_1.length : Int))) < (ji5) then (wrap64 (4096 - (x3_1.length : Int))) else (ji5)) = ji6 := hji6
            replace H := Option.bind_eq_some_iff.mp H
            obtain ⟨t169, A70, H⟩ := H
            replace H : (if x3_1.length + t169.length < 4398046511104 then (rle_Spread.l0 k1 (x3_1 ++ t169) l0 (l0.length : Int) (wrap64 (x8_1 + 1))) else (none)) = some r := H
            have A7 := Aside0.mk A70
            clear A70
            by_cases c8 : x3_1.length + t169.length < 4398046511104
            · rw [if_pos c8] at H
              have LMc8 := Aside0.mk c8
              clear c8
              obtain ⟨y172, hy172⟩ : ∃ y_ : List (S32), y_ = (x3_1 ++ t169) := ⟨_, rfl⟩
              replace H : (rle_Spread.l0 k1 y172 l0 (l0.length : Int) (wrap64 (x8_1 + 1))) = some r := by first | (rw [hy172]; with_reducible exact H) | (have H2_ := (Option.bind_some _ _).symm.trans H; rw [hy172]; with_reducible exact H2_) | (have H2_ := (Option.bind_some _ _).symm.trans H; with_reducible exact H2_) | with_reducible exact H | (rw [hy172]; exact H) | exact H
              have Ny172 := Aside0.mk hy172
              clear hy172
              have H' := Aside0.mk H
              clear H
              have p164 : 0 ≤ (x8_1 : Int) := of_decide_eq_true (by first | (with_reducible assumption) | assumption)
              have q164 : x8_1 < (l0.length : Int) := of_decide_eq_true (by first | (with_reducible assumption) | assumption)
              obtain ⟨ad164, e164, hx164_0, hx164_1, hx164_2, hx164_3⟩ := at_T49 HR0.out x8_1 p164 q164
              cases e164
              replace hx164_0 := (HB.out.cell (World.block_lt_of_cell? w _ hx164_0)).trans hx164_0
              replace hx164_1 := (HB.out.cell (World.block_lt_of_cell? w _ hx164_1)).trans hx164_1
              replace hx164_2 := (HB.out.cell (World.block_lt_of_cell? w _ hx164_2)).trans hx164_2
              replace hx164_3 := (HB.out.cell (World.block_lt_of_cell? w _ hx164_3)).trans hx164_3
              replace p164 := eq_true p164
              replace q164 := eq_true q164
              go_wp2_with (first | ((with_reducible refine gate_dst (N := 5) rfl ?_); refine box_event ?hg (N := 5) ?hd (cs := #[.int .i64 0, .int .i64 0, .int .i64 0, .string (⟨#[]⟩ : ByteArray)]) (t := 49) ?hr ?_; (case hd => rfl); (case hg => rfl); (case hr => first | (go_simp; done) | (go_simp; rfl)); intro gb165 hg w9 hbox hb; have n0_ := Aside0.mk (Kd.R_below (by (with_reducible repeat (first | apply Kd.R_alloc | apply Kd.R_drewN | apply Kd.R_drew)); exact HO_3.out) hb); have n1_ := Aside0.mk (below_step (by repeat (first | (with_reducible first | exact HB.out | apply below_alloc | apply pw_below_drewN | apply below_drew1) | exact HB.out)) hb); have n2_ := Aside0.mk (hbox); have n3_ := Aside0.mk ((by rw [hg]; exact (below_size (by repeat (first | (with_reducible first | exact HB.out | apply below_alloc | apply pw_below_drewN | apply below_drew1) | exact HB.out))) : w.heap.size ≤ gb165)); have n4_ := Aside0.mk ((by rw [hg]; exact (below_size (by repeat (first | (with_reducible first | exact HB.out | apply below_alloc | apply pw_below_drewN | apply below_drew1) | exact HB.out))) : w.heap.size ≤ gb165)); clear HO_3; clear HB; have HO_3 := n0_; have HB := n1_; have BK165 := n2_; have GW165 := n3_; have GE165 := n4_; clear n0_ n1_ n2_ n3_ n4_; clear hb hbox hg; have hcz10_0 : w9.cell? ⟨gb165, 0, none⟩ = some (.int .i64 0) := (blk_cell BK165.out 0).trans rfl; have hcz10_1 : w9.cell? ⟨gb165, 1, none⟩ = some (.int .i64 0) := (blk_cell BK165.out 1).trans rfl; have hcz10_2 : w9.cell? ⟨gb165, 2, none⟩ = some (.int .i64 0) := (blk_cell BK165.out 2).trans rfl; have hcz10_3 : w9.cell? ⟨gb165, 3, none⟩ = some (.string (⟨#[]⟩ : ByteArray)) := (blk_cell BK165.out 3).trans rfl; have hfz10_0 := blk_frozen BK165.out 0; have hfz10_1 := blk_frozen BK165.out 1; have hfz10_2 := blk_frozen BK165.out 2; have hfz10_3 := blk_frozen BK165.out 3) | ((with_reducible refine gate_dst (N := 15) rfl ?_); refine Kd.R_lit k32 _ 32 ?hg (N := 15) ?hd (xs := ([(⟨(rd_T49 l0 x8_1).f1.f0, (rd_T49 l0 x8_1).f1.f1, (rd_T49 l0 x8_1).f1.f2⟩ : S32)] : List (S32))) (inner := [.int .i64 ((rd_T49 l0 x8_1).f1.f0), .int .i64 ((rd_T49 l0 x8_1).f1.f1), .string ((rd_T49 l0 x8_1).f1.f2)]) (ok := fun _ => True) (okp := fun _ => True) ?hr ?hp (fun _ hk => hk) trivial (Below.refl _ _) (Nat.le_refl _) (by simp) ?_; (case hd => rfl); (case hg => rfl); (case hr => first | (go_simp; done) | (go_simp; rfl)); (case hp => exact (Reps.c3 (show Kd.M k32 _ _ _ (⟨(rd_T49 l0 x8_1).f1.f0, (rd_T49 l0 x8_1).f1.f1, (rd_T49 l0 x8_1).f1.f2⟩ : S32) [.int .i64 ((rd_T49 l0 x8_1).f1.f0), .int .i64 ((rd_T49 l0 x8_1).f1.f1), .string ((rd_T49 l0 x8_1).f1.f2)] from (k32_mkM _ _ _ (⟨(rd_T49 l0 x8_1).f1.f0, (rd_T49 l0 x8_1).f1.f1, (rd_T49 l0 x8_1).f1.f2⟩ : S32) )) (Reps.none _ _))); intro v167 w11 ho12 hb hg_ hnew_; clear hg_ hnew_; (first | rw [← Ny166.out] at ho12 | (simp only [Int.reduceToNat] at ho12; rw [← Ny166.out] at ho12)); have n0_ := Aside0.mk (Kd.R_elder' (by (with_reducible repeat (first | apply Kd.R_alloc | apply Kd.R_drewN | apply Kd.R_drew)); exact (Kd.R_mono (Kd.R_far (p := ⟨gb165, 3, none⟩) (Kd.R_far (p := ⟨gb165, 2, none⟩) (Kd.R_far (p := ⟨gb165, 1, none⟩) (Kd.R_far (p := ⟨gb165, 0, none⟩) (Kd.R_types HO_3.out BK165.out (by decide)) (fun _ hk => hk.2) (.int .i64 ((rd_T49 l0 x8_1).f0))) (fun _ hk => hk.2) (.int .i64 ((rd_T49 l0 x8_1).f1.f0))) (fun _ hk => hk.2) (.int .i64 ((rd_T49 l0 x8_1).f1.f1))) (fun _ hk => hk.2) (.string ((rd_T49 l0 x8_1).f1.f2))) (fun _ h_ => h_.1))) (Kd.R_base ho12) hb); have n1_ := Aside0.mk (Kd.R_lower (Kd.R_new' ho12 (Kd.R_lt (by (with_reducible repeat (first | apply Kd.R_alloc | apply Kd.R_drewN | apply Kd.R_drew)); exact (Kd.R_mono (Kd.R_far (p := ⟨gb165, 3, none⟩) (Kd.R_far (p := ⟨gb165, 2, none⟩) (Kd.R_far (p := ⟨gb165, 1, none⟩) (Kd.R_far (p := ⟨gb165, 0, none⟩) (Kd.R_types HO_3.out BK165.out (by decide)) (fun _ hk => hk.2) (.int .i64 ((rd_T49 l0 x8_1).f0))) (fun _ hk => hk.2) (.int .i64 ((rd_T49 l0 x8_1).f1.f0))) (fun _ hk => hk.2) (.int .i64 ((rd_T49 l0 x8_1).f1.f1))) (fun _ hk => hk.2) (.string ((rd_T49 l0 x8_1).f1.f2))) (fun _ h_ => h_.1))))) (below_size (by repeat (first | (with_reducible first | exact HB.out | apply below_alloc | apply pw_below_drewN | apply below_drew1 | refine below_set ?_ GE165.out) | exact HB.out)))); have n2_ := Aside0.mk (blk_below (g := gb165) (o := .cells #[.int .i64 ((rd_T49 l0 x8_1).f0), .int .i64 ((rd_T49 l0 x8_1).f1.f0), .int .i64 ((rd_T49 l0 x8_1).f1.f1), .string ((rd_T49 l0 x8_1).f1.f2)] 49 (0, 0)) (by (with_reducible repeat (first | refine blk_drewN ?_ _ | refine blk_drew ?_ | refine blk_alloc ?_ _)); refine blk_put (cs := #[.int .i64 ((rd_T49 l0 x8_1).f0), .int .i64 ((rd_T49 l0 x8_1).f1.f0), .int .i64 ((rd_T49 l0 x8_1).f1.f1), .string (⟨#[]⟩ : ByteArray)]) ?_ 3 _ rfl; (with_reducible repeat (first | refine blk_drewN ?_ _ | refine blk_drew ?_ | refine blk_alloc ?_ _)); refine blk_put (cs := #[.int .i64 ((rd_T49 l0 x8_1).f0), .int .i64 ((rd_T49 l0 x8_1).f1.f0), .int .i64 0, .string (⟨#[]⟩ : ByteArray)]) ?_ 2 _ rfl; (with_reducible repeat (first | refine blk_drewN ?_ _ | refine blk_drew ?_ | refine blk_alloc ?_ _)); refine blk_put (cs := #[.int .i64 ((rd_T49 l0 x8_1).f0), .int .i64 0, .int .i64 0, .string (⟨#[]⟩ : ByteArray)]) ?_ 1 _ rfl; (with_reducible repeat (first | refine blk_drewN ?_ _ | refine blk_drew ?_ | refine blk_alloc ?_ _)); refine blk_put (cs := #[.int .i64 0, .int .i64 0, .int .i64 0, .string (⟨#[]⟩ : ByteArray)]) ?_ 0 _ rfl; (with_reducible repeat (first | refine blk_drewN ?_ _ | refine blk_drew ?_ | refine blk_alloc ?_ _)); exact BK165.out) hb); have n3_ := Aside0.mk (below_step (by repeat (first | (with_reducible first | exact HB.out | apply below_alloc | apply pw_below_drewN | apply below_drew1 | refine below_set ?_ GE165.out) | exact HB.out)) hb); clear HO_3; clear BK165; clear HB; have HO_3 := n0_; have HO168 := n1_; have BK165 := n2_; have HB := n3_; clear n0_ n1_ n2_ n3_; clear hb ho12; have hcz13_0 : w11.cell? ⟨gb165, 0, none⟩ = some (.int .i64 ((rd_T49 l0 x8_1).f0)) := (blk_cell BK165.out 0).trans rfl; have hcz13_1 : w11.cell? ⟨gb165, 1, none⟩ = some (.int .i64 ((rd_T49 l0 x8_1).f1.f0)) := (blk_cell BK165.out 1).trans rfl; have hcz13_2 : w11.cell? ⟨gb165, 2, none⟩ = some (.int .i64 ((rd_T49 l0 x8_1).f1.f1)) := (blk_cell BK165.out 2).trans rfl; have hcz13_3 : w11.cell? ⟨gb165, 3, none⟩ = some (.string ((rd_T49 l0 x8_1).f1.f2)) := (blk_cell BK165.out 3).trans rfl; have hfz13_0 := blk_frozen BK165.out 0; have hfz13_1 := blk_frozen BK165.out 1; have hfz13_2 := blk_frozen BK165.out 2; have hfz13_3 := blk_frozen BK165.out 3; obtain ⟨Ao14, co14, eo14⟩ := Kd.R_slice HO_3.out; subst eo14; obtain ⟨Ao15, co15, eo15⟩ := Kd.R_slice HO168.out; subst eo15) | ((with_reducible refine gate_callee (f := 49) rfl ?_); refine goesL_ (some 23) rfl rfl Try.func49 (by kernel_rfl) rfl #[.slice Ao15 y166.length co15, .int .i64 ji6] rfl (by (try simp only [List.map_toArray, List.map_cons, List.map_nil]); first | done | (simp only [hji6]; rfl) | rfl | (simp only [List.length_drop, List.length_take]; rfl)) ?_; (with_reducible refine (api_Val_49.calls _ _ y166 ji6 t169 _ ?side1 ?side2 A7.out).mono ?_); (case side1 => repeat (first | exact (Kd.R_reads' HO168.out).2.2 | (with_reducible refine Kd.C_alloc ?_ _) | (with_reducible refine Kd.C_drewN ?_ _) | (with_reducible refine Kd.C_drew ?_))); (case side2 => exact (Kd.R_reads' HO168.out).2.1); rintro e w16 ⟨v170, rfl, ho0, hb⟩; refine ⟨_, rfl, ?_⟩; have n0_ := Aside0.mk (Kd.R_elder' (by (with_reducible repeat (first | apply Kd.R_alloc | apply Kd.R_drewN | apply Kd.R_drew)); exact HO_3.out) (Kd.R_base ho0) hb); have n1_ := Aside0.mk (Kd.R_elder' (by (with_reducible repeat (first | apply Kd.R_alloc | apply Kd.R_drewN | apply Kd.R_drew)); exact HO168.out) (Kd.R_base ho0) hb); have n2_ := Aside0.mk (Kd.R_lower (Kd.R_new' (Kd.R_new' ho0 (Kd.R_lt (by (with_reducible repeat (first | apply Kd.R_alloc | apply Kd.R_drewN | apply Kd.R_drew)); exact HO_3.out))) (Kd.R_lt (by (with_reducible repeat (first | apply Kd.R_alloc | apply Kd.R_drewN | apply Kd.R_drew)); exact HO168.out))) (below_size (by repeat (first | (with_reducible first | exact HB.out | apply below_alloc | apply pw_below_drewN | apply below_drew1 | refine below_set ?_ GE165.out) | exact HB.out)))); have n3_ := Aside0.mk (blk_below (g := gb165) (o := .cells #[.int .i64 ((rd_T49 l0 x8_1).f0), .int .i64 ((rd_T49 l0 x8_1).f1.f0), .int .i64 ((rd_T49 l0 x8_1).f1.f1), .string ((rd_T49 l0 x8_1).f1.f2)] 49 (0, 0)) (by (with_reducible repeat (first | refine blk_drewN ?_ _ | refine blk_drew ?_ | refine blk_alloc ?_ _)); exact BK165.out) hb); have n4_ := Aside0.mk (below_step (by repeat (first | (with_reducible first | exact HB.out | apply below_alloc | apply pw_below_drewN | apply below_drew1 | refine below_set ?_ GE165.out) | exact HB.out)) hb); clear HO_3; clear HO168; clear BK165; clear HB; have HO_3 := n0_; have HO168 := n1_; have HO171 := n2_; have BK165 := n3_; have HB := n4_; clear n0_ n1_ n2_ n3_ n4_; (try clear hb); (try clear hb2); (try clear hk); (try clear hi); (try clear ho0); obtain ⟨Ao18, co18, eo18⟩ := Kd.R_slice HO171.out; subst eo18) | ((with_reducible refine gate_builtin (b := .append) (xs := #[.tmp 12, .tmp 23]) rfl ?_); at_builtin; refine Kd.R_append_rows k32 (w0 := w) w.heap.size rfl (.tmp 12) (.tmp 23) 22 32 (.agg #[(.int .i64 0), (.int .i64 0), (.string ⟨#[]⟩)]) 32 rfl Try.underlying22 info32 rfl (by decide) (by omega) (.slice Ao14 x3_1.length co14) x3_1 t169 _ _ _ (fun k_ => some k_ ≠ (.slice Ao15 y166.length co15 : Value).ownBlock ∧ some k_ ≠ (.slice Ao18 t169.length co18 : Value).ownBlock) (fun _ => False) rfl rfl ?aO ?aR (fun _ _ h => h) (fun _ h => h.elim) ?aF ?aB ?aS ?aL ?_; (case aR => repeat (first | exact (Kd.R_reads' HO171.out).2.2 | (with_reducible refine Kd.C_alloc ?_ _) | (with_reducible refine Kd.C_drewN ?_ _) | (with_reducible refine Kd.C_drew ?_))); (case aB => exact (by repeat (first | (with_reducible first | exact HB.out | apply below_alloc | apply pw_below_drewN | apply below_drew1 | refine below_set ?_ GE165.out) | exact HB.out))); (case aF => exact (fun k_ hk => ⟨Kd.fresh' (Kd.R_lt (by (with_reducible repeat (first | apply Kd.R_alloc | apply Kd.R_drewN | apply Kd.R_drew)); exact HO168.out)) k_ hk, Kd.fresh' (Kd.R_lt (by (with_reducible repeat (first | apply Kd.R_alloc | apply Kd.R_drewN | apply Kd.R_drew)); exact HO171.out)) k_ hk⟩)); (case aO => exact (by (with_reducible repeat (first | apply Kd.R_alloc | apply Kd.R_drewN | apply Kd.R_drew)); exact Kd.R_mono HO_3.out (fun _ hk => ⟨hk.1.2, hk.2⟩))); (case aS => exact (below_size (by repeat (first | (with_reducible first | exact HB.out | apply below_alloc | apply pw_below_drewN | apply below_drew1 | refine below_set ?_ GE165.out) | exact HB.out)))); (case aL => have := LMc8.out; omega); intro v173 w17 ho hb hg hat; rw [← Ny172.out] at ho; have n0_ := Aside0.mk (blk_grown (g := gb165) (o := .cells #[.int .i64 ((rd_T49 l0 x8_1).f0), .int .i64 ((rd_T49 l0 x8_1).f1.f0), .int .i64 ((rd_T49 l0 x8_1).f1.f1), .string ((rd_T49 l0 x8_1).f1.f2)] 49 (0, 0)) (by (with_reducible repeat (first | refine blk_drewN ?_ _ | refine blk_drew ?_ | refine blk_alloc ?_ _)); exact BK165.out) hg (Kd.R_ne HO_3.out BK165.out (by decide))); have n1_ := Aside0.mk (Kd.R_after (ok := (fun k_ => some k_ ≠ (.slice Ao18 t169.length co18 : Value).ownBlock)) (by (with_reducible repeat (first | apply Kd.R_alloc | apply Kd.R_drewN | apply Kd.R_drew)); exact Kd.R_mono HO168.out (fun _ hk => ⟨hk.2, hk.1.2⟩)) hg hat); have n2_ := Aside0.mk (Kd.R_after (ok := (fun k_ => some k_ ≠ (.slice Ao15 y166.length co15 : Value).ownBlock)) (by (with_reducible repeat (first | apply Kd.R_alloc | apply Kd.R_drewN | apply Kd.R_drew)); exact Kd.R_mono HO171.out (fun _ hk => ⟨hk.2, hk.1.2⟩)) hg hat); have n3_ := Aside0.mk (hb); have n4_ := Aside0.mk (ho); clear BK165; clear HO168; clear HO171; clear HB; clear HO_3; have BK165 := n0_; have HO168 := n1_; have HO171 := n2_; have HB := n3_; have HO174 := n4_; clear n0_ n1_ n2_ n3_ n4_; clear ho hb hg hat))
              go_roundg k1
              case measure => have := HK1.out; omega
              case rel => exact ⟨(y172), (wrap64 (x8_1 + 1)), (by first | rfl | (simp; done) | (simp [*]; done)), H', ⟨by have := HK1.out; omega⟩, ⟨by (with_reducible repeat (first | apply Kd.R_alloc | apply Kd.R_drewN | apply Kd.R_drew)); exact Kd.R_mono HO174.out (fun _ hk => trivial)⟩, ⟨by repeat (first | (with_reducible first | exact HB.out | apply below_alloc | apply pw_below_drewN | apply below_drew1 | refine below_set ?_ GE165.out) | exact HB.out)⟩⟩
            · rw [if_neg c8] at H
              exact absurd H (by simp)
          · rw [if_neg c4] at H
            exact absurd H (by simp)
        · rw [if_neg c3] at H
          exact absurd H (by simp)
      · rw [if_neg c2] at H
        have c2b0 : decide (x8_1 < (l0.length : Int)) = false := decide_eq_false c2
        clear c2
        obtain rfl := Option.some.inj H
        go_wp2
        go_ret
        exact ⟨_, by first | rfl | (simp [errW_none, errW_some] <;> rfl) | (simp [*, errW_none, errW_some] <;> rfl), by (with_reducible repeat (first | apply Kd.R_alloc | apply Kd.R_drewN | apply Kd.R_drew)); exact HO_3.out, by repeat (first | (with_reducible first | exact HB.out | apply below_alloc | apply pw_below_drewN | apply below_drew1) | exact HB.out)⟩

/-! ### law08_RleSorted: function 11 -/
mutual
def law08_RleSorted.l0 : Nat → List Int → Bool → List (S32) → Int → Int → Option (Bool)
  | 0, _, _, _, _, _ => none
  | k + 1, x0, x3, x4, x5, x6 => if x6 < 256 then (law08_RleSorted.l1 k x0 x3 x4 x5 x6 false 0) else (if x3 = true then ((rle_Runs.f k x4).bind fun t180 => (if (t180.length : Int) = x5 then ((rle_Runs.f k x4).bind fun t183 => ((rle_Spread.f k t183).bind fun t186 => ((ref05_Same.f k t186 x4).bind fun t189 => (some t189)))) else (some false))) else (some false))
def law08_RleSorted.l1 : Nat → List Int → Bool → List (S32) → Int → Int → Bool → Int → Option (Bool)
  | 0, _, _, _, _, _, _, _ => none
  | k + 1, x0, x3, x4, x5, x6, x7, x8 => if x8 < (x0.length : Int) then (law08_RleSorted.j2 k x0 x3 x4 x5 x6 x7 x8 (decide (x8 < 300))) else (law08_RleSorted.j2 k x0 x3 x4 x5 x6 x7 x8 false)
def law08_RleSorted.j2 : Nat → List Int → Bool → List (S32) → Int → Int → Bool → Int → Bool → Option (Bool)
  | 0, _, _, _, _, _, _, _, _ => none
  | k + 1, x0, x3, x4, x5, x6, x7, x8, x21 => if x21 = true then (if 0 ≤ x8 then (if x8 < (x0.length : Int) then (if (wrap64 (rd x0 x8)) = x6 then (if x4.length < 4398046511104 then (law08_RleSorted.l1 k x0 x3 (x4 ++ [(⟨1, x6, (⟨#[]⟩ : ByteArray)⟩ : S32)]) x5 x6 true (wrap64 (x8 + 1))) else (none)) else (law08_RleSorted.l1 k x0 x3 x4 x5 x6 x7 (wrap64 (x8 + 1)))) else (none)) else (none)) else (if x7 = true then (law08_RleSorted.l0 k x0 x3 x4 (wrap64 (x5 + 1)) (wrap64 (x6 + 1))) else (law08_RleSorted.l0 k x0 x3 x4 x5 (wrap64 (x6 + 1))))
end
def law08_RleSorted.f (k : Nat) (l0 : List Int) : Option (Bool) := (law08_shown.f).bind fun t175 => (law08_RleSorted.l0 k l0 t175 ([] : List (S32)) 0 0)
theorem law08_RleSorted.mono_l : ∀ k, (∀ y0 y1 y2 y3 y4, LeO (law08_RleSorted.l0 k y0 y1 y2 y3 y4) (law08_RleSorted.l0 (k + 1) y0 y1 y2 y3 y4)) ∧ (∀ y0 y1 y2 y3 y4 y5 y6, LeO (law08_RleSorted.l1 k y0 y1 y2 y3 y4 y5 y6) (law08_RleSorted.l1 (k + 1) y0 y1 y2 y3 y4 y5 y6)) ∧ (∀ y0 y1 y2 y3 y4 y5 y6 y7, LeO (law08_RleSorted.j2 k y0 y1 y2 y3 y4 y5 y6 y7) (law08_RleSorted.j2 (k + 1) y0 y1 y2 y3 y4 y5 y6 y7))
  | 0 => ⟨fun _ _ _ _ _ r h => by simp [law08_RleSorted.l0] at h, fun _ _ _ _ _ _ _ r h => by simp [law08_RleSorted.l1] at h, fun _ _ _ _ _ _ _ _ r h => by simp [law08_RleSorted.j2] at h⟩
  | k + 1 => by
    obtain ⟨ih0, ih1, ih2⟩ := law08_RleSorted.mono_l k
    refine ⟨?_, ?_, ?_⟩
    · intro y0 y1 y2 y3 y4
      unfold law08_RleSorted.l0
      repeat' first
      | (with_reducible exact ih0 _ _ _ _ _)
      | (with_reducible exact ih1 _ _ _ _ _ _ _)
      | (with_reducible exact ih2 _ _ _ _ _ _ _ _)
      | (with_reducible exact ref05_Same.mono _ _ _)
      | (with_reducible exact rle_Runs.mono _ _)
      | (with_reducible exact rle_Spread.mono _ _)
      | (with_reducible exact LeO.refl _)
      | (with_reducible exact LeO.none _)
      | (with_reducible refine LeO.ite ?_ ?_)
      | (with_reducible refine LeO.bind ?_ (fun _ => ?_))
      | exact ih0 _ _ _ _ _
      | exact ih1 _ _ _ _ _ _ _
      | exact ih2 _ _ _ _ _ _ _ _
      | exact ref05_Same.mono _ _ _
      | exact rle_Runs.mono _ _
      | exact rle_Spread.mono _ _
      | exact LeO.none _
      | refine LeO.ite ?_ ?_
      | refine LeO.bind ?_ (fun _ => ?_)
    · intro y0 y1 y2 y3 y4 y5 y6
      unfold law08_RleSorted.l1
      repeat' first
      | (with_reducible exact ih0 _ _ _ _ _)
      | (with_reducible exact ih1 _ _ _ _ _ _ _)
      | (with_reducible exact ih2 _ _ _ _ _ _ _ _)
      | (with_reducible exact ref05_Same.mono _ _ _)
      | (with_reducible exact rle_Runs.mono _ _)
      | (with_reducible exact rle_Spread.mono _ _)
      | (with_reducible exact LeO.refl _)
      | (with_reducible exact LeO.none _)
      | (with_reducible refine LeO.ite ?_ ?_)
      | (with_reducible refine LeO.bind ?_ (fun _ => ?_))
      | exact ih0 _ _ _ _ _
      | exact ih1 _ _ _ _ _ _ _
      | exact ih2 _ _ _ _ _ _ _ _
      | exact ref05_Same.mono _ _ _
      | exact rle_Runs.mono _ _
      | exact rle_Spread.mono _ _
      | exact LeO.none _
      | refine LeO.ite ?_ ?_
      | refine LeO.bind ?_ (fun _ => ?_)
    · intro y0 y1 y2 y3 y4 y5 y6 y7
      unfold law08_RleSorted.j2
      repeat' first
      | (with_reducible exact ih0 _ _ _ _ _)
      | (with_reducible exact ih1 _ _ _ _ _ _ _)
      | (with_reducible exact ih2 _ _ _ _ _ _ _ _)
      | (with_reducible exact ref05_Same.mono _ _ _)
      | (with_reducible exact rle_Runs.mono _ _)
      | (with_reducible exact rle_Spread.mono _ _)
      | (with_reducible exact LeO.refl _)
      | (with_reducible exact LeO.none _)
      | (with_reducible refine LeO.ite ?_ ?_)
      | (with_reducible refine LeO.bind ?_ (fun _ => ?_))
      | exact ih0 _ _ _ _ _
      | exact ih1 _ _ _ _ _ _ _
      | exact ih2 _ _ _ _ _ _ _ _
      | exact ref05_Same.mono _ _ _
      | exact rle_Runs.mono _ _
      | exact rle_Spread.mono _ _
      | exact LeO.none _
      | refine LeO.ite ?_ ?_
      | refine LeO.bind ?_ (fun _ => ?_)
theorem law08_RleSorted.mono : ∀ a0 k, LeO (law08_RleSorted.f k a0) (law08_RleSorted.f (k + 1) a0) := by
  intro a0 k
  obtain ⟨ih0, ih1, ih2⟩ := law08_RleSorted.mono_l k
  unfold law08_RleSorted.f
  repeat' first
      | (with_reducible exact ih0 _ _ _ _ _)
      | (with_reducible exact ih1 _ _ _ _ _ _ _)
      | (with_reducible exact ih2 _ _ _ _ _ _ _ _)
      | (with_reducible exact ref05_Same.mono _ _ _)
      | (with_reducible exact rle_Runs.mono _ _)
      | (with_reducible exact rle_Spread.mono _ _)
      | (with_reducible exact LeO.refl _)
      | (with_reducible exact LeO.none _)
      | (with_reducible refine LeO.ite ?_ ?_)
      | (with_reducible refine LeO.bind ?_ (fun _ => ?_))
      | exact ih0 _ _ _ _ _
      | exact ih1 _ _ _ _ _ _ _
      | exact ih2 _ _ _ _ _ _ _ _
      | exact ref05_Same.mono _ _ _
      | exact rle_Runs.mono _ _
      | exact rle_Spread.mono _ _
      | exact LeO.none _
      | refine LeO.ite ?_ ?_
      | refine LeO.bind ?_ (fun _ => ?_)
set_option maxHeartbeats 8000000 in
set_option maxRecDepth 100000 in
theorem law08_RleSorted.calls (k : Nat) (A0 : Option Addr) (c0 : Nat) (l0 : List Int) (r : Bool) (w : World) (hr0 : Kd.C (Kd.int .u8) w A0 l0.length l0) (hc0 : l0.length ≤ c0) (hr_ : Aside0 (r = true)) (h : law08_RleSorted.f k l0 = some r) :
    Calls Try.prog 11 #[.slice A0 l0.length c0] w fun e w' => e = .returned (.bool r) ∧ Below w.heap.size w w' := by
  have hu32 := Try.underlying32
  have HR0 := Aside0.mk hr0
  have HC0 := Aside0.mk hc0
  clear hr0 hc0
  have HB := Aside0.mk (Below.refl w.heap.size w)
  have H : ((law08_shown.f).bind fun t175 => (law08_RleSorted.l0 k l0 t175 ([] : List (S32)) 0 0)) = some r := h
  clear h
  replace H := Option.bind_eq_some_iff.mp H
  obtain ⟨t175, A20, H⟩ := H
  replace H : (law08_RleSorted.l0 k l0 t175 ([] : List (S32)) 0 0) = some r := H
  have A2 := Aside0.mk A20
  clear A20
  have H' := Aside0.mk H
  clear H
  go_enter Try.func11, Try.ntmps11
  go_wp2_with (first | ((with_reducible refine gate_callee (f := 23) rfl ?_); refine goesL_ (some 9) rfl rfl Try.func23 (by kernel_rfl) rfl #[] rfl (by (try simp only [List.map_toArray, List.map_cons, List.map_nil]); first | done | rfl | (simp only [List.length_drop, List.length_take]; rfl)) ?_; (with_reducible refine (law08_shown.calls  t175 _ A2.out).mono ?_); rintro e w3 ⟨rfl, hb⟩; (try clear A2); refine ⟨_, rfl, ?_⟩; have n0_ := Aside0.mk (below_step (by repeat (first | (with_reducible first | exact HB.out | apply below_alloc | apply pw_below_drewN | apply below_drew1) | exact HB.out)) hb); clear HB; have HB := n0_; clear n0_; (try clear hb); (try clear hb2); (try clear hk); (try clear hi)))
  go_loopg [4, 5, 6] k (fun kq v4 v5 v6 w' => ∃ (x4_1 : List (S32)) (x5_1 : Int) (x6_1 : Int), v5 = .int .i64 x5_1 ∧ v6 = .int .i64 x6_1 ∧ Aside0 (law08_RleSorted.l0 kq l0 t175 x4_1 x5_1 x6_1 = some r) ∧ Aside0 (kq ≤ k) ∧ Aside0 (Kd.R k32 32 w' w.heap.size (fun _ => True) v4 x4_1) ∧ Aside0 (Below w.heap.size w w'))
  case atStart => exact ⟨(([] : List (S32))), (0), (0), (by first | rfl | (simp; done) | (simp [*]; done)), (by first | rfl | (simp; done) | (simp [*]; done)), H', ⟨Nat.le_refl _⟩, ⟨by first | exact Kd.R_nil _ _ _ _ _ | exact Kd.N_nil _ _ _ _ _ | exact Kd.V_nil _ _ _ _ _ | exact Kd.Q_nil _ _ _ _ _ | exact Kd.S_nil _ _ _ _ _⟩, ⟨by repeat (first | (with_reducible first | exact HB.out | apply below_alloc | apply pw_below_drewN | apply below_drew1) | exact HB.out)⟩⟩
  case round =>
    clear H'
    try clear c1
    try clear c2
    try clear p2
    obtain ⟨x4_1, x5_1, x6_1, rfl, rfl, HA, HK1, HO_4, HB⟩ := hrel
    cases gk with
    | zero => exact absurd HA.out (by simp [law08_RleSorted.l0])
    | succ k1 =>
      have H := HA.out
      clear HA
      simp only [law08_RleSorted.l0] at H
      by_cases c4 : x6_1 < 256
      · rw [if_pos c4] at H
        have c4b0 : decide (x6_1 < 256) = true := decide_eq_true c4
        clear c4
        have H' := Aside0.mk H
        clear H
        go_wp2
        go_loopg [4, 7, 8] k1 (fun kq v4 v7 v8 w' => ∃ (x4_2 : List (S32)) (x7_2 : Bool) (x8_2 : Int), v7 = .bool x7_2 ∧ v8 = .int .i64 x8_2 ∧ Aside0 (law08_RleSorted.l1 kq l0 t175 x4_2 x5_1 x6_1 x7_2 x8_2 = some r) ∧ Aside0 (kq ≤ k1) ∧ Aside0 (Kd.R k32 32 w' w.heap.size (fun _ => True) v4 x4_2) ∧ Aside0 (Below w.heap.size w w'))
        case atStart => exact ⟨(x4_1), (false), (0), (by first | rfl | (simp; done) | (simp [*]; done)), (by first | rfl | (simp; done) | (simp [*]; done)), H', ⟨Nat.le_refl _⟩, ⟨by (with_reducible repeat (first | apply Kd.R_alloc | apply Kd.R_drewN | apply Kd.R_drew)); exact HO_4.out⟩, ⟨by repeat (first | (with_reducible first | exact HB.out | apply below_alloc | apply pw_below_drewN | apply below_drew1) | exact HB.out)⟩⟩
        case round =>
          clear H'
          try clear c1
          try clear c2
          try clear p2
          try clear c4
          try clear c4b0
          try clear p2
          obtain ⟨x4_2, x7_2, x8_2, rfl, rfl, HA, HK2, HO_4, HB⟩ := hrel
          cases gk with
          | zero => exact absurd HA.out (by simp [law08_RleSorted.l1])
          | succ k2 =>
            have H := HA.out
            clear HA
            simp only [law08_RleSorted.l1] at H
            have HC5 := Aside0.mk H
            clear H
            go_upto_region 9 with (fail)
            go_cut [21] (fun v21 wc => ∃ (kq : Nat) (x21_4 : Bool), v21 = .bool x21_4 ∧ Aside0 (law08_RleSorted.j2 kq l0 t175 x4_2 x5_1 x6_1 x7_2 x8_2 x21_4 = some r) ∧ Aside0 (kq ≤ k2) ∧ Aside0 (Kd.R k32 32 wc w.heap.size (fun _ => True) u4 x4_2) ∧ Aside0 (Below w.heap.size w wc))
            case first =>
              have H := HC5.out
              clear HC5
              by_cases c6 : x8_2 < (l0.length : Int)
              · rw [if_pos c6] at H
                have c6b0 : decide (x8_2 < (l0.length : Int)) = true := decide_eq_true c6
                clear c6
                (first | rw [c6b0] | (simp only [i64_w, i32_w]; rw [c6b0]) | skip)
                have H' := Aside0.mk H
                clear H
                go_wp2
                go_meet
                case rel => exact ⟨_, (decide (x8_2 < 300)), (by first | rfl | (simp; done) | (simp [*]; done)), H', ⟨by have := HK1.out; have := HK2.out; first | omega | exact Nat.le_refl _⟩, ⟨by (with_reducible repeat (first | apply Kd.R_alloc | apply Kd.R_drewN | apply Kd.R_drew)); exact HO_4.out⟩, ⟨by repeat (first | (with_reducible first | exact HB.out | apply below_alloc | apply pw_below_drewN | apply below_drew1) | exact HB.out)⟩⟩
              · rw [if_neg c6] at H
                have c6b0 : decide (x8_2 < (l0.length : Int)) = false := decide_eq_false c6
                clear c6
                (first | rw [c6b0] | (simp only [i64_w, i32_w]; rw [c6b0]) | skip)
                have H' := Aside0.mk H
                clear H
                go_wp2
                go_meet
                case rel => exact ⟨_, (false), (by first | rfl | (simp; done) | (simp [*]; done)), H', ⟨by have := HK1.out; have := HK2.out; first | omega | exact Nat.le_refl _⟩, ⟨by (with_reducible repeat (first | apply Kd.R_alloc | apply Kd.R_drewN | apply Kd.R_drew)); exact HO_4.out⟩, ⟨by repeat (first | (with_reducible first | exact HB.out | apply below_alloc | apply pw_below_drewN | apply below_drew1) | exact HB.out)⟩⟩
            case rest =>
              clear HC5
              try clear c1
              try clear c2
              try clear p2
              try clear c4
              try clear c4b0
              try clear c6
              try clear c6b0
              try clear p2
              obtain ⟨kq, x21_4, rfl, HA, HJ4, HO_4, HB⟩ := hcut
              cases kq with
              | zero => exact absurd HA.out (by simp [law08_RleSorted.j2])
              | succ kj4 =>
                have H := HA.out
                clear HA
                simp only [law08_RleSorted.j2] at H
                by_cases c7 : x21_4 = true
                · subst c7
                  have H1 : (if 0 ≤ x8_2 then (if x8_2 < (l0.length : Int) then (if (wrap64 (rd l0 x8_2)) = x6_1 then (if x4_2.length < 4398046511104 then (law08_RleSorted.l1 kj4 l0 t175 (x4_2 ++ [(⟨1, x6_1, (⟨#[]⟩ : ByteArray)⟩ : S32)]) x5_1 x6_1 true (wrap64 (x8_2 + 1))) else (none)) else (law08_RleSorted.l1 kj4 l0 t175 x4_2 x5_1 x6_1 x7_2 (wrap64 (x8_2 + 1)))) else (none)) else (none)) = some r := by rw [if_pos rfl] at H; exact H
                  clear H
                  have H := H1
                  clear H1
                  by_cases c8 : 0 ≤ x8_2
                  · rw [if_pos c8] at H
                    have c8b0 : decide (0 ≤ x8_2) = true := decide_eq_true c8
                    clear c8
                    by_cases c9 : x8_2 < (l0.length : Int)
                    · rw [if_pos c9] at H
                      have c9b0 : decide (x8_2 < (l0.length : Int)) = true := decide_eq_true c9
                      clear c9
                      by_cases c10 : (wrap64 (rd l0 x8_2)) = x6_1
                      · rw [if_pos c10] at H
                        have c10b0 : ((wrap64 (rd l0 x8_2)) == x6_1) = true := beq_iff_eq.mpr c10
                        have c10b1 : ((wrap64 (rd l0 x8_2)) != x6_1) = false := bne_eq_false_iff_eq.mpr c10
                        clear c10
                        by_cases c11 : x4_2.length < 4398046511104
                        · rw [if_pos c11] at H
                          have LMc11 := Aside0.mk c11
                          clear c11
                          obtain ⟨y177, hy177⟩ : ∃ y_ : List (S32), y_ = (x4_2 ++ [(⟨1, x6_1, (⟨#[]⟩ : ByteArray)⟩ : S32)]) := ⟨_, rfl⟩
                          replace H : (law08_RleSorted.l1 kj4 l0 t175 y177 x5_1 x6_1 true (wrap64 (x8_2 + 1))) = some r := by first | (rw [hy177]; with_reducible exact H) | (have H2_ := (Option.bind_some _ _).symm.trans H; rw [hy177]; with_reducible exact H2_) | (have H2_ := (Option.bind_some _ _).symm.trans H; with_reducible exact H2_) | with_reducible exact H | (rw [hy177]; exact H) | exact H
                          have Ny177 := Aside0.mk hy177
                          clear hy177
                          have H' := Aside0.mk H
                          clear H
                          have p176 : 0 ≤ (x8_2 : Int) := of_decide_eq_true (by first | (with_reducible assumption) | assumption)
                          have q176 : x8_2 < (l0.length : Int) := of_decide_eq_true (by first | (with_reducible assumption) | assumption)
                          obtain ⟨ad176, e176, hx176_0⟩ := Kd.at_int HR0.out x8_2 p176 q176
                          cases e176
                          replace hx176_0 := (HB.out.cell (World.block_lt_of_cell? w _ hx176_0)).trans hx176_0
                          replace p176 := eq_true p176
                          replace q176 := eq_true q176
                          go_wp2_with (first | ((with_reducible refine gate_builtin (b := .append) (xs := #[.tmp 31, .tmp 34]) rfl ?_); (try (refine gate_guard (by rfl) ?_; dsimp only)); at_builtin; refine Kd.R_append k32 (w0 := w) w.heap.size rfl (.tmp 31) (.tmp 34) 22 32 (.agg #[(.int .i64 0), (.int .i64 0), (.string ⟨#[]⟩)]) 32 rfl Try.underlying22 info32 rfl (by decide) (by omega) u4 x4_2 (⟨1, x6_1, (⟨#[]⟩ : ByteArray)⟩ : S32) [.int .i64 1, .int .i64 x6_1, .string (⟨#[]⟩ : ByteArray)] (fun _ => True) (fun _ => False) rfl rfl ?aP (fun _ hk => hk.elim) ?aF ?aO ?aB ?aS ?aL ?_; (case aP => exact k32_mkM _ _ _ (⟨1, x6_1, (⟨#[]⟩ : ByteArray)⟩ : S32)); (case aB => exact (by repeat (first | (with_reducible first | exact HB.out | apply below_alloc | apply pw_below_drewN | apply below_drew1) | exact HB.out))); (case aF => exact (fun _ _ => trivial)); (case aO => exact (by (with_reducible repeat (first | apply Kd.R_alloc | apply Kd.R_drewN | apply Kd.R_drew)); exact HO_4.out)); (case aS => exact (below_size (by repeat (first | (with_reducible first | exact HB.out | apply below_alloc | apply pw_below_drewN | apply below_drew1) | exact HB.out)))); (case aL => have := LMc11.out; omega); intro v178 w12 ho hb hg hat; rw [← Ny177.out] at ho; have n0_ := Aside0.mk (hb); have n1_ := Aside0.mk (ho); clear HB; clear HO_4; have HB := n0_; have HO179 := n1_; clear n0_ n1_; clear ho hb hg hat))
                          go_roundg kj4
                          case measure => have := HK1.out; have := HK2.out; have := HJ4.out; omega
                          case rel => exact ⟨(y177), (true), (wrap64 (x8_2 + 1)), (by first | rfl | (simp; done) | (simp [*]; done)), (by first | rfl | (simp; done) | (simp [*]; done)), H', ⟨by have := HK1.out; have := HK2.out; have := HJ4.out; omega⟩, ⟨by (with_reducible repeat (first | apply Kd.R_alloc | apply Kd.R_drewN | apply Kd.R_drew)); exact HO179.out⟩, ⟨by repeat (first | (with_reducible first | exact HB.out | apply below_alloc | apply pw_below_drewN | apply below_drew1) | exact HB.out)⟩⟩
                        · rw [if_neg c11] at H
                          exact absurd H (by simp)
                      · rw [if_neg c10] at H
                        have c10b0 : ((wrap64 (rd l0 x8_2)) == x6_1) = false := beq_eq_false_iff_ne.mpr c10
                        have c10b1 : ((wrap64 (rd l0 x8_2)) != x6_1) = true := bne_iff_ne.mpr c10
                        have H' := Aside0.mk H
                        clear H
                        have p176 : 0 ≤ (x8_2 : Int) := of_decide_eq_true (by first | (with_reducible assumption) | assumption)
                        have q176 : x8_2 < (l0.length : Int) := of_decide_eq_true (by first | (with_reducible assumption) | assumption)
                        obtain ⟨ad176, e176, hx176_0⟩ := Kd.at_int HR0.out x8_2 p176 q176
                        cases e176
                        replace hx176_0 := (HB.out.cell (World.block_lt_of_cell? w _ hx176_0)).trans hx176_0
                        replace p176 := eq_true p176
                        replace q176 := eq_true q176
                        go_wp2
                        go_roundg kj4
                        case measure => have := HK1.out; have := HK2.out; have := HJ4.out; omega
                        case rel => exact ⟨(x4_2), (x7_2), (wrap64 (x8_2 + 1)), (by first | rfl | (simp; done) | (simp [*]; done)), (by first | rfl | (simp; done) | (simp [*]; done)), H', ⟨by have := HK1.out; have := HK2.out; have := HJ4.out; omega⟩, ⟨by (with_reducible repeat (first | apply Kd.R_alloc | apply Kd.R_drewN | apply Kd.R_drew)); exact HO_4.out⟩, ⟨by repeat (first | (with_reducible first | exact HB.out | apply below_alloc | apply pw_below_drewN | apply below_drew1) | exact HB.out)⟩⟩
                    · rw [if_neg c9] at H
                      exact absurd H (by simp)
                  · rw [if_neg c8] at H
                    exact absurd H (by simp)
                · replace c7 := Bool.eq_false_iff.mpr c7
                  subst c7
                  have H1 : (if x7_2 = true then (law08_RleSorted.l0 kj4 l0 t175 x4_2 (wrap64 (x5_1 + 1)) (wrap64 (x6_1 + 1))) else (law08_RleSorted.l0 kj4 l0 t175 x4_2 x5_1 (wrap64 (x6_1 + 1)))) = some r := by rw [if_neg (show ¬ (false = true) by decide)] at H; exact H
                  clear H
                  have H := H1
                  clear H1
                  by_cases c13 : x7_2 = true
                  · subst c13
                    have H1 : (law08_RleSorted.l0 kj4 l0 t175 x4_2 (wrap64 (x5_1 + 1)) (wrap64 (x6_1 + 1))) = some r := by rw [if_pos rfl] at H; exact H
                    clear H
                    have H := H1
                    clear H1
                    have H' := Aside0.mk H
                    clear H
                    go_wp2
                    go_roundg kj4
                    case measure => have := HK1.out; have := HK2.out; have := HJ4.out; omega
                    case rel => exact ⟨(x4_2), (wrap64 (x5_1 + 1)), (wrap64 (x6_1 + 1)), (by first | rfl | (simp; done) | (simp [*]; done)), (by first | rfl | (simp; done) | (simp [*]; done)), H', ⟨by have := HK1.out; have := HK2.out; have := HJ4.out; omega⟩, ⟨by (with_reducible repeat (first | apply Kd.R_alloc | apply Kd.R_drewN | apply Kd.R_drew)); exact HO_4.out⟩, ⟨by repeat (first | (with_reducible first | exact HB.out | apply below_alloc | apply pw_below_drewN | apply below_drew1) | exact HB.out)⟩⟩
                  · replace c13 := Bool.eq_false_iff.mpr c13
                    subst c13
                    have H1 : (law08_RleSorted.l0 kj4 l0 t175 x4_2 x5_1 (wrap64 (x6_1 + 1))) = some r := by rw [if_neg (show ¬ (false = true) by decide)] at H; exact H
                    clear H
                    have H := H1
                    clear H1
                    have H' := Aside0.mk H
                    clear H
                    go_wp2
                    go_roundg kj4
                    case measure => have := HK1.out; have := HK2.out; have := HJ4.out; omega
                    case rel => exact ⟨(x4_2), (x5_1), (wrap64 (x6_1 + 1)), (by first | rfl | (simp; done) | (simp [*]; done)), (by first | rfl | (simp; done) | (simp [*]; done)), H', ⟨by have := HK1.out; have := HK2.out; have := HJ4.out; omega⟩, ⟨by (with_reducible repeat (first | apply Kd.R_alloc | apply Kd.R_drewN | apply Kd.R_drew)); exact HO_4.out⟩, ⟨by repeat (first | (with_reducible first | exact HB.out | apply below_alloc | apply pw_below_drewN | apply below_drew1) | exact HB.out)⟩⟩
      · rw [if_neg c4] at H
        have c4b0 : decide (x6_1 < 256) = false := decide_eq_false c4
        clear c4
        by_cases c14 : t175 = true
        · subst c14
          have H1 : ((rle_Runs.f k1 x4_1).bind fun t180 => (if (t180.length : Int) = x5_1 then ((rle_Runs.f k1 x4_1).bind fun t183 => ((rle_Spread.f k1 t183).bind fun t186 => ((ref05_Same.f k1 t186 x4_1).bind fun t189 => (some t189)))) else (some false))) = some r := by rw [if_pos rfl] at H; exact H
          clear H
          have H := H1
          clear H1
          replace H := Option.bind_eq_some_iff.mp H
          obtain ⟨t180, A150, H⟩ := H
          replace H : (if (t180.length : Int) = x5_1 then ((rle_Runs.f k1 x4_1).bind fun t183 => ((rle_Spread.f k1 t183).bind fun t186 => ((ref05_Same.f k1 t186 x4_1).bind fun t189 => (some t189)))) else (some false)) = some r := H
          have A15 := Aside0.mk A150
          clear A150
          by_cases c16 : (t180.length : Int) = x5_1
          · rw [if_pos c16] at H
            have c16b0 : ((t180.length : Int) == x5_1) = true := beq_iff_eq.mpr c16
            have c16b1 : ((t180.length : Int) != x5_1) = false := bne_eq_false_iff_eq.mpr c16
            clear c16
            replace H := Option.bind_eq_some_iff.mp H
            obtain ⟨t183, A170, H⟩ := H
            replace H : ((rle_Spread.f k1 t183).bind fun t186 => ((ref05_Same.f k1 t186 x4_1).bind fun t189 => (some t189))) = some r := H
            have A17 := Aside0.mk A170
            clear A170
            replace H := Option.bind_eq_some_iff.mp H
            obtain ⟨t186, A180, H⟩ := H
            replace H : ((ref05_Same.f k1 t186 x4_1).bind fun t189 => (some t189)) = some r := H
            have A18 := Aside0.mk A180
            clear A180
            replace H := Option.bind_eq_some_iff.mp H
            obtain ⟨t189, A190, H⟩ := H
            replace H : (some t189) = some r := H
            have A19 := Aside0.mk A190
            clear A190
            obtain rfl := Option.some.inj H
            obtain ⟨Ao20, co20, eo20⟩ := Kd.R_slice HO_4.out
            subst eo20
            go_wp2_with (first | (go_at_call 26; (with_reducible refine (rle_Runs.calls k1 _ _ x4_1 t180 _ ?side1 ?side2 A15.out).mono ?_); (case side1 => repeat (first | exact (Kd.R_reads' HO_4.out).2.2 | (with_reducible refine Kd.C_alloc ?_ _) | (with_reducible refine Kd.C_drewN ?_ _) | (with_reducible refine Kd.C_drew ?_))); (case side2 => exact (Kd.R_reads' HO_4.out).2.1); rintro e w21 ⟨v181, rfl, ho0, hb⟩; (try clear A15); have n0_ := Aside0.mk (Kd.R_below (by (with_reducible repeat (first | apply Kd.R_alloc | apply Kd.R_drewN | apply Kd.R_drew)); exact HO_4.out) hb); have n1_ := Aside0.mk (Kd.R_lower ho0 (below_size (by repeat (first | (with_reducible first | exact HB.out | apply below_alloc | apply pw_below_drewN | apply below_drew1) | exact HB.out)))); have n2_ := Aside0.mk (below_step (by repeat (first | (with_reducible first | exact HB.out | apply below_alloc | apply pw_below_drewN | apply below_drew1) | exact HB.out)) hb); clear HO_4; clear HB; have HO_4 := n0_; have HO182 := n1_; have HB := n2_; clear n0_ n1_ n2_; (try clear hb); (try clear hb2); (try clear hk); (try clear hi); (try clear ho0); obtain ⟨Ao22, co22, eo22⟩ := Kd.R_slice HO182.out; subst eo22) | (go_at_call 26; (with_reducible refine (rle_Runs.calls k1 _ _ x4_1 t183 _ ?side1 ?side2 A17.out).mono ?_); (case side1 => repeat (first | exact (Kd.R_reads' HO_4.out).2.2 | (with_reducible refine Kd.C_alloc ?_ _) | (with_reducible refine Kd.C_drewN ?_ _) | (with_reducible refine Kd.C_drew ?_))); (case side2 => exact (Kd.R_reads' HO_4.out).2.1); rintro e w23 ⟨v184, rfl, ho0, hb⟩; (try clear A17); have n0_ := Aside0.mk (Kd.R_below (by (with_reducible repeat (first | apply Kd.R_alloc | apply Kd.R_drewN | apply Kd.R_drew)); exact HO_4.out) hb); have n1_ := Aside0.mk (Kd.R_elder' (by (with_reducible repeat (first | apply Kd.R_alloc | apply Kd.R_drewN | apply Kd.R_drew)); exact HO182.out) (Kd.R_base ho0) hb); have n2_ := Aside0.mk (Kd.R_lower (Kd.R_new' ho0 (Kd.R_lt (by (with_reducible repeat (first | apply Kd.R_alloc | apply Kd.R_drewN | apply Kd.R_drew)); exact HO182.out))) (below_size (by repeat (first | (with_reducible first | exact HB.out | apply below_alloc | apply pw_below_drewN | apply below_drew1) | exact HB.out)))); have n3_ := Aside0.mk (below_step (by repeat (first | (with_reducible first | exact HB.out | apply below_alloc | apply pw_below_drewN | apply below_drew1) | exact HB.out)) hb); clear HO_4; clear HO182; clear HB; have HO_4 := n0_; have HO182 := n1_; have HO185 := n2_; have HB := n3_; clear n0_ n1_ n2_ n3_; (try clear hb); (try clear hb2); (try clear hk); (try clear hi); (try clear ho0); obtain ⟨Ao24, co24, eo24⟩ := Kd.R_slice HO185.out; subst eo24) | (go_at_call 27; (with_reducible refine (rle_Spread.calls k1 _ _ t183 t186 _ ?side1 ?side2 A18.out).mono ?_); (case side1 => repeat (first | exact (Kd.R_reads' HO185.out).2.2 | (with_reducible refine Kd.C_alloc ?_ _) | (with_reducible refine Kd.C_drewN ?_ _) | (with_reducible refine Kd.C_drew ?_))); (case side2 => exact (Kd.R_reads' HO185.out).2.1); rintro e w25 ⟨v187, rfl, ho0, hb⟩; (try clear A18); have n0_ := Aside0.mk (Kd.R_elder' (by (with_reducible repeat (first | apply Kd.R_alloc | apply Kd.R_drewN | apply Kd.R_drew)); exact HO_4.out) (Kd.R_base ho0) hb); have n1_ := Aside0.mk (Kd.R_below (by (with_reducible repeat (first | apply Kd.R_alloc | apply Kd.R_drewN | apply Kd.R_drew)); exact HO182.out) hb); have n2_ := Aside0.mk (Kd.R_below (by (with_reducible repeat (first | apply Kd.R_alloc | apply Kd.R_drewN | apply Kd.R_drew)); exact HO185.out) hb); have n3_ := Aside0.mk (Kd.R_lower (Kd.R_new' ho0 (Kd.R_lt (by (with_reducible repeat (first | apply Kd.R_alloc | apply Kd.R_drewN | apply Kd.R_drew)); exact HO_4.out))) (below_size (by repeat (first | (with_reducible first | exact HB.out | apply below_alloc | apply pw_below_drewN | apply below_drew1) | exact HB.out)))); have n4_ := Aside0.mk (below_step (by repeat (first | (with_reducible first | exact HB.out | apply below_alloc | apply pw_below_drewN | apply below_drew1) | exact HB.out)) hb); clear HO_4; clear HO182; clear HO185; clear HB; have HO_4 := n0_; have HO182 := n1_; have HO185 := n2_; have HO188 := n3_; have HB := n4_; clear n0_ n1_ n2_ n3_ n4_; (try clear hb); (try clear hb2); (try clear hk); (try clear hi); (try clear ho0); obtain ⟨Ao26, co26, eo26⟩ := Kd.R_slice HO188.out; subst eo26) | (go_at_call 22; (with_reducible refine (ref05_Same.calls k1 _ _ t186 _ _ x4_1 t189 _ ?side1 ?side2 ?side3 ?side4 A19.out).mono ?_); (case side1 => repeat (first | exact (Kd.R_reads' HO188.out).2.2 | (with_reducible refine Kd.C_alloc ?_ _) | (with_reducible refine Kd.C_drewN ?_ _) | (with_reducible refine Kd.C_drew ?_))); (case side2 => exact (Kd.R_reads' HO188.out).2.1); (case side3 => repeat (first | exact (Kd.R_reads' HO_4.out).2.2 | (with_reducible refine Kd.C_alloc ?_ _) | (with_reducible refine Kd.C_drewN ?_ _) | (with_reducible refine Kd.C_drew ?_))); (case side4 => exact (Kd.R_reads' HO_4.out).2.1); rintro e w' ⟨rfl, ⟨nd, rfl⟩⟩))
            go_ret
            exact ⟨by first | rfl | (simp [errW_none, errW_some] <;> rfl) | (simp [*, errW_none, errW_some] <;> rfl), by repeat (first | (with_reducible first | exact HB.out | apply below_alloc | apply pw_below_drewN | apply below_drew1) | exact HB.out)⟩
          · rw [if_neg c16] at H
            have c16b0 : ((t180.length : Int) == x5_1) = false := beq_eq_false_iff_ne.mpr c16
            have c16b1 : ((t180.length : Int) != x5_1) = true := bne_iff_ne.mpr c16
            exact absurd ((Option.some.inj H).trans hr_.out) (by decide)
        · replace c14 := Bool.eq_false_iff.mpr c14
          subst c14
          have H1 : (some false) = some r := by rw [if_neg (show ¬ (false = true) by decide)] at H; exact H
          clear H
          have H := H1
          clear H1
          exact absurd ((Option.some.inj H).trans hr_.out) (by decide)

/-- THE ONE PURE STATEMENT of law08_RleSorted: yours. -/
def law08_RleSorted.Pure : Prop := ∀ (l0 : List Int), l0.length ≤ maxLen → l0.length * 1 ≤ 140737488351232 → (∀ x ∈ l0, (Lit.int .u8 x).wf = true) → ∃ k, law08_RleSorted.f k l0 = some true
theorem law08_RleSorted.walk (P : law08_RleSorted.Pure) (a0 : Option Addr) (len0 cap0 : Nat) (z0 : List Int) (w : World) (w0 : (a0 = none ∧ len0 = 0 ∧ cap0 = 0 ∧ z0 = []) ∨ ∃ x, a0 = some x ∧ len0 ≤ cap0 ∧ cap0 ≤ maxLen ∧ z0.length = cap0 ∧ (∀ i, i < z0.length → w.cell? (x.add i) = some (.int .u8 (z0.getD i 0))) ∧ ∀ n ∈ z0, (Lit.int .u8 n).wf = true) (y0 : len0 * 1 ≤ 140737488351232) :
    Calls Try.prog 11 #[.slice a0 len0 cap0] w fun e w' => e = .returned (.bool true) ∧ Below w.heap.size w w' := by
  obtain ⟨l0, rfl, hr0, hm0, hw0, hc0⟩ := ReadsInt.ofRowC w0
  obtain ⟨k, h⟩ := P l0 hm0 y0 hw0
  refine (law08_RleSorted.calls k _ _ l0 true w (Kd.C_of_reads (d := (0 : Int)) (h1 := fun _ => rfl) hr0) hc0 ⟨rfl⟩ h).mono ?_
  rintro e w' ⟨rfl, hd⟩
  exact ⟨rfl, hd⟩

end Go.Proofs.Ytjchjdbfmiibhaa.PRls
