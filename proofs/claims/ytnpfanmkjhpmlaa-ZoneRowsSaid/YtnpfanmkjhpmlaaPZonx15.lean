-- Written by this session's program wip/gprint/gprint.py, over the kit's print, with given functions; no text of print.sh's.
import Derived.Test.YtnpfanmkjhpmlaaPZonx0
import Derived.Test.YtnpfanmkjhpmlaaPZonx13
namespace Go.Proofs.Ytnpfanmkjhpmlaa.PZon
open Go.RowKit Go.Proofs.YtnpfanmkjhpmlaaW.PrintWords Go.Proofs.YtnpfanmkjhpmlaaW.PrintLast Go.Proofs.YtnpfanmkjhpmlaaW.PrintMore
attribute [local go_sem] max2_int min2_int max_two min_two max_three min_three max_four min_four   -- for this text's walks alone
set_option linter.unusedVariables false
set_option linter.unusedSimpArgs false

/-! ### ref13_Holds: function 11 -/
def ref13_Holds.j0 : Nat → Bool → Int → Int → Int → Int → ByteArray → Int → Int → ByteArray → Option (Bool)
  | 0, _, _, _, _, _, _, _, _, _ => none
  | k + 1, x28, x189000, x189001, x189002, x189003, x189004, x190000, x190001, x190002 => if x28 = true then (some false) else ((ref05_Compare.f k x190000 x190001 x190002 x189002 x189003 x189004).bind fun t190 => (if x189001 = 1 then (some (t190 == 0)) else (if x189001 = 2 then (some (t190 != 0)) else (if x189001 = 3 then (some (decide (t190 < 0))) else (if x189001 = 4 then (some (decide (t190 ≤ 0))) else (if x189001 = 5 then (some (decide (t190 > 0))) else (if x189001 = 6 then (some (decide (t190 ≥ 0))) else (some false))))))))
def ref13_Holds.f (k : Nat) (a0_0 : Int) (a0_1 : Int) (a0_2 : Int) (a0_3 : Int) (a0_4 : ByteArray) (a1_0 : Int) (a1_1 : Int) (a1_2 : ByteArray) : Option (Bool) := if a0_1 = 7 then (some (a1_0 == 0)) else (if a0_1 = 8 then (some (a1_0 != 0)) else (if a1_0 = 0 then (ref13_Holds.j0 k true a0_0 a0_1 a0_2 a0_3 a0_4 a1_0 a1_1 a1_2) else (ref13_Holds.j0 k (a1_0 != a0_2) a0_0 a0_1 a0_2 a0_3 a0_4 a1_0 a1_1 a1_2)))
theorem ref13_Holds.mono_l : ∀ k, (∀ y0 y1 y2 y3 y4 y5 y6 y7 y8, LeO (ref13_Holds.j0 k y0 y1 y2 y3 y4 y5 y6 y7 y8) (ref13_Holds.j0 (k + 1) y0 y1 y2 y3 y4 y5 y6 y7 y8))
  | 0 => fun _ _ _ _ _ _ _ _ _ r h => by simp [ref13_Holds.j0] at h
  | k + 1 => by
    have ih0 := ref13_Holds.mono_l k
    · intro y0 y1 y2 y3 y4 y5 y6 y7 y8
      unfold ref13_Holds.j0
      repeat' first
      | (with_reducible exact ih0 _ _ _ _ _ _ _ _ _)
      | (with_reducible exact ref05_Compare.mono _ _ _ _ _ _ _)
      | (with_reducible exact LeO.refl _)
      | (with_reducible exact LeO.none _)
      | (with_reducible refine LeO.ite ?_ ?_)
      | (with_reducible refine LeO.bind ?_ (fun _ => ?_))
      | exact ih0 _ _ _ _ _ _ _ _ _
      | exact ref05_Compare.mono _ _ _ _ _ _ _
      | exact LeO.none _
      | refine LeO.ite ?_ ?_
      | refine LeO.bind ?_ (fun _ => ?_)
theorem ref13_Holds.mono : ∀ a0 a1 a2 a3 a4 a5 a6 a7 k, LeO (ref13_Holds.f k a0 a1 a2 a3 a4 a5 a6 a7) (ref13_Holds.f (k + 1) a0 a1 a2 a3 a4 a5 a6 a7) := by
  intro a0 a1 a2 a3 a4 a5 a6 a7 k
  have ih0 := ref13_Holds.mono_l k
  unfold ref13_Holds.f
  repeat' first
      | (with_reducible exact ih0 _ _ _ _ _ _ _ _ _)
      | (with_reducible exact ref05_Compare.mono _ _ _ _ _ _ _)
      | (with_reducible exact LeO.refl _)
      | (with_reducible exact LeO.none _)
      | (with_reducible refine LeO.ite ?_ ?_)
      | (with_reducible refine LeO.bind ?_ (fun _ => ?_))
      | exact ih0 _ _ _ _ _ _ _ _ _
      | exact ref05_Compare.mono _ _ _ _ _ _ _
      | exact LeO.none _
      | refine LeO.ite ?_ ?_
      | refine LeO.bind ?_ (fun _ => ?_)
set_option maxHeartbeats 8000000 in
set_option maxRecDepth 100000 in
theorem ref13_Holds.calls (k : Nat) (a0_0 : Int) (a0_1 : Int) (a0_2 : Int) (a0_3 : Int) (a0_4 : ByteArray) (a1_0 : Int) (a1_1 : Int) (a1_2 : ByteArray) (r : Bool) (w : World) (h : ref13_Holds.f k a0_0 a0_1 a0_2 a0_3 a0_4 a1_0 a1_1 a1_2 = some r) :
    Calls Try.prog 11 #[.agg #[.int .i64 a0_0, .int .i64 a0_1, .int .i64 a0_2, .int .i64 a0_3, .string a0_4], .agg #[.int .i64 a1_0, .int .i64 a1_1, .string a1_2]] w fun e w' => e = .returned (.bool r) ∧ Below w.heap.size w w' := by
  have hu26 := Try.underlying26
  have hu24 := Try.underlying24
  have HB := Aside0.mk (Below.refl w.heap.size w)
  have H : (if a0_1 = 7 then (some (a1_0 == 0)) else (if a0_1 = 8 then (some (a1_0 != 0)) else (if a1_0 = 0 then (ref13_Holds.j0 k true a0_0 a0_1 a0_2 a0_3 a0_4 a1_0 a1_1 a1_2) else (ref13_Holds.j0 k (a1_0 != a0_2) a0_0 a0_1 a0_2 a0_3 a0_4 a1_0 a1_1 a1_2)))) = some r := h
  clear h
  by_cases c3 : a0_1 = 7
  · rw [if_pos c3] at H
    have c3b0 : (a0_1 == 7) = true := beq_iff_eq.mpr c3
    have c3b1 : (a0_1 != 7) = false := bne_eq_false_iff_eq.mpr c3
    clear c3
    obtain rfl := Option.some.inj H
    go_enter Try.func11, Try.ntmps11
    go_wp2_with (first | ((with_reducible refine gate_dst (N := 2) rfl ?_); refine box_event ?hg (N := 2) ?hd (cs := #[.int .i64 a0_0, .int .i64 a0_1, .int .i64 a0_2, .int .i64 a0_3, .string a0_4]) (t := 26) ?hr ?_; (case hd => rfl); (case hg => rfl); (case hr => first | (go_simp; done) | (go_simp; rfl)); intro gb188 hg w4 hbox hb; have n0_ := Aside0.mk (below_step (by repeat (first | (with_reducible first | exact HB.out | apply below_alloc | apply pw_below_drewN | apply below_drew1) | exact HB.out)) hb); have n1_ := Aside0.mk (hbox); have n2_ := Aside0.mk ((by rw [hg]; exact (below_size (by repeat (first | (with_reducible first | exact HB.out | apply below_alloc | apply pw_below_drewN | apply below_drew1) | exact HB.out))) : w.heap.size ≤ gb188)); have n3_ := Aside0.mk ((by rw [hg]; exact (below_size (by repeat (first | (with_reducible first | exact HB.out | apply below_alloc | apply pw_below_drewN | apply below_drew1) | exact HB.out))) : w.heap.size ≤ gb188)); clear HB; have HB := n0_; have BK188 := n1_; have GW188 := n2_; have GE188 := n3_; clear n0_ n1_ n2_ n3_; clear hb hbox hg) | ((with_reducible refine gate_dst (N := 3) rfl ?_); refine box_event ?hg (N := 3) ?hd (cs := #[.int .i64 a1_0, .int .i64 a1_1, .string a1_2]) (t := 24) ?hr ?_; (case hd => rfl); (case hg => rfl); (case hr => first | (go_simp; done) | (go_simp; rfl)); intro gb189 hg w5 hbox hb; have n0_ := Aside0.mk (blk_below (g := gb188) (o := .cells #[.int .i64 a0_0, .int .i64 a0_1, .int .i64 a0_2, .int .i64 a0_3, .string a0_4] 26 (0, 0)) (by (with_reducible repeat (first | refine blk_drewN ?_ _ | refine blk_drew ?_ | refine blk_alloc ?_ _)); exact BK188.out) hb); have n1_ := Aside0.mk (below_step (by repeat (first | (with_reducible first | exact HB.out | apply below_alloc | apply pw_below_drewN | apply below_drew1 | refine below_set ?_ GE188.out) | exact HB.out)) hb); have n2_ := Aside0.mk (hbox); have n3_ := Aside0.mk ((by rw [hg]; exact (below_size (by repeat (first | (with_reducible first | exact HB.out | apply below_alloc | apply pw_below_drewN | apply below_drew1 | refine below_set ?_ GE188.out) | exact HB.out))) : w.heap.size ≤ gb189)); have n4_ := Aside0.mk ((by rw [hg]; exact (below_size (by repeat (first | (with_reducible first | exact HB.out | apply below_alloc | apply pw_below_drewN | apply below_drew1 | refine below_set ?_ GE188.out) | exact HB.out))) : w.heap.size ≤ gb189)); have n5_ := Aside0.mk ((by rw [hg]; exact Nat.ne_of_lt (blk_lt (g := gb188) (o := .cells #[.int .i64 a0_0, .int .i64 a0_1, .int .i64 a0_2, .int .i64 a0_3, .string a0_4] 26 (0, 0)) (by (with_reducible repeat (first | refine blk_drewN ?_ _ | refine blk_drew ?_ | refine blk_alloc ?_ _)); exact BK188.out)) : gb188 ≠ gb189)); have n6_ := Aside0.mk ((by rw [hg]; exact Nat.ne_of_gt (blk_lt (g := gb188) (o := .cells #[.int .i64 a0_0, .int .i64 a0_1, .int .i64 a0_2, .int .i64 a0_3, .string a0_4] 26 (0, 0)) (by (with_reducible repeat (first | refine blk_drewN ?_ _ | refine blk_drew ?_ | refine blk_alloc ?_ _)); exact BK188.out)) : gb189 ≠ gb188)); clear BK188; clear HB; have BK188 := n0_; have HB := n1_; have BK189 := n2_; have GW189 := n3_; have GE189 := n4_; have NB188_189 := n5_; have NB189_188 := n6_; clear n0_ n1_ n2_ n3_ n4_ n5_ n6_; clear hb hbox hg; have hnb6 := NB188_189.out; have hnc6 := NB189_188.out; have hcz7_0 : w5.cell? ⟨gb188, 0, none⟩ = some (.int .i64 a0_0) := (blk_cell BK188.out 0).trans rfl; have hcz7_1 : w5.cell? ⟨gb188, 1, none⟩ = some (.int .i64 a0_1) := (blk_cell BK188.out 1).trans rfl; have hcz7_2 : w5.cell? ⟨gb188, 2, none⟩ = some (.int .i64 a0_2) := (blk_cell BK188.out 2).trans rfl; have hcz7_3 : w5.cell? ⟨gb188, 3, none⟩ = some (.int .i64 a0_3) := (blk_cell BK188.out 3).trans rfl; have hcz7_4 : w5.cell? ⟨gb188, 4, none⟩ = some (.string a0_4) := (blk_cell BK188.out 4).trans rfl; have hfz7_0 := blk_frozen BK188.out 0; have hfz7_1 := blk_frozen BK188.out 1; have hfz7_2 := blk_frozen BK188.out 2; have hfz7_3 := blk_frozen BK188.out 3; have hfz7_4 := blk_frozen BK188.out 4; have hcz8_0 : w5.cell? ⟨gb189, 0, none⟩ = some (.int .i64 a1_0) := (blk_cell BK189.out 0).trans rfl; have hcz8_1 : w5.cell? ⟨gb189, 1, none⟩ = some (.int .i64 a1_1) := (blk_cell BK189.out 1).trans rfl; have hcz8_2 : w5.cell? ⟨gb189, 2, none⟩ = some (.string a1_2) := (blk_cell BK189.out 2).trans rfl; have hfz8_0 := blk_frozen BK189.out 0; have hfz8_1 := blk_frozen BK189.out 1; have hfz8_2 := blk_frozen BK189.out 2))
    go_ret
    exact ⟨by first | rfl | (simp [errW_none, errW_some] <;> rfl) | (simp [*, errW_none, errW_some] <;> rfl), by repeat (first | (with_reducible first | exact HB.out | apply below_alloc | apply pw_below_drewN | apply below_drew1 | refine below_set ?_ GE188.out | refine below_set ?_ GE189.out) | exact HB.out)⟩
  · rw [if_neg c3] at H
    have c3b0 : (a0_1 == 7) = false := beq_eq_false_iff_ne.mpr c3
    have c3b1 : (a0_1 != 7) = true := bne_iff_ne.mpr c3
    by_cases c9 : a0_1 = 8
    · rw [if_pos c9] at H
      have c9b0 : (a0_1 == 8) = true := beq_iff_eq.mpr c9
      have c9b1 : (a0_1 != 8) = false := bne_eq_false_iff_eq.mpr c9
      clear c9
      obtain rfl := Option.some.inj H
      go_enter Try.func11, Try.ntmps11
      go_wp2_with (first | ((with_reducible refine gate_dst (N := 2) rfl ?_); refine box_event ?hg (N := 2) ?hd (cs := #[.int .i64 a0_0, .int .i64 a0_1, .int .i64 a0_2, .int .i64 a0_3, .string a0_4]) (t := 26) ?hr ?_; (case hd => rfl); (case hg => rfl); (case hr => first | (go_simp; done) | (go_simp; rfl)); intro gb188 hg w10 hbox hb; have n0_ := Aside0.mk (below_step (by repeat (first | (with_reducible first | exact HB.out | apply below_alloc | apply pw_below_drewN | apply below_drew1) | exact HB.out)) hb); have n1_ := Aside0.mk (hbox); have n2_ := Aside0.mk ((by rw [hg]; exact (below_size (by repeat (first | (with_reducible first | exact HB.out | apply below_alloc | apply pw_below_drewN | apply below_drew1) | exact HB.out))) : w.heap.size ≤ gb188)); have n3_ := Aside0.mk ((by rw [hg]; exact (below_size (by repeat (first | (with_reducible first | exact HB.out | apply below_alloc | apply pw_below_drewN | apply below_drew1) | exact HB.out))) : w.heap.size ≤ gb188)); clear HB; have HB := n0_; have BK188 := n1_; have GW188 := n2_; have GE188 := n3_; clear n0_ n1_ n2_ n3_; clear hb hbox hg) | ((with_reducible refine gate_dst (N := 3) rfl ?_); refine box_event ?hg (N := 3) ?hd (cs := #[.int .i64 a1_0, .int .i64 a1_1, .string a1_2]) (t := 24) ?hr ?_; (case hd => rfl); (case hg => rfl); (case hr => first | (go_simp; done) | (go_simp; rfl)); intro gb189 hg w11 hbox hb; have n0_ := Aside0.mk (blk_below (g := gb188) (o := .cells #[.int .i64 a0_0, .int .i64 a0_1, .int .i64 a0_2, .int .i64 a0_3, .string a0_4] 26 (0, 0)) (by (with_reducible repeat (first | refine blk_drewN ?_ _ | refine blk_drew ?_ | refine blk_alloc ?_ _)); exact BK188.out) hb); have n1_ := Aside0.mk (below_step (by repeat (first | (with_reducible first | exact HB.out | apply below_alloc | apply pw_below_drewN | apply below_drew1 | refine below_set ?_ GE188.out) | exact HB.out)) hb); have n2_ := Aside0.mk (hbox); have n3_ := Aside0.mk ((by rw [hg]; exact (below_size (by repeat (first | (with_reducible first | exact HB.out | apply below_alloc | apply pw_below_drewN | apply below_drew1 | refine below_set ?_ GE188.out) | exact HB.out))) : w.heap.size ≤ gb189)); have n4_ := Aside0.mk ((by rw [hg]; exact (below_size (by repeat (first | (with_reducible first | exact HB.out | apply below_alloc | apply pw_below_drewN | apply below_drew1 | refine below_set ?_ GE188.out) | exact HB.out))) : w.heap.size ≤ gb189)); have n5_ := Aside0.mk ((by rw [hg]; exact Nat.ne_of_lt (blk_lt (g := gb188) (o := .cells #[.int .i64 a0_0, .int .i64 a0_1, .int .i64 a0_2, .int .i64 a0_3, .string a0_4] 26 (0, 0)) (by (with_reducible repeat (first | refine blk_drewN ?_ _ | refine blk_drew ?_ | refine blk_alloc ?_ _)); exact BK188.out)) : gb188 ≠ gb189)); have n6_ := Aside0.mk ((by rw [hg]; exact Nat.ne_of_gt (blk_lt (g := gb188) (o := .cells #[.int .i64 a0_0, .int .i64 a0_1, .int .i64 a0_2, .int .i64 a0_3, .string a0_4] 26 (0, 0)) (by (with_reducible repeat (first | refine blk_drewN ?_ _ | refine blk_drew ?_ | refine blk_alloc ?_ _)); exact BK188.out)) : gb189 ≠ gb188)); clear BK188; clear HB; have BK188 := n0_; have HB := n1_; have BK189 := n2_; have GW189 := n3_; have GE189 := n4_; have NB188_189 := n5_; have NB189_188 := n6_; clear n0_ n1_ n2_ n3_ n4_ n5_ n6_; clear hb hbox hg; have hnb12 := NB188_189.out; have hnc12 := NB189_188.out; have hcz13_0 : w11.cell? ⟨gb188, 0, none⟩ = some (.int .i64 a0_0) := (blk_cell BK188.out 0).trans rfl; have hcz13_1 : w11.cell? ⟨gb188, 1, none⟩ = some (.int .i64 a0_1) := (blk_cell BK188.out 1).trans rfl; have hcz13_2 : w11.cell? ⟨gb188, 2, none⟩ = some (.int .i64 a0_2) := (blk_cell BK188.out 2).trans rfl; have hcz13_3 : w11.cell? ⟨gb188, 3, none⟩ = some (.int .i64 a0_3) := (blk_cell BK188.out 3).trans rfl; have hcz13_4 : w11.cell? ⟨gb188, 4, none⟩ = some (.string a0_4) := (blk_cell BK188.out 4).trans rfl; have hfz13_0 := blk_frozen BK188.out 0; have hfz13_1 := blk_frozen BK188.out 1; have hfz13_2 := blk_frozen BK188.out 2; have hfz13_3 := blk_frozen BK188.out 3; have hfz13_4 := blk_frozen BK188.out 4; have hcz14_0 : w11.cell? ⟨gb189, 0, none⟩ = some (.int .i64 a1_0) := (blk_cell BK189.out 0).trans rfl; have hcz14_1 : w11.cell? ⟨gb189, 1, none⟩ = some (.int .i64 a1_1) := (blk_cell BK189.out 1).trans rfl; have hcz14_2 : w11.cell? ⟨gb189, 2, none⟩ = some (.string a1_2) := (blk_cell BK189.out 2).trans rfl; have hfz14_0 := blk_frozen BK189.out 0; have hfz14_1 := blk_frozen BK189.out 1; have hfz14_2 := blk_frozen BK189.out 2))
      go_ret
      exact ⟨by first | rfl | (simp [errW_none, errW_some] <;> rfl) | (simp [*, errW_none, errW_some] <;> rfl), by repeat (first | (with_reducible first | exact HB.out | apply below_alloc | apply pw_below_drewN | apply below_drew1 | refine below_set ?_ GE188.out | refine below_set ?_ GE189.out) | exact HB.out)⟩
    · rw [if_neg c9] at H
      have c9b0 : (a0_1 == 8) = false := beq_eq_false_iff_ne.mpr c9
      have c9b1 : (a0_1 != 8) = true := bne_iff_ne.mpr c9
      have HC15 := Aside0.mk H
      clear H
      go_enter Try.func11, Try.ntmps11
      go_upto_region 5 with (first | ((with_reducible refine gate_dst (N := 2) rfl ?_); refine box_event ?hg (N := 2) ?hd (cs := #[.int .i64 a0_0, .int .i64 a0_1, .int .i64 a0_2, .int .i64 a0_3, .string a0_4]) (t := 26) ?hr ?_; (case hd => rfl); (case hg => rfl); (case hr => first | (go_simp; done) | (go_simp; rfl)); intro gb188 hg w16 hbox hb; have n0_ := Aside0.mk (below_step (by repeat (first | (with_reducible first | exact HB.out | apply below_alloc | apply pw_below_drewN | apply below_drew1) | exact HB.out)) hb); have n1_ := Aside0.mk (hbox); have n2_ := Aside0.mk ((by rw [hg]; exact (below_size (by repeat (first | (with_reducible first | exact HB.out | apply below_alloc | apply pw_below_drewN | apply below_drew1) | exact HB.out))) : w.heap.size ≤ gb188)); have n3_ := Aside0.mk ((by rw [hg]; exact (below_size (by repeat (first | (with_reducible first | exact HB.out | apply below_alloc | apply pw_below_drewN | apply below_drew1) | exact HB.out))) : w.heap.size ≤ gb188)); clear HB; have HB := n0_; have BK188 := n1_; have GW188 := n2_; have GE188 := n3_; clear n0_ n1_ n2_ n3_; clear hb hbox hg) | ((with_reducible refine gate_dst (N := 3) rfl ?_); refine box_event ?hg (N := 3) ?hd (cs := #[.int .i64 a1_0, .int .i64 a1_1, .string a1_2]) (t := 24) ?hr ?_; (case hd => rfl); (case hg => rfl); (case hr => first | (go_simp; done) | (go_simp; rfl)); intro gb189 hg w17 hbox hb; have n0_ := Aside0.mk (blk_below (g := gb188) (o := .cells #[.int .i64 a0_0, .int .i64 a0_1, .int .i64 a0_2, .int .i64 a0_3, .string a0_4] 26 (0, 0)) (by (with_reducible repeat (first | refine blk_drewN ?_ _ | refine blk_drew ?_ | refine blk_alloc ?_ _)); exact BK188.out) hb); have n1_ := Aside0.mk (below_step (by repeat (first | (with_reducible first | exact HB.out | apply below_alloc | apply pw_below_drewN | apply below_drew1 | refine below_set ?_ GE188.out) | exact HB.out)) hb); have n2_ := Aside0.mk (hbox); have n3_ := Aside0.mk ((by rw [hg]; exact (below_size (by repeat (first | (with_reducible first | exact HB.out | apply below_alloc | apply pw_below_drewN | apply below_drew1 | refine below_set ?_ GE188.out) | exact HB.out))) : w.heap.size ≤ gb189)); have n4_ := Aside0.mk ((by rw [hg]; exact (below_size (by repeat (first | (with_reducible first | exact HB.out | apply below_alloc | apply pw_below_drewN | apply below_drew1 | refine below_set ?_ GE188.out) | exact HB.out))) : w.heap.size ≤ gb189)); have n5_ := Aside0.mk ((by rw [hg]; exact Nat.ne_of_lt (blk_lt (g := gb188) (o := .cells #[.int .i64 a0_0, .int .i64 a0_1, .int .i64 a0_2, .int .i64 a0_3, .string a0_4] 26 (0, 0)) (by (with_reducible repeat (first | refine blk_drewN ?_ _ | refine blk_drew ?_ | refine blk_alloc ?_ _)); exact BK188.out)) : gb188 ≠ gb189)); have n6_ := Aside0.mk ((by rw [hg]; exact Nat.ne_of_gt (blk_lt (g := gb188) (o := .cells #[.int .i64 a0_0, .int .i64 a0_1, .int .i64 a0_2, .int .i64 a0_3, .string a0_4] 26 (0, 0)) (by (with_reducible repeat (first | refine blk_drewN ?_ _ | refine blk_drew ?_ | refine blk_alloc ?_ _)); exact BK188.out)) : gb189 ≠ gb188)); clear BK188; clear HB; have BK188 := n0_; have HB := n1_; have BK189 := n2_; have GW189 := n3_; have GE189 := n4_; have NB188_189 := n5_; have NB189_188 := n6_; clear n0_ n1_ n2_ n3_ n4_ n5_ n6_; clear hb hbox hg; have hnb18 := NB188_189.out; have hnc18 := NB189_188.out; have hcz19_0 : w17.cell? ⟨gb188, 0, none⟩ = some (.int .i64 a0_0) := (blk_cell BK188.out 0).trans rfl; have hcz19_1 : w17.cell? ⟨gb188, 1, none⟩ = some (.int .i64 a0_1) := (blk_cell BK188.out 1).trans rfl; have hcz19_2 : w17.cell? ⟨gb188, 2, none⟩ = some (.int .i64 a0_2) := (blk_cell BK188.out 2).trans rfl; have hcz19_3 : w17.cell? ⟨gb188, 3, none⟩ = some (.int .i64 a0_3) := (blk_cell BK188.out 3).trans rfl; have hcz19_4 : w17.cell? ⟨gb188, 4, none⟩ = some (.string a0_4) := (blk_cell BK188.out 4).trans rfl; have hfz19_0 := blk_frozen BK188.out 0; have hfz19_1 := blk_frozen BK188.out 1; have hfz19_2 := blk_frozen BK188.out 2; have hfz19_3 := blk_frozen BK188.out 3; have hfz19_4 := blk_frozen BK188.out 4))
      (try simp only [Act.put, List.setIfInBounds_toArray, List.set_cons_zero, List.set_cons_succ])
      go_cut [28] (fun v28 wc => ∃ (kq : Nat) (x28_14 : Bool), v28 = .bool x28_14 ∧ Aside0 (ref13_Holds.j0 kq x28_14 a0_0 a0_1 a0_2 a0_3 a0_4 a1_0 a1_1 a1_2 = some r) ∧ Aside0 (kq ≤ k) ∧ Aside0 (wc.heap[gb188]? = some (.cells #[.int .i64 a0_0, .int .i64 a0_1, .int .i64 a0_2, .int .i64 a0_3, .string a0_4] 26 (0, 0))) ∧ Aside0 (wc.heap[gb189]? = some (.cells #[.int .i64 a1_0, .int .i64 a1_1, .string a1_2] 24 (0, 0))) ∧ Aside0 (Below w.heap.size w wc))
      case first =>
        have H := HC15.out
        clear HC15
        by_cases c20 : a1_0 = 0
        · rw [if_pos c20] at H
          have c20b0 : (a1_0 == 0) = true := beq_iff_eq.mpr c20
          have c20b1 : (a1_0 != 0) = false := bne_eq_false_iff_eq.mpr c20
          clear c20
          (first | rw [c20b0] | (simp only [i64_w, i32_w]; rw [c20b0]) | skip)
          have H' := Aside0.mk H
          clear H
          have hnb21 := NB189_188.out
          have hnc21 := NB188_189.out
          have hcz22_0 : w17.cell? ⟨gb189, 0, none⟩ = some (.int .i64 a1_0) := (blk_cell BK189.out 0).trans rfl
          have hcz22_1 : w17.cell? ⟨gb189, 1, none⟩ = some (.int .i64 a1_1) := (blk_cell BK189.out 1).trans rfl
          have hcz22_2 : w17.cell? ⟨gb189, 2, none⟩ = some (.string a1_2) := (blk_cell BK189.out 2).trans rfl
          have hfz22_0 := blk_frozen BK189.out 0
          have hfz22_1 := blk_frozen BK189.out 1
          have hfz22_2 := blk_frozen BK189.out 2
          go_wp2
          go_meet
          case rel => exact ⟨_, (true), (by first | rfl | (simp; done) | (simp [*]; done)), H', ⟨by first | omega | exact Nat.le_refl _⟩, ⟨by (with_reducible repeat (first | refine blk_drewN ?_ _ | refine blk_drew ?_ | refine blk_alloc ?_ _)); exact BK188.out⟩, ⟨by (with_reducible repeat (first | refine blk_drewN ?_ _ | refine blk_drew ?_ | refine blk_alloc ?_ _)); exact BK189.out⟩, ⟨by repeat (first | (with_reducible first | exact HB.out | apply below_alloc | apply pw_below_drewN | apply below_drew1 | refine below_set ?_ GE188.out | refine below_set ?_ GE189.out) | exact HB.out)⟩⟩
        · rw [if_neg c20] at H
          have c20b0 : (a1_0 == 0) = false := beq_eq_false_iff_ne.mpr c20
          have c20b1 : (a1_0 != 0) = true := bne_iff_ne.mpr c20
          (first | rw [c20b0] | (simp only [i64_w, i32_w]; rw [c20b0]) | skip)
          have H' := Aside0.mk H
          clear H
          have hnb23 := NB189_188.out
          have hnc23 := NB188_189.out
          have hcz24_0 : w17.cell? ⟨gb189, 0, none⟩ = some (.int .i64 a1_0) := (blk_cell BK189.out 0).trans rfl
          have hcz24_1 : w17.cell? ⟨gb189, 1, none⟩ = some (.int .i64 a1_1) := (blk_cell BK189.out 1).trans rfl
          have hcz24_2 : w17.cell? ⟨gb189, 2, none⟩ = some (.string a1_2) := (blk_cell BK189.out 2).trans rfl
          have hfz24_0 := blk_frozen BK189.out 0
          have hfz24_1 := blk_frozen BK189.out 1
          have hfz24_2 := blk_frozen BK189.out 2
          have hcz25_0 : w17.cell? ⟨gb188, 0, none⟩ = some (.int .i64 a0_0) := (blk_cell BK188.out 0).trans rfl
          have hcz25_1 : w17.cell? ⟨gb188, 1, none⟩ = some (.int .i64 a0_1) := (blk_cell BK188.out 1).trans rfl
          have hcz25_2 : w17.cell? ⟨gb188, 2, none⟩ = some (.int .i64 a0_2) := (blk_cell BK188.out 2).trans rfl
          have hcz25_3 : w17.cell? ⟨gb188, 3, none⟩ = some (.int .i64 a0_3) := (blk_cell BK188.out 3).trans rfl
          have hcz25_4 : w17.cell? ⟨gb188, 4, none⟩ = some (.string a0_4) := (blk_cell BK188.out 4).trans rfl
          have hfz25_0 := blk_frozen BK188.out 0
          have hfz25_1 := blk_frozen BK188.out 1
          have hfz25_2 := blk_frozen BK188.out 2
          have hfz25_3 := blk_frozen BK188.out 3
          have hfz25_4 := blk_frozen BK188.out 4
          go_wp2
          go_meet
          case rel => exact ⟨_, ((a1_0 != a0_2)), (by first | rfl | (simp; done) | (simp [*]; done)), H', ⟨by first | omega | exact Nat.le_refl _⟩, ⟨by (with_reducible repeat (first | refine blk_drewN ?_ _ | refine blk_drew ?_ | refine blk_alloc ?_ _)); exact BK188.out⟩, ⟨by (with_reducible repeat (first | refine blk_drewN ?_ _ | refine blk_drew ?_ | refine blk_alloc ?_ _)); exact BK189.out⟩, ⟨by repeat (first | (with_reducible first | exact HB.out | apply below_alloc | apply pw_below_drewN | apply below_drew1 | refine below_set ?_ GE188.out | refine below_set ?_ GE189.out) | exact HB.out)⟩⟩
      case rest =>
        clear HC15
        try clear c1
        try clear c2
        try clear p2
        try clear c3
        try clear c3b0
        try clear c3b1
        try clear c6
        try clear c9
        try clear c9b0
        try clear c9b1
        try clear c11
        try clear c12
        try clear c18
        try clear c20
        try clear c20b0
        try clear c20b1
        try clear c21
        try clear c23
        try clear hcz13_0
        try clear hcz13_1
        try clear hcz13_2
        try clear hcz13_3
        try clear hcz13_4
        try clear hcz14_0
        try clear hcz14_1
        try clear hcz14_2
        try clear hcz19_0
        try clear hcz19_1
        try clear hcz19_2
        try clear hcz19_3
        try clear hcz19_4
        try clear hcz22_0
        try clear hcz22_1
        try clear hcz22_2
        try clear hcz24_0
        try clear hcz24_1
        try clear hcz24_2
        try clear hcz25_0
        try clear hcz25_1
        try clear hcz25_2
        try clear hcz25_3
        try clear hcz25_4
        try clear hcz7_0
        try clear hcz7_1
        try clear hcz7_2
        try clear hcz7_3
        try clear hcz7_4
        try clear hcz8_0
        try clear hcz8_1
        try clear hcz8_2
        try clear hfz13_0
        try clear hfz13_1
        try clear hfz13_2
        try clear hfz13_3
        try clear hfz13_4
        try clear hfz14_0
        try clear hfz14_1
        try clear hfz14_2
        try clear hfz19_0
        try clear hfz19_1
        try clear hfz19_2
        try clear hfz19_3
        try clear hfz19_4
        try clear hfz22_0
        try clear hfz22_1
        try clear hfz22_2
        try clear hfz24_0
        try clear hfz24_1
        try clear hfz24_2
        try clear hfz25_0
        try clear hfz25_1
        try clear hfz25_2
        try clear hfz25_3
        try clear hfz25_4
        try clear hfz7_0
        try clear hfz7_1
        try clear hfz7_2
        try clear hfz7_3
        try clear hfz7_4
        try clear hfz8_0
        try clear hfz8_1
        try clear hfz8_2
        obtain ⟨kq, x28_14, rfl, HA, HJ14, BK188, BK189, HB⟩ := hcut
        cases kq with
        | zero => exact absurd HA.out (by simp [ref13_Holds.j0])
        | succ kj14 =>
          have H := HA.out
          clear HA
          simp only [ref13_Holds.j0] at H
          by_cases c26 : x28_14 = true
          · subst c26
            have H1 : (some false) = some r := by rw [if_pos rfl] at H; exact H
            clear H
            have H := H1
            clear H1
            obtain rfl := Option.some.inj H
            go_wp2
            go_ret
            exact ⟨by first | rfl | (simp [errW_none, errW_some] <;> rfl) | (simp [*, errW_none, errW_some] <;> rfl), by repeat (first | (with_reducible first | exact HB.out | apply below_alloc | apply pw_below_drewN | apply below_drew1 | refine below_set ?_ GE188.out | refine below_set ?_ GE189.out) | exact HB.out)⟩
          · replace c26 := Bool.eq_false_iff.mpr c26
            subst c26
            have H1 : ((ref05_Compare.f kj14 a1_0 a1_1 a1_2 a0_2 a0_3 a0_4).bind fun t190 => (if a0_1 = 1 then (some (t190 == 0)) else (if a0_1 = 2 then (some (t190 != 0)) else (if a0_1 = 3 then (some (decide (t190 < 0))) else (if a0_1 = 4 then (some (decide (t190 ≤ 0))) else (if a0_1 = 5 then (some (decide (t190 > 0))) else (if a0_1 = 6 then (some (decide (t190 ≥ 0))) else (some false)))))))) = some r := by rw [if_neg (show ¬ (false = true) by decide)] at H; exact H
            clear H
            have H := H1
            clear H1
            replace H := Option.bind_eq_some_iff.mp H
            obtain ⟨t190, A270, H⟩ := H
            replace H : (if a0_1 = 1 then (some (t190 == 0)) else (if a0_1 = 2 then (some (t190 != 0)) else (if a0_1 = 3 then (some (decide (t190 < 0))) else (if a0_1 = 4 then (some (decide (t190 ≤ 0))) else (if a0_1 = 5 then (some (decide (t190 > 0))) else (if a0_1 = 6 then (some (decide (t190 ≥ 0))) else (some false))))))) = some r := H
            have A27 := Aside0.mk A270
            clear A270
            by_cases c28 : a0_1 = 1
            · rw [if_pos c28] at H
              have c28b0 : (a0_1 == 1) = true := beq_iff_eq.mpr c28
              have c28b1 : (a0_1 != 1) = false := bne_eq_false_iff_eq.mpr c28
              clear c28
              obtain rfl := Option.some.inj H
              have hnb29 := NB189_188.out
              have hnc29 := NB188_189.out
              have hcz30_0 : wc.cell? ⟨gb189, 0, none⟩ = some (.int .i64 a1_0) := (blk_cell BK189.out 0).trans rfl
              have hcz30_1 : wc.cell? ⟨gb189, 1, none⟩ = some (.int .i64 a1_1) := (blk_cell BK189.out 1).trans rfl
              have hcz30_2 : wc.cell? ⟨gb189, 2, none⟩ = some (.string a1_2) := (blk_cell BK189.out 2).trans rfl
              have hfz30_0 := blk_frozen BK189.out 0
              have hfz30_1 := blk_frozen BK189.out 1
              have hfz30_2 := blk_frozen BK189.out 2
              have hcz31_0 : wc.cell? ⟨gb188, 0, none⟩ = some (.int .i64 a0_0) := (blk_cell BK188.out 0).trans rfl
              have hcz31_1 : wc.cell? ⟨gb188, 1, none⟩ = some (.int .i64 a0_1) := (blk_cell BK188.out 1).trans rfl
              have hcz31_2 : wc.cell? ⟨gb188, 2, none⟩ = some (.int .i64 a0_2) := (blk_cell BK188.out 2).trans rfl
              have hcz31_3 : wc.cell? ⟨gb188, 3, none⟩ = some (.int .i64 a0_3) := (blk_cell BK188.out 3).trans rfl
              have hcz31_4 : wc.cell? ⟨gb188, 4, none⟩ = some (.string a0_4) := (blk_cell BK188.out 4).trans rfl
              have hfz31_0 := blk_frozen BK188.out 0
              have hfz31_1 := blk_frozen BK188.out 1
              have hfz31_2 := blk_frozen BK188.out 2
              have hfz31_3 := blk_frozen BK188.out 3
              have hfz31_4 := blk_frozen BK188.out 4
              go_wp2_with (first | ((with_reducible refine gate_callee (f := 18) rfl ?_); refine goesL_ (some 32) rfl rfl Try.func18 (by kernel_rfl) rfl #[.agg #[.int .i64 a1_0, .int .i64 a1_1, .string a1_2], .agg #[.int .i64 a0_2, .int .i64 a0_3, .string a0_4]] rfl (by (try simp only [List.map_toArray, List.map_cons, List.map_nil]); first | done | rfl | (simp only [List.length_drop, List.length_take]; rfl)) ?_; (with_reducible refine (ref05_Compare.calls kj14 a1_0 a1_1 a1_2 a0_2 a0_3 a0_4 t190 _ A27.out).mono ?_); rintro e w32 ⟨rfl, hb⟩; refine ⟨_, rfl, ?_⟩; have n0_ := Aside0.mk (blk_below (g := gb188) (o := .cells #[.int .i64 a0_0, .int .i64 a0_1, .int .i64 a0_2, .int .i64 a0_3, .string a0_4] 26 (0, 0)) (by (with_reducible repeat (first | refine blk_drewN ?_ _ | refine blk_drew ?_ | refine blk_alloc ?_ _)); exact BK188.out) hb); have n1_ := Aside0.mk (blk_below (g := gb189) (o := .cells #[.int .i64 a1_0, .int .i64 a1_1, .string a1_2] 24 (0, 0)) (by (with_reducible repeat (first | refine blk_drewN ?_ _ | refine blk_drew ?_ | refine blk_alloc ?_ _)); exact BK189.out) hb); have n2_ := Aside0.mk (below_step (by repeat (first | (with_reducible first | exact HB.out | apply below_alloc | apply pw_below_drewN | apply below_drew1 | refine below_set ?_ GE188.out | refine below_set ?_ GE189.out) | exact HB.out)) hb); clear BK188; clear BK189; clear HB; have BK188 := n0_; have BK189 := n1_; have HB := n2_; clear n0_ n1_ n2_; (try clear hb); (try clear hb2); (try clear hk); (try clear hi); have hcz33_0 : w32.cell? ⟨gb188, 0, none⟩ = some (.int .i64 a0_0) := (blk_cell BK188.out 0).trans rfl; have hcz33_1 : w32.cell? ⟨gb188, 1, none⟩ = some (.int .i64 a0_1) := (blk_cell BK188.out 1).trans rfl; have hcz33_2 : w32.cell? ⟨gb188, 2, none⟩ = some (.int .i64 a0_2) := (blk_cell BK188.out 2).trans rfl; have hcz33_3 : w32.cell? ⟨gb188, 3, none⟩ = some (.int .i64 a0_3) := (blk_cell BK188.out 3).trans rfl; have hcz33_4 : w32.cell? ⟨gb188, 4, none⟩ = some (.string a0_4) := (blk_cell BK188.out 4).trans rfl; have hfz33_0 := blk_frozen BK188.out 0; have hfz33_1 := blk_frozen BK188.out 1; have hfz33_2 := blk_frozen BK188.out 2; have hfz33_3 := blk_frozen BK188.out 3; have hfz33_4 := blk_frozen BK188.out 4))
              go_ret
              exact ⟨by first | rfl | (simp [errW_none, errW_some] <;> rfl) | (simp [*, errW_none, errW_some] <;> rfl), by repeat (first | (with_reducible first | exact HB.out | apply below_alloc | apply pw_below_drewN | apply below_drew1 | refine below_set ?_ GE188.out | refine below_set ?_ GE189.out) | exact HB.out)⟩
            · rw [if_neg c28] at H
              have c28b0 : (a0_1 == 1) = false := beq_eq_false_iff_ne.mpr c28
              have c28b1 : (a0_1 != 1) = true := bne_iff_ne.mpr c28
              by_cases c34 : a0_1 = 2
              · rw [if_pos c34] at H
                have c34b0 : (a0_1 == 2) = true := beq_iff_eq.mpr c34
                have c34b1 : (a0_1 != 2) = false := bne_eq_false_iff_eq.mpr c34
                clear c34
                obtain rfl := Option.some.inj H
                have hnb35 := NB189_188.out
                have hnc35 := NB188_189.out
                have hcz36_0 : wc.cell? ⟨gb189, 0, none⟩ = some (.int .i64 a1_0) := (blk_cell BK189.out 0).trans rfl
                have hcz36_1 : wc.cell? ⟨gb189, 1, none⟩ = some (.int .i64 a1_1) := (blk_cell BK189.out 1).trans rfl
                have hcz36_2 : wc.cell? ⟨gb189, 2, none⟩ = some (.string a1_2) := (blk_cell BK189.out 2).trans rfl
                have hfz36_0 := blk_frozen BK189.out 0
                have hfz36_1 := blk_frozen BK189.out 1
                have hfz36_2 := blk_frozen BK189.out 2
                have hcz37_0 : wc.cell? ⟨gb188, 0, none⟩ = some (.int .i64 a0_0) := (blk_cell BK188.out 0).trans rfl
                have hcz37_1 : wc.cell? ⟨gb188, 1, none⟩ = some (.int .i64 a0_1) := (blk_cell BK188.out 1).trans rfl
                have hcz37_2 : wc.cell? ⟨gb188, 2, none⟩ = some (.int .i64 a0_2) := (blk_cell BK188.out 2).trans rfl
                have hcz37_3 : wc.cell? ⟨gb188, 3, none⟩ = some (.int .i64 a0_3) := (blk_cell BK188.out 3).trans rfl
                have hcz37_4 : wc.cell? ⟨gb188, 4, none⟩ = some (.string a0_4) := (blk_cell BK188.out 4).trans rfl
                have hfz37_0 := blk_frozen BK188.out 0
                have hfz37_1 := blk_frozen BK188.out 1
                have hfz37_2 := blk_frozen BK188.out 2
                have hfz37_3 := blk_frozen BK188.out 3
                have hfz37_4 := blk_frozen BK188.out 4
                go_wp2_with (first | ((with_reducible refine gate_callee (f := 18) rfl ?_); refine goesL_ (some 32) rfl rfl Try.func18 (by kernel_rfl) rfl #[.agg #[.int .i64 a1_0, .int .i64 a1_1, .string a1_2], .agg #[.int .i64 a0_2, .int .i64 a0_3, .string a0_4]] rfl (by (try simp only [List.map_toArray, List.map_cons, List.map_nil]); first | done | rfl | (simp only [List.length_drop, List.length_take]; rfl)) ?_; (with_reducible refine (ref05_Compare.calls kj14 a1_0 a1_1 a1_2 a0_2 a0_3 a0_4 t190 _ A27.out).mono ?_); rintro e w38 ⟨rfl, hb⟩; refine ⟨_, rfl, ?_⟩; have n0_ := Aside0.mk (blk_below (g := gb188) (o := .cells #[.int .i64 a0_0, .int .i64 a0_1, .int .i64 a0_2, .int .i64 a0_3, .string a0_4] 26 (0, 0)) (by (with_reducible repeat (first | refine blk_drewN ?_ _ | refine blk_drew ?_ | refine blk_alloc ?_ _)); exact BK188.out) hb); have n1_ := Aside0.mk (blk_below (g := gb189) (o := .cells #[.int .i64 a1_0, .int .i64 a1_1, .string a1_2] 24 (0, 0)) (by (with_reducible repeat (first | refine blk_drewN ?_ _ | refine blk_drew ?_ | refine blk_alloc ?_ _)); exact BK189.out) hb); have n2_ := Aside0.mk (below_step (by repeat (first | (with_reducible first | exact HB.out | apply below_alloc | apply pw_below_drewN | apply below_drew1 | refine below_set ?_ GE188.out | refine below_set ?_ GE189.out) | exact HB.out)) hb); clear BK188; clear BK189; clear HB; have BK188 := n0_; have BK189 := n1_; have HB := n2_; clear n0_ n1_ n2_; (try clear hb); (try clear hb2); (try clear hk); (try clear hi); have hcz39_0 : w38.cell? ⟨gb188, 0, none⟩ = some (.int .i64 a0_0) := (blk_cell BK188.out 0).trans rfl; have hcz39_1 : w38.cell? ⟨gb188, 1, none⟩ = some (.int .i64 a0_1) := (blk_cell BK188.out 1).trans rfl; have hcz39_2 : w38.cell? ⟨gb188, 2, none⟩ = some (.int .i64 a0_2) := (blk_cell BK188.out 2).trans rfl; have hcz39_3 : w38.cell? ⟨gb188, 3, none⟩ = some (.int .i64 a0_3) := (blk_cell BK188.out 3).trans rfl; have hcz39_4 : w38.cell? ⟨gb188, 4, none⟩ = some (.string a0_4) := (blk_cell BK188.out 4).trans rfl; have hfz39_0 := blk_frozen BK188.out 0; have hfz39_1 := blk_frozen BK188.out 1; have hfz39_2 := blk_frozen BK188.out 2; have hfz39_3 := blk_frozen BK188.out 3; have hfz39_4 := blk_frozen BK188.out 4))
                go_ret
                exact ⟨by first | rfl | (simp [errW_none, errW_some] <;> rfl) | (simp [*, errW_none, errW_some] <;> rfl), by repeat (first | (with_reducible first | exact HB.out | apply below_alloc | apply pw_below_drewN | apply below_drew1 | refine below_set ?_ GE188.out | refine below_set ?_ GE189.out) | exact HB.out)⟩
              · rw [if_neg c34] at H
                have c34b0 : (a0_1 == 2) = false := beq_eq_false_iff_ne.mpr c34
                have c34b1 : (a0_1 != 2) = true := bne_iff_ne.mpr c34
                by_cases c40 : a0_1 = 3
                · rw [if_pos c40] at H
                  have c40b0 : (a0_1 == 3) = true := beq_iff_eq.mpr c40
                  have c40b1 : (a0_1 != 3) = false := bne_eq_false_iff_eq.mpr c40
                  clear c40
                  obtain rfl := Option.some.inj H
                  have hnb41 := NB189_188.out
                  have hnc41 := NB188_189.out
                  have hcz42_0 : wc.cell? ⟨gb189, 0, none⟩ = some (.int .i64 a1_0) := (blk_cell BK189.out 0).trans rfl
                  have hcz42_1 : wc.cell? ⟨gb189, 1, none⟩ = some (.int .i64 a1_1) := (blk_cell BK189.out 1).trans rfl
                  have hcz42_2 : wc.cell? ⟨gb189, 2, none⟩ = some (.string a1_2) := (blk_cell BK189.out 2).trans rfl
                  have hfz42_0 := blk_frozen BK189.out 0
                  have hfz42_1 := blk_frozen BK189.out 1
                  have hfz42_2 := blk_frozen BK189.out 2
                  have hcz43_0 : wc.cell? ⟨gb188, 0, none⟩ = some (.int .i64 a0_0) := (blk_cell BK188.out 0).trans rfl
                  have hcz43_1 : wc.cell? ⟨gb188, 1, none⟩ = some (.int .i64 a0_1) := (blk_cell BK188.out 1).trans rfl
                  have hcz43_2 : wc.cell? ⟨gb188, 2, none⟩ = some (.int .i64 a0_2) := (blk_cell BK188.out 2).trans rfl
                  have hcz43_3 : wc.cell? ⟨gb188, 3, none⟩ = some (.int .i64 a0_3) := (blk_cell BK188.out 3).trans rfl
                  have hcz43_4 : wc.cell? ⟨gb188, 4, none⟩ = some (.string a0_4) := (blk_cell BK188.out 4).trans rfl
                  have hfz43_0 := blk_frozen BK188.out 0
                  have hfz43_1 := blk_frozen BK188.out 1
                  have hfz43_2 := blk_frozen BK188.out 2
                  have hfz43_3 := blk_frozen BK188.out 3
                  have hfz43_4 := blk_frozen BK188.out 4
                  go_wp2_with (first | ((with_reducible refine gate_callee (f := 18) rfl ?_); refine goesL_ (some 32) rfl rfl Try.func18 (by kernel_rfl) rfl #[.agg #[.int .i64 a1_0, .int .i64 a1_1, .string a1_2], .agg #[.int .i64 a0_2, .int .i64 a0_3, .string a0_4]] rfl (by (try simp only [List.map_toArray, List.map_cons, List.map_nil]); first | done | rfl | (simp only [List.length_drop, List.length_take]; rfl)) ?_; (with_reducible refine (ref05_Compare.calls kj14 a1_0 a1_1 a1_2 a0_2 a0_3 a0_4 t190 _ A27.out).mono ?_); rintro e w44 ⟨rfl, hb⟩; refine ⟨_, rfl, ?_⟩; have n0_ := Aside0.mk (blk_below (g := gb188) (o := .cells #[.int .i64 a0_0, .int .i64 a0_1, .int .i64 a0_2, .int .i64 a0_3, .string a0_4] 26 (0, 0)) (by (with_reducible repeat (first | refine blk_drewN ?_ _ | refine blk_drew ?_ | refine blk_alloc ?_ _)); exact BK188.out) hb); have n1_ := Aside0.mk (blk_below (g := gb189) (o := .cells #[.int .i64 a1_0, .int .i64 a1_1, .string a1_2] 24 (0, 0)) (by (with_reducible repeat (first | refine blk_drewN ?_ _ | refine blk_drew ?_ | refine blk_alloc ?_ _)); exact BK189.out) hb); have n2_ := Aside0.mk (below_step (by repeat (first | (with_reducible first | exact HB.out | apply below_alloc | apply pw_below_drewN | apply below_drew1 | refine below_set ?_ GE188.out | refine below_set ?_ GE189.out) | exact HB.out)) hb); clear BK188; clear BK189; clear HB; have BK188 := n0_; have BK189 := n1_; have HB := n2_; clear n0_ n1_ n2_; (try clear hb); (try clear hb2); (try clear hk); (try clear hi); have hcz45_0 : w44.cell? ⟨gb188, 0, none⟩ = some (.int .i64 a0_0) := (blk_cell BK188.out 0).trans rfl; have hcz45_1 : w44.cell? ⟨gb188, 1, none⟩ = some (.int .i64 a0_1) := (blk_cell BK188.out 1).trans rfl; have hcz45_2 : w44.cell? ⟨gb188, 2, none⟩ = some (.int .i64 a0_2) := (blk_cell BK188.out 2).trans rfl; have hcz45_3 : w44.cell? ⟨gb188, 3, none⟩ = some (.int .i64 a0_3) := (blk_cell BK188.out 3).trans rfl; have hcz45_4 : w44.cell? ⟨gb188, 4, none⟩ = some (.string a0_4) := (blk_cell BK188.out 4).trans rfl; have hfz45_0 := blk_frozen BK188.out 0; have hfz45_1 := blk_frozen BK188.out 1; have hfz45_2 := blk_frozen BK188.out 2; have hfz45_3 := blk_frozen BK188.out 3; have hfz45_4 := blk_frozen BK188.out 4))
                  go_ret
                  exact ⟨by first | rfl | (simp [errW_none, errW_some] <;> rfl) | (simp [*, errW_none, errW_some] <;> rfl), by repeat (first | (with_reducible first | exact HB.out | apply below_alloc | apply pw_below_drewN | apply below_drew1 | refine below_set ?_ GE188.out | refine below_set ?_ GE189.out) | exact HB.out)⟩
                · rw [if_neg c40] at H
                  have c40b0 : (a0_1 == 3) = false := beq_eq_false_iff_ne.mpr c40
                  have c40b1 : (a0_1 != 3) = true := bne_iff_ne.mpr c40
                  by_cases c46 : a0_1 = 4
                  · rw [if_pos c46] at H
                    have c46b0 : (a0_1 == 4) = true := beq_iff_eq.mpr c46
                    have c46b1 : (a0_1 != 4) = false := bne_eq_false_iff_eq.mpr c46
                    clear c46
                    obtain rfl := Option.some.inj H
                    have hnb47 := NB189_188.out
                    have hnc47 := NB188_189.out
                    have hcz48_0 : wc.cell? ⟨gb189, 0, none⟩ = some (.int .i64 a1_0) := (blk_cell BK189.out 0).trans rfl
                    have hcz48_1 : wc.cell? ⟨gb189, 1, none⟩ = some (.int .i64 a1_1) := (blk_cell BK189.out 1).trans rfl
                    have hcz48_2 : wc.cell? ⟨gb189, 2, none⟩ = some (.string a1_2) := (blk_cell BK189.out 2).trans rfl
                    have hfz48_0 := blk_frozen BK189.out 0
                    have hfz48_1 := blk_frozen BK189.out 1
                    have hfz48_2 := blk_frozen BK189.out 2
                    have hcz49_0 : wc.cell? ⟨gb188, 0, none⟩ = some (.int .i64 a0_0) := (blk_cell BK188.out 0).trans rfl
                    have hcz49_1 : wc.cell? ⟨gb188, 1, none⟩ = some (.int .i64 a0_1) := (blk_cell BK188.out 1).trans rfl
                    have hcz49_2 : wc.cell? ⟨gb188, 2, none⟩ = some (.int .i64 a0_2) := (blk_cell BK188.out 2).trans rfl
                    have hcz49_3 : wc.cell? ⟨gb188, 3, none⟩ = some (.int .i64 a0_3) := (blk_cell BK188.out 3).trans rfl
                    have hcz49_4 : wc.cell? ⟨gb188, 4, none⟩ = some (.string a0_4) := (blk_cell BK188.out 4).trans rfl
                    have hfz49_0 := blk_frozen BK188.out 0
                    have hfz49_1 := blk_frozen BK188.out 1
                    have hfz49_2 := blk_frozen BK188.out 2
                    have hfz49_3 := blk_frozen BK188.out 3
                    have hfz49_4 := blk_frozen BK188.out 4
                    go_wp2_with (first | ((with_reducible refine gate_callee (f := 18) rfl ?_); refine goesL_ (some 32) rfl rfl Try.func18 (by kernel_rfl) rfl #[.agg #[.int .i64 a1_0, .int .i64 a1_1, .string a1_2], .agg #[.int .i64 a0_2, .int .i64 a0_3, .string a0_4]] rfl (by (try simp only [List.map_toArray, List.map_cons, List.map_nil]); first | done | rfl | (simp only [List.length_drop, List.length_take]; rfl)) ?_; (with_reducible refine (ref05_Compare.calls kj14 a1_0 a1_1 a1_2 a0_2 a0_3 a0_4 t190 _ A27.out).mono ?_); rintro e w50 ⟨rfl, hb⟩; refine ⟨_, rfl, ?_⟩; have n0_ := Aside0.mk (blk_below (g := gb188) (o := .cells #[.int .i64 a0_0, .int .i64 a0_1, .int .i64 a0_2, .int .i64 a0_3, .string a0_4] 26 (0, 0)) (by (with_reducible repeat (first | refine blk_drewN ?_ _ | refine blk_drew ?_ | refine blk_alloc ?_ _)); exact BK188.out) hb); have n1_ := Aside0.mk (blk_below (g := gb189) (o := .cells #[.int .i64 a1_0, .int .i64 a1_1, .string a1_2] 24 (0, 0)) (by (with_reducible repeat (first | refine blk_drewN ?_ _ | refine blk_drew ?_ | refine blk_alloc ?_ _)); exact BK189.out) hb); have n2_ := Aside0.mk (below_step (by repeat (first | (with_reducible first | exact HB.out | apply below_alloc | apply pw_below_drewN | apply below_drew1 | refine below_set ?_ GE188.out | refine below_set ?_ GE189.out) | exact HB.out)) hb); clear BK188; clear BK189; clear HB; have BK188 := n0_; have BK189 := n1_; have HB := n2_; clear n0_ n1_ n2_; (try clear hb); (try clear hb2); (try clear hk); (try clear hi); have hcz51_0 : w50.cell? ⟨gb188, 0, none⟩ = some (.int .i64 a0_0) := (blk_cell BK188.out 0).trans rfl; have hcz51_1 : w50.cell? ⟨gb188, 1, none⟩ = some (.int .i64 a0_1) := (blk_cell BK188.out 1).trans rfl; have hcz51_2 : w50.cell? ⟨gb188, 2, none⟩ = some (.int .i64 a0_2) := (blk_cell BK188.out 2).trans rfl; have hcz51_3 : w50.cell? ⟨gb188, 3, none⟩ = some (.int .i64 a0_3) := (blk_cell BK188.out 3).trans rfl; have hcz51_4 : w50.cell? ⟨gb188, 4, none⟩ = some (.string a0_4) := (blk_cell BK188.out 4).trans rfl; have hfz51_0 := blk_frozen BK188.out 0; have hfz51_1 := blk_frozen BK188.out 1; have hfz51_2 := blk_frozen BK188.out 2; have hfz51_3 := blk_frozen BK188.out 3; have hfz51_4 := blk_frozen BK188.out 4))
                    go_ret
                    exact ⟨by first | rfl | (simp [errW_none, errW_some] <;> rfl) | (simp [*, errW_none, errW_some] <;> rfl), by repeat (first | (with_reducible first | exact HB.out | apply below_alloc | apply pw_below_drewN | apply below_drew1 | refine below_set ?_ GE188.out | refine below_set ?_ GE189.out) | exact HB.out)⟩
                  · rw [if_neg c46] at H
                    have c46b0 : (a0_1 == 4) = false := beq_eq_false_iff_ne.mpr c46
                    have c46b1 : (a0_1 != 4) = true := bne_iff_ne.mpr c46
                    by_cases c52 : a0_1 = 5
                    · rw [if_pos c52] at H
                      have c52b0 : (a0_1 == 5) = true := beq_iff_eq.mpr c52
                      have c52b1 : (a0_1 != 5) = false := bne_eq_false_iff_eq.mpr c52
                      clear c52
                      obtain rfl := Option.some.inj H
                      have hnb53 := NB189_188.out
                      have hnc53 := NB188_189.out
                      have hcz54_0 : wc.cell? ⟨gb189, 0, none⟩ = some (.int .i64 a1_0) := (blk_cell BK189.out 0).trans rfl
                      have hcz54_1 : wc.cell? ⟨gb189, 1, none⟩ = some (.int .i64 a1_1) := (blk_cell BK189.out 1).trans rfl
                      have hcz54_2 : wc.cell? ⟨gb189, 2, none⟩ = some (.string a1_2) := (blk_cell BK189.out 2).trans rfl
                      have hfz54_0 := blk_frozen BK189.out 0
                      have hfz54_1 := blk_frozen BK189.out 1
                      have hfz54_2 := blk_frozen BK189.out 2
                      have hcz55_0 : wc.cell? ⟨gb188, 0, none⟩ = some (.int .i64 a0_0) := (blk_cell BK188.out 0).trans rfl
                      have hcz55_1 : wc.cell? ⟨gb188, 1, none⟩ = some (.int .i64 a0_1) := (blk_cell BK188.out 1).trans rfl
                      have hcz55_2 : wc.cell? ⟨gb188, 2, none⟩ = some (.int .i64 a0_2) := (blk_cell BK188.out 2).trans rfl
                      have hcz55_3 : wc.cell? ⟨gb188, 3, none⟩ = some (.int .i64 a0_3) := (blk_cell BK188.out 3).trans rfl
                      have hcz55_4 : wc.cell? ⟨gb188, 4, none⟩ = some (.string a0_4) := (blk_cell BK188.out 4).trans rfl
                      have hfz55_0 := blk_frozen BK188.out 0
                      have hfz55_1 := blk_frozen BK188.out 1
                      have hfz55_2 := blk_frozen BK188.out 2
                      have hfz55_3 := blk_frozen BK188.out 3
                      have hfz55_4 := blk_frozen BK188.out 4
                      go_wp2_with (first | ((with_reducible refine gate_callee (f := 18) rfl ?_); refine goesL_ (some 32) rfl rfl Try.func18 (by kernel_rfl) rfl #[.agg #[.int .i64 a1_0, .int .i64 a1_1, .string a1_2], .agg #[.int .i64 a0_2, .int .i64 a0_3, .string a0_4]] rfl (by (try simp only [List.map_toArray, List.map_cons, List.map_nil]); first | done | rfl | (simp only [List.length_drop, List.length_take]; rfl)) ?_; (with_reducible refine (ref05_Compare.calls kj14 a1_0 a1_1 a1_2 a0_2 a0_3 a0_4 t190 _ A27.out).mono ?_); rintro e w56 ⟨rfl, hb⟩; refine ⟨_, rfl, ?_⟩; have n0_ := Aside0.mk (blk_below (g := gb188) (o := .cells #[.int .i64 a0_0, .int .i64 a0_1, .int .i64 a0_2, .int .i64 a0_3, .string a0_4] 26 (0, 0)) (by (with_reducible repeat (first | refine blk_drewN ?_ _ | refine blk_drew ?_ | refine blk_alloc ?_ _)); exact BK188.out) hb); have n1_ := Aside0.mk (blk_below (g := gb189) (o := .cells #[.int .i64 a1_0, .int .i64 a1_1, .string a1_2] 24 (0, 0)) (by (with_reducible repeat (first | refine blk_drewN ?_ _ | refine blk_drew ?_ | refine blk_alloc ?_ _)); exact BK189.out) hb); have n2_ := Aside0.mk (below_step (by repeat (first | (with_reducible first | exact HB.out | apply below_alloc | apply pw_below_drewN | apply below_drew1 | refine below_set ?_ GE188.out | refine below_set ?_ GE189.out) | exact HB.out)) hb); clear BK188; clear BK189; clear HB; have BK188 := n0_; have BK189 := n1_; have HB := n2_; clear n0_ n1_ n2_; (try clear hb); (try clear hb2); (try clear hk); (try clear hi); have hcz57_0 : w56.cell? ⟨gb188, 0, none⟩ = some (.int .i64 a0_0) := (blk_cell BK188.out 0).trans rfl; have hcz57_1 : w56.cell? ⟨gb188, 1, none⟩ = some (.int .i64 a0_1) := (blk_cell BK188.out 1).trans rfl; have hcz57_2 : w56.cell? ⟨gb188, 2, none⟩ = some (.int .i64 a0_2) := (blk_cell BK188.out 2).trans rfl; have hcz57_3 : w56.cell? ⟨gb188, 3, none⟩ = some (.int .i64 a0_3) := (blk_cell BK188.out 3).trans rfl; have hcz57_4 : w56.cell? ⟨gb188, 4, none⟩ = some (.string a0_4) := (blk_cell BK188.out 4).trans rfl; have hfz57_0 := blk_frozen BK188.out 0; have hfz57_1 := blk_frozen BK188.out 1; have hfz57_2 := blk_frozen BK188.out 2; have hfz57_3 := blk_frozen BK188.out 3; have hfz57_4 := blk_frozen BK188.out 4))
                      go_ret
                      exact ⟨by first | rfl | (simp [errW_none, errW_some] <;> rfl) | (simp [*, errW_none, errW_some] <;> rfl), by repeat (first | (with_reducible first | exact HB.out | apply below_alloc | apply pw_below_drewN | apply below_drew1 | refine below_set ?_ GE188.out | refine below_set ?_ GE189.out) | exact HB.out)⟩
                    · rw [if_neg c52] at H
                      have c52b0 : (a0_1 == 5) = false := beq_eq_false_iff_ne.mpr c52
                      have c52b1 : (a0_1 != 5) = true := bne_iff_ne.mpr c52
                      by_cases c58 : a0_1 = 6
                      · rw [if_pos c58] at H
                        have c58b0 : (a0_1 == 6) = true := beq_iff_eq.mpr c58
                        have c58b1 : (a0_1 != 6) = false := bne_eq_false_iff_eq.mpr c58
                        clear c58
                        obtain rfl := Option.some.inj H
                        have hnb59 := NB189_188.out
                        have hnc59 := NB188_189.out
                        have hcz60_0 : wc.cell? ⟨gb189, 0, none⟩ = some (.int .i64 a1_0) := (blk_cell BK189.out 0).trans rfl
                        have hcz60_1 : wc.cell? ⟨gb189, 1, none⟩ = some (.int .i64 a1_1) := (blk_cell BK189.out 1).trans rfl
                        have hcz60_2 : wc.cell? ⟨gb189, 2, none⟩ = some (.string a1_2) := (blk_cell BK189.out 2).trans rfl
                        have hfz60_0 := blk_frozen BK189.out 0
                        have hfz60_1 := blk_frozen BK189.out 1
                        have hfz60_2 := blk_frozen BK189.out 2
                        have hcz61_0 : wc.cell? ⟨gb188, 0, none⟩ = some (.int .i64 a0_0) := (blk_cell BK188.out 0).trans rfl
                        have hcz61_1 : wc.cell? ⟨gb188, 1, none⟩ = some (.int .i64 a0_1) := (blk_cell BK188.out 1).trans rfl
                        have hcz61_2 : wc.cell? ⟨gb188, 2, none⟩ = some (.int .i64 a0_2) := (blk_cell BK188.out 2).trans rfl
                        have hcz61_3 : wc.cell? ⟨gb188, 3, none⟩ = some (.int .i64 a0_3) := (blk_cell BK188.out 3).trans rfl
                        have hcz61_4 : wc.cell? ⟨gb188, 4, none⟩ = some (.string a0_4) := (blk_cell BK188.out 4).trans rfl
                        have hfz61_0 := blk_frozen BK188.out 0
                        have hfz61_1 := blk_frozen BK188.out 1
                        have hfz61_2 := blk_frozen BK188.out 2
                        have hfz61_3 := blk_frozen BK188.out 3
                        have hfz61_4 := blk_frozen BK188.out 4
                        go_wp2_with (first | ((with_reducible refine gate_callee (f := 18) rfl ?_); refine goesL_ (some 32) rfl rfl Try.func18 (by kernel_rfl) rfl #[.agg #[.int .i64 a1_0, .int .i64 a1_1, .string a1_2], .agg #[.int .i64 a0_2, .int .i64 a0_3, .string a0_4]] rfl (by (try simp only [List.map_toArray, List.map_cons, List.map_nil]); first | done | rfl | (simp only [List.length_drop, List.length_take]; rfl)) ?_; (with_reducible refine (ref05_Compare.calls kj14 a1_0 a1_1 a1_2 a0_2 a0_3 a0_4 t190 _ A27.out).mono ?_); rintro e w62 ⟨rfl, hb⟩; refine ⟨_, rfl, ?_⟩; have n0_ := Aside0.mk (blk_below (g := gb188) (o := .cells #[.int .i64 a0_0, .int .i64 a0_1, .int .i64 a0_2, .int .i64 a0_3, .string a0_4] 26 (0, 0)) (by (with_reducible repeat (first | refine blk_drewN ?_ _ | refine blk_drew ?_ | refine blk_alloc ?_ _)); exact BK188.out) hb); have n1_ := Aside0.mk (blk_below (g := gb189) (o := .cells #[.int .i64 a1_0, .int .i64 a1_1, .string a1_2] 24 (0, 0)) (by (with_reducible repeat (first | refine blk_drewN ?_ _ | refine blk_drew ?_ | refine blk_alloc ?_ _)); exact BK189.out) hb); have n2_ := Aside0.mk (below_step (by repeat (first | (with_reducible first | exact HB.out | apply below_alloc | apply pw_below_drewN | apply below_drew1 | refine below_set ?_ GE188.out | refine below_set ?_ GE189.out) | exact HB.out)) hb); clear BK188; clear BK189; clear HB; have BK188 := n0_; have BK189 := n1_; have HB := n2_; clear n0_ n1_ n2_; (try clear hb); (try clear hb2); (try clear hk); (try clear hi); have hcz63_0 : w62.cell? ⟨gb188, 0, none⟩ = some (.int .i64 a0_0) := (blk_cell BK188.out 0).trans rfl; have hcz63_1 : w62.cell? ⟨gb188, 1, none⟩ = some (.int .i64 a0_1) := (blk_cell BK188.out 1).trans rfl; have hcz63_2 : w62.cell? ⟨gb188, 2, none⟩ = some (.int .i64 a0_2) := (blk_cell BK188.out 2).trans rfl; have hcz63_3 : w62.cell? ⟨gb188, 3, none⟩ = some (.int .i64 a0_3) := (blk_cell BK188.out 3).trans rfl; have hcz63_4 : w62.cell? ⟨gb188, 4, none⟩ = some (.string a0_4) := (blk_cell BK188.out 4).trans rfl; have hfz63_0 := blk_frozen BK188.out 0; have hfz63_1 := blk_frozen BK188.out 1; have hfz63_2 := blk_frozen BK188.out 2; have hfz63_3 := blk_frozen BK188.out 3; have hfz63_4 := blk_frozen BK188.out 4))
                        go_ret
                        exact ⟨by first | rfl | (simp [errW_none, errW_some] <;> rfl) | (simp [*, errW_none, errW_some] <;> rfl), by repeat (first | (with_reducible first | exact HB.out | apply below_alloc | apply pw_below_drewN | apply below_drew1 | refine below_set ?_ GE188.out | refine below_set ?_ GE189.out) | exact HB.out)⟩
                      · rw [if_neg c58] at H
                        have c58b0 : (a0_1 == 6) = false := beq_eq_false_iff_ne.mpr c58
                        have c58b1 : (a0_1 != 6) = true := bne_iff_ne.mpr c58
                        obtain rfl := Option.some.inj H
                        have hnb64 := NB189_188.out
                        have hnc64 := NB188_189.out
                        have hcz65_0 : wc.cell? ⟨gb189, 0, none⟩ = some (.int .i64 a1_0) := (blk_cell BK189.out 0).trans rfl
                        have hcz65_1 : wc.cell? ⟨gb189, 1, none⟩ = some (.int .i64 a1_1) := (blk_cell BK189.out 1).trans rfl
                        have hcz65_2 : wc.cell? ⟨gb189, 2, none⟩ = some (.string a1_2) := (blk_cell BK189.out 2).trans rfl
                        have hfz65_0 := blk_frozen BK189.out 0
                        have hfz65_1 := blk_frozen BK189.out 1
                        have hfz65_2 := blk_frozen BK189.out 2
                        have hcz66_0 : wc.cell? ⟨gb188, 0, none⟩ = some (.int .i64 a0_0) := (blk_cell BK188.out 0).trans rfl
                        have hcz66_1 : wc.cell? ⟨gb188, 1, none⟩ = some (.int .i64 a0_1) := (blk_cell BK188.out 1).trans rfl
                        have hcz66_2 : wc.cell? ⟨gb188, 2, none⟩ = some (.int .i64 a0_2) := (blk_cell BK188.out 2).trans rfl
                        have hcz66_3 : wc.cell? ⟨gb188, 3, none⟩ = some (.int .i64 a0_3) := (blk_cell BK188.out 3).trans rfl
                        have hcz66_4 : wc.cell? ⟨gb188, 4, none⟩ = some (.string a0_4) := (blk_cell BK188.out 4).trans rfl
                        have hfz66_0 := blk_frozen BK188.out 0
                        have hfz66_1 := blk_frozen BK188.out 1
                        have hfz66_2 := blk_frozen BK188.out 2
                        have hfz66_3 := blk_frozen BK188.out 3
                        have hfz66_4 := blk_frozen BK188.out 4
                        go_wp2_with (first | ((with_reducible refine gate_callee (f := 18) rfl ?_); refine goesL_ (some 32) rfl rfl Try.func18 (by kernel_rfl) rfl #[.agg #[.int .i64 a1_0, .int .i64 a1_1, .string a1_2], .agg #[.int .i64 a0_2, .int .i64 a0_3, .string a0_4]] rfl (by (try simp only [List.map_toArray, List.map_cons, List.map_nil]); first | done | rfl | (simp only [List.length_drop, List.length_take]; rfl)) ?_; (with_reducible refine (ref05_Compare.calls kj14 a1_0 a1_1 a1_2 a0_2 a0_3 a0_4 t190 _ A27.out).mono ?_); rintro e w67 ⟨rfl, hb⟩; refine ⟨_, rfl, ?_⟩; have n0_ := Aside0.mk (blk_below (g := gb188) (o := .cells #[.int .i64 a0_0, .int .i64 a0_1, .int .i64 a0_2, .int .i64 a0_3, .string a0_4] 26 (0, 0)) (by (with_reducible repeat (first | refine blk_drewN ?_ _ | refine blk_drew ?_ | refine blk_alloc ?_ _)); exact BK188.out) hb); have n1_ := Aside0.mk (blk_below (g := gb189) (o := .cells #[.int .i64 a1_0, .int .i64 a1_1, .string a1_2] 24 (0, 0)) (by (with_reducible repeat (first | refine blk_drewN ?_ _ | refine blk_drew ?_ | refine blk_alloc ?_ _)); exact BK189.out) hb); have n2_ := Aside0.mk (below_step (by repeat (first | (with_reducible first | exact HB.out | apply below_alloc | apply pw_below_drewN | apply below_drew1 | refine below_set ?_ GE188.out | refine below_set ?_ GE189.out) | exact HB.out)) hb); clear BK188; clear BK189; clear HB; have BK188 := n0_; have BK189 := n1_; have HB := n2_; clear n0_ n1_ n2_; (try clear hb); (try clear hb2); (try clear hk); (try clear hi); have hcz68_0 : w67.cell? ⟨gb188, 0, none⟩ = some (.int .i64 a0_0) := (blk_cell BK188.out 0).trans rfl; have hcz68_1 : w67.cell? ⟨gb188, 1, none⟩ = some (.int .i64 a0_1) := (blk_cell BK188.out 1).trans rfl; have hcz68_2 : w67.cell? ⟨gb188, 2, none⟩ = some (.int .i64 a0_2) := (blk_cell BK188.out 2).trans rfl; have hcz68_3 : w67.cell? ⟨gb188, 3, none⟩ = some (.int .i64 a0_3) := (blk_cell BK188.out 3).trans rfl; have hcz68_4 : w67.cell? ⟨gb188, 4, none⟩ = some (.string a0_4) := (blk_cell BK188.out 4).trans rfl; have hfz68_0 := blk_frozen BK188.out 0; have hfz68_1 := blk_frozen BK188.out 1; have hfz68_2 := blk_frozen BK188.out 2; have hfz68_3 := blk_frozen BK188.out 3; have hfz68_4 := blk_frozen BK188.out 4))
                        go_ret
                        exact ⟨by first | rfl | (simp [errW_none, errW_some] <;> rfl) | (simp [*, errW_none, errW_some] <;> rfl), by repeat (first | (with_reducible first | exact HB.out | apply below_alloc | apply pw_below_drewN | apply below_drew1 | refine below_set ?_ GE188.out | refine below_set ?_ GE189.out) | exact HB.out)⟩

end Go.Proofs.Ytnpfanmkjhpmlaa.PZon
