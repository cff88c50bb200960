-- Written by this session's program wip/gprint/gprint.py, over the kit's print, with given functions; no text of print.sh's.
import Derived.Test.YtnpfanmkjhpmlaaPZonx0
import Derived.Test.YtnpfanmkjhpmlaaPZonx2
import Derived.Test.YtnpfanmkjhpmlaaPZonx7
import Derived.Test.YtnpfanmkjhpmlaaPZonx9
import Derived.Test.YtnpfanmkjhpmlaaPZonx10
namespace Go.Proofs.Ytnpfanmkjhpmlaa.PZon
open Go.RowKit Go.Proofs.YtnpfanmkjhpmlaaW.PrintWords Go.Proofs.YtnpfanmkjhpmlaaW.PrintLast Go.Proofs.YtnpfanmkjhpmlaaW.PrintMore
attribute [local go_sem] max2_int min2_int max_two min_two max_three min_three max_four min_four   -- for this text's walks alone
set_option linter.unusedVariables false
set_option linter.unusedSimpArgs false

attribute [local go_sem high] eqA30
/-! ### law14_ZoneBare: function 6 -/
def law14_ZoneBare.j0 : Nat → Bool → Bool → Int → Int → Int → Int → ByteArray → Int → Int → Int → Int → ByteArray → Int → Int → ByteArray → Option (Bool)
  | 0, _, _, _, _, _, _, _, _, _, _, _, _, _, _, _ => none
  | k + 1, x5, x22, x226000, x226001, x226002, x226003, x226004, x228000, x228001, x228002, x228003, x228004, x228005, x228006, x228007 => if x22 = true then (if x5 = true then ((zone_None.f x228000 x228001 x228002 x228003 x228004 x228005 x228006 x228007 x226000 x226001 x226002 x226003 x226004).bind fun t228 => (if t228 = true then ((zone_Every.f x228000 x228001 x228002 x228003 x228004 x228005 x228006 x228007 x226000 x226001 x226002 x226003 x226004).bind fun t229 => (some (!t229))) else (some false))) else (some false)) else (if x5 = true then ((zone_None.f x228000 x228001 x228002 x228003 x228004 x228005 x228006 x228007 x226000 x226001 x226002 x226003 x226004).bind fun t230 => (if (t230 == (x226001 != 7)) = true then ((zone_Every.f x228000 x228001 x228002 x228003 x228004 x228005 x228006 x228007 x226000 x226001 x226002 x226003 x226004).bind fun t231 => (if (t231 == (x226001 == 7)) = true then ((zone_None.f 0 0 0 0 (⟨#[]⟩ : ByteArray) 0 0 (⟨#[]⟩ : ByteArray) x226000 x226001 x226002 x226003 x226004).bind fun t232 => (if t232 = true then ((zone_Join.f 0 0 0 0 (⟨#[]⟩ : ByteArray) 0 0 (⟨#[]⟩ : ByteArray) x228000 x228001 x228002 x228003 x228004 x228005 x228006 x228007).bind fun bt233 => (if (bt233.1 == x228000 && (bt233.2.1 == x228001 && ((bt233.2.2.1 == x228002 && (bt233.2.2.2.1 == x228003 && (bt233.2.2.2.2.1.toList == x228004.toList))) && ((bt233.2.2.2.2.2.1 == x228005 && (bt233.2.2.2.2.2.2.1 == x228006 && (bt233.2.2.2.2.2.2.2.toList == x228007.toList))))))) = true then ((zone_Join.f x228000 x228001 x228002 x228003 x228004 x228005 x228006 x228007 0 0 0 0 (⟨#[]⟩ : ByteArray) 0 0 (⟨#[]⟩ : ByteArray)).bind fun bt241 => (some (bt241.1 == x228000 && (bt241.2.1 == x228001 && ((bt241.2.2.1 == x228002 && (bt241.2.2.2.1 == x228003 && (bt241.2.2.2.2.1.toList == x228004.toList))) && ((bt241.2.2.2.2.2.1 == x228005 && (bt241.2.2.2.2.2.2.1 == x228006 && (bt241.2.2.2.2.2.2.2.toList == x228007.toList))))))))) else (some false))) else (some false))) else (some false))) else (some false))) else (some false))
def law14_ZoneBare.f (k : Nat) (a0 : Int) (a1_0 : Int) (a1_1 : Int) (a1_2 : Int) (a1_3 : Int) (a1_4 : ByteArray) : Option (Bool) := (law14_shown.f).bind fun t226 => (if a1_1 < 1 then (law14_ZoneBare.j0 k t226 true a1_0 a1_1 a1_2 a1_3 a1_4 (wrap64 (1 + (wrap64 (a0)))) (wrap64 (1 + (wrap64 (a0)))) 0 0 (⟨#[]⟩ : ByteArray) 0 0 (⟨#[]⟩ : ByteArray)) else (law14_ZoneBare.j0 k t226 (decide (a1_1 > 8)) a1_0 a1_1 a1_2 a1_3 a1_4 (wrap64 (1 + (wrap64 (a0)))) (wrap64 (1 + (wrap64 (a0)))) 0 0 (⟨#[]⟩ : ByteArray) 0 0 (⟨#[]⟩ : ByteArray)))
theorem law14_ZoneBare.mono_l : ∀ k, (∀ y0 y1 y2 y3 y4 y5 y6 y7 y8 y9 y10 y11 y12 y13 y14, LeO (law14_ZoneBare.j0 k y0 y1 y2 y3 y4 y5 y6 y7 y8 y9 y10 y11 y12 y13 y14) (law14_ZoneBare.j0 (k + 1) y0 y1 y2 y3 y4 y5 y6 y7 y8 y9 y10 y11 y12 y13 y14))
  | 0 => fun _ _ _ _ _ _ _ _ _ _ _ _ _ _ _ r h => by simp [law14_ZoneBare.j0] at h
  | k + 1 => by
    have ih0 := law14_ZoneBare.mono_l k
    · intro y0 y1 y2 y3 y4 y5 y6 y7 y8 y9 y10 y11 y12 y13 y14
      unfold law14_ZoneBare.j0
      repeat' first
      | (with_reducible exact ih0 _ _ _ _ _ _ _ _ _ _ _ _ _ _ _)
      | (with_reducible exact LeO.refl _)
      | (with_reducible exact LeO.none _)
      | (with_reducible refine LeO.ite ?_ ?_)
      | (with_reducible refine LeO.bind ?_ (fun _ => ?_))
      | exact ih0 _ _ _ _ _ _ _ _ _ _ _ _ _ _ _
      | exact LeO.none _
      | refine LeO.ite ?_ ?_
      | refine LeO.bind ?_ (fun _ => ?_)
theorem law14_ZoneBare.mono : ∀ a0 a1 a2 a3 a4 a5 k, LeO (law14_ZoneBare.f k a0 a1 a2 a3 a4 a5) (law14_ZoneBare.f (k + 1) a0 a1 a2 a3 a4 a5) := by
  intro a0 a1 a2 a3 a4 a5 k
  have ih0 := law14_ZoneBare.mono_l k
  unfold law14_ZoneBare.f
  repeat' first
      | (with_reducible exact ih0 _ _ _ _ _ _ _ _ _ _ _ _ _ _ _)
      | (with_reducible exact LeO.refl _)
      | (with_reducible exact LeO.none _)
      | (with_reducible refine LeO.ite ?_ ?_)
      | (with_reducible refine LeO.bind ?_ (fun _ => ?_))
      | exact ih0 _ _ _ _ _ _ _ _ _ _ _ _ _ _ _
      | exact LeO.none _
      | refine LeO.ite ?_ ?_
      | refine LeO.bind ?_ (fun _ => ?_)
def law14_ZoneBare.T6 : Bool × List (List Nat × List Nat) := (true, [([], []), ([0], [0]), ([1], [1]), ([1], [1]), ([2, 3, 1, 1], [1, 2, 3]), ([1], [1]), ([5, 1], [1, 5]), ([6, 1], [1, 6]), ([4, 7, 1], [1, 4, 7]), ([1, 8], [1, 8]), ([9, 4], [9]), ([10], [10]), ([10], [10]), ([11, 12, 10, 10], [10, 11, 12]), ([10], [10]), ([14, 10], [10, 14]), ([15, 10], [10, 15]), ([13, 16, 10], [10, 13, 16]), ([10, 17], [10, 17]), ([18, 13], [18]), ([19], [19]), ([19], [19]), ([20, 21, 19, 19], [19, 20, 21]), ([19, 22], [19, 22]), ([23, 22], [23]), ([24], [24]), ([24], [24]), ([25, 26, 24, 24], [24, 25, 26]), ([24], [24]), ([27, 28, 24], [24, 27, 28]), ([24, 29], [24, 29]), ([30, 27], [30]), ([31], [31]), ([31], [31]), ([32, 33, 31, 31], [31, 32, 33]), ([31], [31]), ([34, 35, 31], [31, 34, 35]), ([31, 36], [31, 36]), ([37, 34, 0, 1, 2, 3, 4, 5, 6, 7, 8, 9, 10, 11, 12, 13, 14, 15, 16, 17, 18, 19, 20, 21, 22, 23, 24, 25, 26, 27, 28, 29, 30, 31, 32, 33, 34, 35, 36, 37], [37])])
def law14_ZoneBare.B6 : List Nat := [0, 1, 3, 3, 15, 3, 35, 99, 255, 511, 1023, 2047, 2047, 8191, 2047, 18431, 51199, 131071, 262143, 524287, 1048575, 1048575, 4194303, 8388607, 16777215, 33554431, 33554431, 134217727, 33554431, 536870911, 1073741823, 2147483647, 4294967295, 4294967295, 17179869183, 4294967295, 68719476735, 137438953471, 274877906943]
theorem law14_ZoneBare.tab6 : rtab .any (opsOf Try.f6 6) = law14_ZoneBare.T6 := by kernel_rfl
theorem law14_ZoneBare.bits6 : waitsOk law14_ZoneBare.T6.2 law14_ZoneBare.B6 = true := by kernel_rfl
set_option maxHeartbeats 8000000 in
set_option maxRecDepth 100000 in
theorem law14_ZoneBare.calls (k : Nat) (a0 : Int) (a1_0 : Int) (a1_1 : Int) (a1_2 : Int) (a1_3 : Int) (a1_4 : ByteArray) (r : Bool) (w : World) (hr_ : Aside0 (r = true)) (h : law14_ZoneBare.f k a0 a1_0 a1_1 a1_2 a1_3 a1_4 = some r) :
    Calls Try.prog 6 #[.int .u8 a0, .agg #[.int .i64 a1_0, .int .i64 a1_1, .int .i64 a1_2, .int .i64 a1_3, .string a1_4]] w fun e w' => e = .returned (.bool r) ∧ Below w.heap.size w w' := by
  have hu26 := Try.underlying26
  have hu30 := Try.underlying30
  have HB := Aside0.mk (Below.refl w.heap.size w)
  have H : ((law14_shown.f).bind fun t226 => (if a1_1 < 1 then (law14_ZoneBare.j0 k t226 true a1_0 a1_1 a1_2 a1_3 a1_4 (wrap64 (1 + (wrap64 (a0)))) (wrap64 (1 + (wrap64 (a0)))) 0 0 (⟨#[]⟩ : ByteArray) 0 0 (⟨#[]⟩ : ByteArray)) else (law14_ZoneBare.j0 k t226 (decide (a1_1 > 8)) a1_0 a1_1 a1_2 a1_3 a1_4 (wrap64 (1 + (wrap64 (a0)))) (wrap64 (1 + (wrap64 (a0)))) 0 0 (⟨#[]⟩ : ByteArray) 0 0 (⟨#[]⟩ : ByteArray)))) = some r := h
  clear h
  replace H := Option.bind_eq_some_iff.mp H
  obtain ⟨t226, A30, H⟩ := H
  replace H : (if a1_1 < 1 then (law14_ZoneBare.j0 k t226 true a1_0 a1_1 a1_2 a1_3 a1_4 (wrap64 (1 + (wrap64 (a0)))) (wrap64 (1 + (wrap64 (a0)))) 0 0 (⟨#[]⟩ : ByteArray) 0 0 (⟨#[]⟩ : ByteArray)) else (law14_ZoneBare.j0 k t226 (decide (a1_1 > 8)) a1_0 a1_1 a1_2 a1_3 a1_4 (wrap64 (1 + (wrap64 (a0)))) (wrap64 (1 + (wrap64 (a0)))) 0 0 (⟨#[]⟩ : ByteArray) 0 0 (⟨#[]⟩ : ByteArray))) = some r := H
  have A3 := Aside0.mk A30
  clear A30
  have HC4 := Aside0.mk H
  clear H
  go_enter Try.func6, Try.ntmps6
  go_upto_region 4 with (first | ((with_reducible refine gate_dst (N := 3) rfl ?_); refine box_event ?hg (N := 3) ?hd (cs := #[.int .i64 a1_0, .int .i64 a1_1, .int .i64 a1_2, .int .i64 a1_3, .string a1_4]) (t := 26) ?hr ?_; (case hd => rfl); (case hg => rfl); (case hr => first | (go_simp; done) | (go_simp; rfl)); intro gb225 hg w5 hbox hb; have n0_ := Aside0.mk (below_step (by repeat (first | (with_reducible first | exact HB.out | apply below_alloc | apply pw_below_drewN | apply below_drew1) | exact HB.out)) hb); have n1_ := Aside0.mk (hbox); have n2_ := Aside0.mk ((by rw [hg]; exact (below_size (by repeat (first | (with_reducible first | exact HB.out | apply below_alloc | apply pw_below_drewN | apply below_drew1) | exact HB.out))) : w.heap.size ≤ gb225)); have n3_ := Aside0.mk ((by rw [hg]; exact (below_size (by repeat (first | (with_reducible first | exact HB.out | apply below_alloc | apply pw_below_drewN | apply below_drew1) | exact HB.out))) : w.heap.size ≤ gb225)); clear HB; have HB := n0_; have BK225 := n1_; have GW225 := n2_; have GE225 := n3_; clear n0_ n1_ n2_ n3_; clear hb hbox hg) | ((with_reducible refine gate_callee (f := 8) rfl ?_); refine goesL_ (some 8) rfl rfl Try.func8 (by kernel_rfl) rfl #[] rfl (by (try simp only [List.map_toArray, List.map_cons, List.map_nil]); first | done | rfl | (simp only [List.length_drop, List.length_take]; rfl)) ?_; (with_reducible refine (law14_shown.calls  t226 _ A3.out).mono ?_); rintro e w6 ⟨rfl, hb⟩; refine ⟨_, rfl, ?_⟩; have n0_ := Aside0.mk (blk_below (g := gb225) (o := .cells #[.int .i64 a1_0, .int .i64 a1_1, .int .i64 a1_2, .int .i64 a1_3, .string a1_4] 26 (0, 0)) (by (with_reducible repeat (first | refine blk_drewN ?_ _ | refine blk_drew ?_ | refine blk_alloc ?_ _)); exact BK225.out) hb); have n1_ := Aside0.mk (below_step (by repeat (first | (with_reducible first | exact HB.out | apply below_alloc | apply pw_below_drewN | apply below_drew1 | refine below_set ?_ GE225.out) | exact HB.out)) hb); clear BK225; clear HB; have BK225 := n0_; have HB := n1_; clear n0_ n1_; (try clear hb); (try clear hb2); (try clear hk); (try clear hi)) | ((with_reducible refine gate_dst (N := 7) rfl ?_); refine box_event ?hg (N := 7) ?hd (cs := #[.int .i64 0, .int .i64 0, .int .i64 0, .int .i64 0, .string (⟨#[]⟩ : ByteArray), .int .i64 0, .int .i64 0, .string (⟨#[]⟩ : ByteArray)]) (t := 30) ?hr ?_; (case hd => rfl); (case hg => rfl); (case hr => first | (go_simp; done) | (go_simp; rfl)); intro gb227 hg w7 hbox hb; have n0_ := Aside0.mk (blk_below (g := gb225) (o := .cells #[.int .i64 a1_0, .int .i64 a1_1, .int .i64 a1_2, .int .i64 a1_3, .string a1_4] 26 (0, 0)) (by (with_reducible repeat (first | refine blk_drewN ?_ _ | refine blk_drew ?_ | refine blk_alloc ?_ _)); exact BK225.out) hb); have n1_ := Aside0.mk (below_step (by repeat (first | (with_reducible first | exact HB.out | apply below_alloc | apply pw_below_drewN | apply below_drew1 | refine below_set ?_ GE225.out) | exact HB.out)) hb); have n2_ := Aside0.mk (hbox); have n3_ := Aside0.mk ((by rw [hg]; exact (below_size (by repeat (first | (with_reducible first | exact HB.out | apply below_alloc | apply pw_below_drewN | apply below_drew1 | refine below_set ?_ GE225.out) | exact HB.out))) : w.heap.size ≤ gb227)); have n4_ := Aside0.mk ((by rw [hg]; exact (below_size (by repeat (first | (with_reducible first | exact HB.out | apply below_alloc | apply pw_below_drewN | apply below_drew1 | refine below_set ?_ GE225.out) | exact HB.out))) : w.heap.size ≤ gb227)); have n5_ := Aside0.mk ((by rw [hg]; exact Nat.ne_of_lt (blk_lt (g := gb225) (o := .cells #[.int .i64 a1_0, .int .i64 a1_1, .int .i64 a1_2, .int .i64 a1_3, .string a1_4] 26 (0, 0)) (by (with_reducible repeat (first | refine blk_drewN ?_ _ | refine blk_drew ?_ | refine blk_alloc ?_ _)); exact BK225.out)) : gb225 ≠ gb227)); have n6_ := Aside0.mk ((by rw [hg]; exact Nat.ne_of_gt (blk_lt (g := gb225) (o := .cells #[.int .i64 a1_0, .int .i64 a1_1, .int .i64 a1_2, .int .i64 a1_3, .string a1_4] 26 (0, 0)) (by (with_reducible repeat (first | refine blk_drewN ?_ _ | refine blk_drew ?_ | refine blk_alloc ?_ _)); exact BK225.out)) : gb227 ≠ gb225)); clear BK225; clear HB; have BK225 := n0_; have HB := n1_; have BK227 := n2_; have GW227 := n3_; have GE227 := n4_; have NB225_227 := n5_; have NB227_225 := n6_; clear n0_ n1_ n2_ n3_ n4_ n5_ n6_; clear hb hbox hg; have hnb8 := NB227_225.out; have hnc8 := NB225_227.out; have hcz9_0 : w7.cell? ⟨gb227, 0, none⟩ = some (.int .i64 0) := (blk_cell BK227.out 0).trans rfl; have hcz9_1 : w7.cell? ⟨gb227, 1, none⟩ = some (.int .i64 0) := (blk_cell BK227.out 1).trans rfl; have hcz9_2 : w7.cell? ⟨gb227, 2, none⟩ = some (.int .i64 0) := (blk_cell BK227.out 2).trans rfl; have hcz9_3 : w7.cell? ⟨gb227, 3, none⟩ = some (.int .i64 0) := (blk_cell BK227.out 3).trans rfl; have hcz9_4 : w7.cell? ⟨gb227, 4, none⟩ = some (.string (⟨#[]⟩ : ByteArray)) := (blk_cell BK227.out 4).trans rfl; have hcz9_5 : w7.cell? ⟨gb227, 5, none⟩ = some (.int .i64 0) := (blk_cell BK227.out 5).trans rfl; have hcz9_6 : w7.cell? ⟨gb227, 6, none⟩ = some (.int .i64 0) := (blk_cell BK227.out 6).trans rfl; have hcz9_7 : w7.cell? ⟨gb227, 7, none⟩ = some (.string (⟨#[]⟩ : ByteArray)) := (blk_cell BK227.out 7).trans rfl; have hfz9_0 := blk_frozen BK227.out 0; have hfz9_1 := blk_frozen BK227.out 1; have hfz9_2 := blk_frozen BK227.out 2; have hfz9_3 := blk_frozen BK227.out 3; have hfz9_4 := blk_frozen BK227.out 4; have hfz9_5 := blk_frozen BK227.out 5; have hfz9_6 := blk_frozen BK227.out 6; have hfz9_7 := blk_frozen BK227.out 7))
  (try simp only [Act.put, List.setIfInBounds_toArray, List.set_cons_zero, List.set_cons_succ])
  go_cut [22] (fun v22 wc => ∃ (kq : Nat) (x22_3 : Bool), v22 = .bool x22_3 ∧ Aside0 (law14_ZoneBare.j0 kq t226 x22_3 a1_0 a1_1 a1_2 a1_3 a1_4 (wrap64 (1 + (wrap64 (a0)))) (wrap64 (1 + (wrap64 (a0)))) 0 0 (⟨#[]⟩ : ByteArray) 0 0 (⟨#[]⟩ : ByteArray) = some r) ∧ Aside0 (kq ≤ k) ∧ Aside0 (wc.heap[gb225]? = some (.cells #[.int .i64 a1_0, .int .i64 a1_1, .int .i64 a1_2, .int .i64 a1_3, .string a1_4] 26 (0, 0))) ∧ Aside0 (wc.heap[gb227]? = some (.cells #[.int .i64 (wrap64 (1 + (wrap64 (a0)))), .int .i64 (wrap64 (1 + (wrap64 (a0)))), .int .i64 0, .int .i64 0, .string (⟨#[]⟩ : ByteArray), .int .i64 0, .int .i64 0, .string (⟨#[]⟩ : ByteArray)] 30 (0, 0))) ∧ Aside0 (Below w.heap.size w wc))
  case first =>
    have H := HC4.out
    clear HC4
    by_cases c10 : a1_1 < 1
    · rw [if_pos c10] at H
      have c10b0 : decide (a1_1 < 1) = true := decide_eq_true c10
      clear c10
      (first | rw [c10b0] | (simp only [i64_w, i32_w]; rw [c10b0]) | skip)
      have H' := Aside0.mk H
      clear H
      have hnb11 := NB225_227.out
      have hnc11 := NB227_225.out
      have hcz12_0 : w7.cell? ⟨gb225, 0, none⟩ = some (.int .i64 a1_0) := (blk_cell BK225.out 0).trans rfl
      have hcz12_1 : w7.cell? ⟨gb225, 1, none⟩ = some (.int .i64 a1_1) := (blk_cell BK225.out 1).trans rfl
      have hcz12_2 : w7.cell? ⟨gb225, 2, none⟩ = some (.int .i64 a1_2) := (blk_cell BK225.out 2).trans rfl
      have hcz12_3 : w7.cell? ⟨gb225, 3, none⟩ = some (.int .i64 a1_3) := (blk_cell BK225.out 3).trans rfl
      have hcz12_4 : w7.cell? ⟨gb225, 4, none⟩ = some (.string a1_4) := (blk_cell BK225.out 4).trans rfl
      have hfz12_0 := blk_frozen BK225.out 0
      have hfz12_1 := blk_frozen BK225.out 1
      have hfz12_2 := blk_frozen BK225.out 2
      have hfz12_3 := blk_frozen BK225.out 3
      have hfz12_4 := blk_frozen BK225.out 4
      go_wp2
      go_meet
      case rel => exact ⟨_, (true), (by first | rfl | (simp; done) | (simp [*]; done)), H', ⟨by first | omega | exact Nat.le_refl _⟩, ⟨by (with_reducible repeat (first | refine blk_drewN ?_ _ | refine blk_drew ?_ | refine blk_alloc ?_ _)); refine blk_far ?_ NB225_227.out _; (with_reducible repeat (first | refine blk_drewN ?_ _ | refine blk_drew ?_ | refine blk_alloc ?_ _)); refine blk_far ?_ NB225_227.out _; (with_reducible repeat (first | refine blk_drewN ?_ _ | refine blk_drew ?_ | refine blk_alloc ?_ _)); refine blk_far ?_ NB225_227.out _; (with_reducible repeat (first | refine blk_drewN ?_ _ | refine blk_drew ?_ | refine blk_alloc ?_ _)); refine blk_far ?_ NB225_227.out _; (with_reducible repeat (first | refine blk_drewN ?_ _ | refine blk_drew ?_ | refine blk_alloc ?_ _)); refine blk_far ?_ NB225_227.out _; (with_reducible repeat (first | refine blk_drewN ?_ _ | refine blk_drew ?_ | refine blk_alloc ?_ _)); refine blk_far ?_ NB225_227.out _; (with_reducible repeat (first | refine blk_drewN ?_ _ | refine blk_drew ?_ | refine blk_alloc ?_ _)); refine blk_far ?_ NB225_227.out _; (with_reducible repeat (first | refine blk_drewN ?_ _ | refine blk_drew ?_ | refine blk_alloc ?_ _)); refine blk_far ?_ NB225_227.out _; (with_reducible repeat (first | refine blk_drewN ?_ _ | refine blk_drew ?_ | refine blk_alloc ?_ _)); exact BK225.out⟩, ⟨by (with_reducible repeat (first | refine blk_drewN ?_ _ | refine blk_drew ?_ | refine blk_alloc ?_ _)); refine blk_put (cs := #[.int .i64 (wrap64 (1 + (wrap64 (a0)))), .int .i64 (wrap64 (1 + (wrap64 (a0)))), .int .i64 0, .int .i64 0, .string (⟨#[]⟩ : ByteArray), .int .i64 0, .int .i64 0, .string (⟨#[]⟩ : ByteArray)]) ?_ 7 _ rfl; (with_reducible repeat (first | refine blk_drewN ?_ _ | refine blk_drew ?_ | refine blk_alloc ?_ _)); refine blk_put (cs := #[.int .i64 (wrap64 (1 + (wrap64 (a0)))), .int .i64 (wrap64 (1 + (wrap64 (a0)))), .int .i64 0, .int .i64 0, .string (⟨#[]⟩ : ByteArray), .int .i64 0, .int .i64 0, .string (⟨#[]⟩ : ByteArray)]) ?_ 6 _ rfl; (with_reducible repeat (first | refine blk_drewN ?_ _ | refine blk_drew ?_ | refine blk_alloc ?_ _)); refine blk_put (cs := #[.int .i64 (wrap64 (1 + (wrap64 (a0)))), .int .i64 (wrap64 (1 + (wrap64 (a0)))), .int .i64 0, .int .i64 0, .string (⟨#[]⟩ : ByteArray), .int .i64 0, .int .i64 0, .string (⟨#[]⟩ : ByteArray)]) ?_ 5 _ rfl; (with_reducible repeat (first | refine blk_drewN ?_ _ | refine blk_drew ?_ | refine blk_alloc ?_ _)); refine blk_put (cs := #[.int .i64 (wrap64 (1 + (wrap64 (a0)))), .int .i64 (wrap64 (1 + (wrap64 (a0)))), .int .i64 0, .int .i64 0, .string (⟨#[]⟩ : ByteArray), .int .i64 0, .int .i64 0, .string (⟨#[]⟩ : ByteArray)]) ?_ 4 _ rfl; (with_reducible repeat (first | refine blk_drewN ?_ _ | refine blk_drew ?_ | refine blk_alloc ?_ _)); refine blk_put (cs := #[.int .i64 (wrap64 (1 + (wrap64 (a0)))), .int .i64 (wrap64 (1 + (wrap64 (a0)))), .int .i64 0, .int .i64 0, .string (⟨#[]⟩ : ByteArray), .int .i64 0, .int .i64 0, .string (⟨#[]⟩ : ByteArray)]) ?_ 3 _ rfl; (with_reducible repeat (first | refine blk_drewN ?_ _ | refine blk_drew ?_ | refine blk_alloc ?_ _)); refine blk_put (cs := #[.int .i64 (wrap64 (1 + (wrap64 (a0)))), .int .i64 (wrap64 (1 + (wrap64 (a0)))), .int .i64 0, .int .i64 0, .string (⟨#[]⟩ : ByteArray), .int .i64 0, .int .i64 0, .string (⟨#[]⟩ : ByteArray)]) ?_ 2 _ rfl; (with_reducible repeat (first | refine blk_drewN ?_ _ | refine blk_drew ?_ | refine blk_alloc ?_ _)); refine blk_put (cs := #[.int .i64 (wrap64 (1 + (wrap64 (a0)))), .int .i64 0, .int .i64 0, .int .i64 0, .string (⟨#[]⟩ : ByteArray), .int .i64 0, .int .i64 0, .string (⟨#[]⟩ : ByteArray)]) ?_ 1 _ rfl; (with_reducible repeat (first | refine blk_drewN ?_ _ | refine blk_drew ?_ | refine blk_alloc ?_ _)); refine blk_put (cs := #[.int .i64 0, .int .i64 0, .int .i64 0, .int .i64 0, .string (⟨#[]⟩ : ByteArray), .int .i64 0, .int .i64 0, .string (⟨#[]⟩ : ByteArray)]) ?_ 0 _ rfl; (with_reducible repeat (first | refine blk_drewN ?_ _ | refine blk_drew ?_ | refine blk_alloc ?_ _)); exact BK227.out⟩, ⟨by repeat (first | (with_reducible first | exact HB.out | apply below_alloc | apply pw_below_drewN | apply below_drew1 | refine below_set ?_ GE225.out | refine below_set ?_ GE227.out) | exact HB.out)⟩⟩
    · rw [if_neg c10] at H
      have c10b0 : decide (a1_1 < 1) = false := decide_eq_false c10
      clear c10
      (first | rw [c10b0] | (simp only [i64_w, i32_w]; rw [c10b0]) | skip)
      have H' := Aside0.mk H
      clear H
      have hnb13 := NB225_227.out
      have hnc13 := NB227_225.out
      have hcz14_0 : w7.cell? ⟨gb225, 0, none⟩ = some (.int .i64 a1_0) := (blk_cell BK225.out 0).trans rfl
      have hcz14_1 : w7.cell? ⟨gb225, 1, none⟩ = some (.int .i64 a1_1) := (blk_cell BK225.out 1).trans rfl
      have hcz14_2 : w7.cell? ⟨gb225, 2, none⟩ = some (.int .i64 a1_2) := (blk_cell BK225.out 2).trans rfl
      have hcz14_3 : w7.cell? ⟨gb225, 3, none⟩ = some (.int .i64 a1_3) := (blk_cell BK225.out 3).trans rfl
      have hcz14_4 : w7.cell? ⟨gb225, 4, none⟩ = some (.string a1_4) := (blk_cell BK225.out 4).trans rfl
      have hfz14_0 := blk_frozen BK225.out 0
      have hfz14_1 := blk_frozen BK225.out 1
      have hfz14_2 := blk_frozen BK225.out 2
      have hfz14_3 := blk_frozen BK225.out 3
      have hfz14_4 := blk_frozen BK225.out 4
      go_wp2
      go_meet
      case rel => exact ⟨_, (decide (a1_1 > 8)), (by first | rfl | (simp; done) | (simp [*]; done)), H', ⟨by first | omega | exact Nat.le_refl _⟩, ⟨by (with_reducible repeat (first | refine blk_drewN ?_ _ | refine blk_drew ?_ | refine blk_alloc ?_ _)); refine blk_far ?_ NB225_227.out _; (with_reducible repeat (first | refine blk_drewN ?_ _ | refine blk_drew ?_ | refine blk_alloc ?_ _)); refine blk_far ?_ NB225_227.out _; (with_reducible repeat (first | refine blk_drewN ?_ _ | refine blk_drew ?_ | refine blk_alloc ?_ _)); refine blk_far ?_ NB225_227.out _; (with_reducible repeat (first | refine blk_drewN ?_ _ | refine blk_drew ?_ | refine blk_alloc ?_ _)); refine blk_far ?_ NB225_227.out _; (with_reducible repeat (first | refine blk_drewN ?_ _ | refine blk_drew ?_ | refine blk_alloc ?_ _)); refine blk_far ?_ NB225_227.out _; (with_reducible repeat (first | refine blk_drewN ?_ _ | refine blk_drew ?_ | refine blk_alloc ?_ _)); refine blk_far ?_ NB225_227.out _; (with_reducible repeat (first | refine blk_drewN ?_ _ | refine blk_drew ?_ | refine blk_alloc ?_ _)); refine blk_far ?_ NB225_227.out _; (with_reducible repeat (first | refine blk_drewN ?_ _ | refine blk_drew ?_ | refine blk_alloc ?_ _)); refine blk_far ?_ NB225_227.out _; (with_reducible repeat (first | refine blk_drewN ?_ _ | refine blk_drew ?_ | refine blk_alloc ?_ _)); exact BK225.out⟩, ⟨by (with_reducible repeat (first | refine blk_drewN ?_ _ | refine blk_drew ?_ | refine blk_alloc ?_ _)); refine blk_put (cs := #[.int .i64 (wrap64 (1 + (wrap64 (a0)))), .int .i64 (wrap64 (1 + (wrap64 (a0)))), .int .i64 0, .int .i64 0, .string (⟨#[]⟩ : ByteArray), .int .i64 0, .int .i64 0, .string (⟨#[]⟩ : ByteArray)]) ?_ 7 _ rfl; (with_reducible repeat (first | refine blk_drewN ?_ _ | refine blk_drew ?_ | refine blk_alloc ?_ _)); refine blk_put (cs := #[.int .i64 (wrap64 (1 + (wrap64 (a0)))), .int .i64 (wrap64 (1 + (wrap64 (a0)))), .int .i64 0, .int .i64 0, .string (⟨#[]⟩ : ByteArray), .int .i64 0, .int .i64 0, .string (⟨#[]⟩ : ByteArray)]) ?_ 6 _ rfl; (with_reducible repeat (first | refine blk_drewN ?_ _ | refine blk_drew ?_ | refine blk_alloc ?_ _)); refine blk_put (cs := #[.int .i64 (wrap64 (1 + (wrap64 (a0)))), .int .i64 (wrap64 (1 + (wrap64 (a0)))), .int .i64 0, .int .i64 0, .string (⟨#[]⟩ : ByteArray), .int .i64 0, .int .i64 0, .string (⟨#[]⟩ : ByteArray)]) ?_ 5 _ rfl; (with_reducible repeat (first | refine blk_drewN ?_ _ | refine blk_drew ?_ | refine blk_alloc ?_ _)); refine blk_put (cs := #[.int .i64 (wrap64 (1 + (wrap64 (a0)))), .int .i64 (wrap64 (1 + (wrap64 (a0)))), .int .i64 0, .int .i64 0, .string (⟨#[]⟩ : ByteArray), .int .i64 0, .int .i64 0, .string (⟨#[]⟩ : ByteArray)]) ?_ 4 _ rfl; (with_reducible repeat (first | refine blk_drewN ?_ _ | refine blk_drew ?_ | refine blk_alloc ?_ _)); refine blk_put (cs := #[.int .i64 (wrap64 (1 + (wrap64 (a0)))), .int .i64 (wrap64 (1 + (wrap64 (a0)))), .int .i64 0, .int .i64 0, .string (⟨#[]⟩ : ByteArray), .int .i64 0, .int .i64 0, .string (⟨#[]⟩ : ByteArray)]) ?_ 3 _ rfl; (with_reducible repeat (first | refine blk_drewN ?_ _ | refine blk_drew ?_ | refine blk_alloc ?_ _)); refine blk_put (cs := #[.int .i64 (wrap64 (1 + (wrap64 (a0)))), .int .i64 (wrap64 (1 + (wrap64 (a0)))), .int .i64 0, .int .i64 0, .string (⟨#[]⟩ : ByteArray), .int .i64 0, .int .i64 0, .string (⟨#[]⟩ : ByteArray)]) ?_ 2 _ rfl; (with_reducible repeat (first | refine blk_drewN ?_ _ | refine blk_drew ?_ | refine blk_alloc ?_ _)); refine blk_put (cs := #[.int .i64 (wrap64 (1 + (wrap64 (a0)))), .int .i64 0, .int .i64 0, .int .i64 0, .string (⟨#[]⟩ : ByteArray), .int .i64 0, .int .i64 0, .string (⟨#[]⟩ : ByteArray)]) ?_ 1 _ rfl; (with_reducible repeat (first | refine blk_drewN ?_ _ | refine blk_drew ?_ | refine blk_alloc ?_ _)); refine blk_put (cs := #[.int .i64 0, .int .i64 0, .int .i64 0, .int .i64 0, .string (⟨#[]⟩ : ByteArray), .int .i64 0, .int .i64 0, .string (⟨#[]⟩ : ByteArray)]) ?_ 0 _ rfl; (with_reducible repeat (first | refine blk_drewN ?_ _ | refine blk_drew ?_ | refine blk_alloc ?_ _)); exact BK227.out⟩, ⟨by repeat (first | (with_reducible first | exact HB.out | apply below_alloc | apply pw_below_drewN | apply below_drew1 | refine below_set ?_ GE225.out | refine below_set ?_ GE227.out) | exact HB.out)⟩⟩
  case rest =>
    clear HC4
    try clear c1
    try clear p2
    try clear c6
    try clear p6
    try clear c8
    try clear c10
    try clear c10b0
    try clear c11
    try clear c13
    try clear hcz12_0
    try clear hcz12_1
    try clear hcz12_2
    try clear hcz12_3
    try clear hcz12_4
    try clear hcz14_0
    try clear hcz14_1
    try clear hcz14_2
    try clear hcz14_3
    try clear hcz14_4
    try clear hcz9_0
    try clear hcz9_1
    try clear hcz9_2
    try clear hcz9_3
    try clear hcz9_4
    try clear hcz9_5
    try clear hcz9_6
    try clear hcz9_7
    try clear hfz12_0
    try clear hfz12_1
    try clear hfz12_2
    try clear hfz12_3
    try clear hfz12_4
    try clear hfz14_0
    try clear hfz14_1
    try clear hfz14_2
    try clear hfz14_3
    try clear hfz14_4
    try clear hfz9_0
    try clear hfz9_1
    try clear hfz9_2
    try clear hfz9_3
    try clear hfz9_4
    try clear hfz9_5
    try clear hfz9_6
    try clear hfz9_7
    obtain ⟨kq, x22_3, rfl, HA, HJ3, BK225, BK227, HB⟩ := hcut
    cases kq with
    | zero => exact absurd HA.out (by simp [law14_ZoneBare.j0])
    | succ kj3 =>
      have H := HA.out
      clear HA
      simp only [law14_ZoneBare.j0] at H
      by_cases c15 : x22_3 = true
      · subst c15
        have H1 : (if t226 = true then ((zone_None.f (wrap64 (1 + (wrap64 (a0)))) (wrap64 (1 + (wrap64 (a0)))) 0 0 (⟨#[]⟩ : ByteArray) 0 0 (⟨#[]⟩ : ByteArray) a1_0 a1_1 a1_2 a1_3 a1_4).bind fun t228 => (if t228 = true then ((zone_Every.f (wrap64 (1 + (wrap64 (a0)))) (wrap64 (1 + (wrap64 (a0)))) 0 0 (⟨#[]⟩ : ByteArray) 0 0 (⟨#[]⟩ : ByteArray) a1_0 a1_1 a1_2 a1_3 a1_4).bind fun t229 => (some (!t229))) else (some false))) else (some false)) = some r := by rw [if_pos rfl] at H; exact H
        clear H
        have H := H1
        clear H1
        by_cases c16 : t226 = true
        · subst c16
          have H1 : ((zone_None.f (wrap64 (1 + (wrap64 (a0)))) (wrap64 (1 + (wrap64 (a0)))) 0 0 (⟨#[]⟩ : ByteArray) 0 0 (⟨#[]⟩ : ByteArray) a1_0 a1_1 a1_2 a1_3 a1_4).bind fun t228 => (if t228 = true then ((zone_Every.f (wrap64 (1 + (wrap64 (a0)))) (wrap64 (1 + (wrap64 (a0)))) 0 0 (⟨#[]⟩ : ByteArray) 0 0 (⟨#[]⟩ : ByteArray) a1_0 a1_1 a1_2 a1_3 a1_4).bind fun t229 => (some (!t229))) else (some false))) = some r := by rw [if_pos rfl] at H; exact H
          clear H
          have H := H1
          clear H1
          replace H := Option.bind_eq_some_iff.mp H
          obtain ⟨t228, A170, H⟩ := H
          replace H : (if t228 = true then ((zone_Every.f (wrap64 (1 + (wrap64 (a0)))) (wrap64 (1 + (wrap64 (a0)))) 0 0 (⟨#[]⟩ : ByteArray) 0 0 (⟨#[]⟩ : ByteArray) a1_0 a1_1 a1_2 a1_3 a1_4).bind fun t229 => (some (!t229))) else (some false)) = some r := H
          have A17 := Aside0.mk A170
          clear A170
          by_cases c18 : t228 = true
          · subst c18
            have H1 : ((zone_Every.f (wrap64 (1 + (wrap64 (a0)))) (wrap64 (1 + (wrap64 (a0)))) 0 0 (⟨#[]⟩ : ByteArray) 0 0 (⟨#[]⟩ : ByteArray) a1_0 a1_1 a1_2 a1_3 a1_4).bind fun t229 => (some (!t229))) = some r := by rw [if_pos rfl] at H; exact H
            clear H
            have H := H1
            clear H1
            replace H := Option.bind_eq_some_iff.mp H
            obtain ⟨t229, A190, H⟩ := H
            replace H : (some (!t229)) = some r := H
            have A19 := Aside0.mk A190
            clear A190
            obtain rfl := Option.some.inj H
            have hnb20 := NB227_225.out
            have hnc20 := NB225_227.out
            have hcz21_0 : wc.cell? ⟨gb227, 0, none⟩ = some (.int .i64 (wrap64 (1 + (wrap64 (a0))))) := (blk_cell BK227.out 0).trans rfl
            have hcz21_1 : wc.cell? ⟨gb227, 1, none⟩ = some (.int .i64 (wrap64 (1 + (wrap64 (a0))))) := (blk_cell BK227.out 1).trans rfl
            have hcz21_2 : wc.cell? ⟨gb227, 2, none⟩ = some (.int .i64 0) := (blk_cell BK227.out 2).trans rfl
            have hcz21_3 : wc.cell? ⟨gb227, 3, none⟩ = some (.int .i64 0) := (blk_cell BK227.out 3).trans rfl
            have hcz21_4 : wc.cell? ⟨gb227, 4, none⟩ = some (.string (⟨#[]⟩ : ByteArray)) := (blk_cell BK227.out 4).trans rfl
            have hcz21_5 : wc.cell? ⟨gb227, 5, none⟩ = some (.int .i64 0) := (blk_cell BK227.out 5).trans rfl
            have hcz21_6 : wc.cell? ⟨gb227, 6, none⟩ = some (.int .i64 0) := (blk_cell BK227.out 6).trans rfl
            have hcz21_7 : wc.cell? ⟨gb227, 7, none⟩ = some (.string (⟨#[]⟩ : ByteArray)) := (blk_cell BK227.out 7).trans rfl
            have hfz21_0 := blk_frozen BK227.out 0
            have hfz21_1 := blk_frozen BK227.out 1
            have hfz21_2 := blk_frozen BK227.out 2
            have hfz21_3 := blk_frozen BK227.out 3
            have hfz21_4 := blk_frozen BK227.out 4
            have hfz21_5 := blk_frozen BK227.out 5
            have hfz21_6 := blk_frozen BK227.out 6
            have hfz21_7 := blk_frozen BK227.out 7
            have hcz22_0 : wc.cell? ⟨gb225, 0, none⟩ = some (.int .i64 a1_0) := (blk_cell BK225.out 0).trans rfl
            have hcz22_1 : wc.cell? ⟨gb225, 1, none⟩ = some (.int .i64 a1_1) := (blk_cell BK225.out 1).trans rfl
            have hcz22_2 : wc.cell? ⟨gb225, 2, none⟩ = some (.int .i64 a1_2) := (blk_cell BK225.out 2).trans rfl
            have hcz22_3 : wc.cell? ⟨gb225, 3, none⟩ = some (.int .i64 a1_3) := (blk_cell BK225.out 3).trans rfl
            have hcz22_4 : wc.cell? ⟨gb225, 4, none⟩ = some (.string a1_4) := (blk_cell BK225.out 4).trans rfl
            have hfz22_0 := blk_frozen BK225.out 0
            have hfz22_1 := blk_frozen BK225.out 1
            have hfz22_2 := blk_frozen BK225.out 2
            have hfz22_3 := blk_frozen BK225.out 3
            have hfz22_4 := blk_frozen BK225.out 4
            go_wp2_with (first | (go_at_call 12; (with_reducible refine (zone_None.calls (wrap64 (1 + (wrap64 (a0)))) (wrap64 (1 + (wrap64 (a0)))) 0 0 (⟨#[]⟩ : ByteArray) 0 0 (⟨#[]⟩ : ByteArray) a1_0 a1_1 a1_2 a1_3 a1_4 true _ A17.out).mono ?_); rintro e w23 ⟨rfl, hb⟩; have n0_ := Aside0.mk (blk_below (g := gb225) (o := .cells #[.int .i64 a1_0, .int .i64 a1_1, .int .i64 a1_2, .int .i64 a1_3, .string a1_4] 26 (0, 0)) (by (with_reducible repeat (first | refine blk_drewN ?_ _ | refine blk_drew ?_ | refine blk_alloc ?_ _)); exact BK225.out) hb); have n1_ := Aside0.mk (blk_below (g := gb227) (o := .cells #[.int .i64 (wrap64 (1 + (wrap64 (a0)))), .int .i64 (wrap64 (1 + (wrap64 (a0)))), .int .i64 0, .int .i64 0, .string (⟨#[]⟩ : ByteArray), .int .i64 0, .int .i64 0, .string (⟨#[]⟩ : ByteArray)] 30 (0, 0)) (by (with_reducible repeat (first | refine blk_drewN ?_ _ | refine blk_drew ?_ | refine blk_alloc ?_ _)); exact BK227.out) hb); have n2_ := Aside0.mk (below_step (by repeat (first | (with_reducible first | exact HB.out | apply below_alloc | apply pw_below_drewN | apply below_drew1 | refine below_set ?_ GE225.out | refine below_set ?_ GE227.out) | exact HB.out)) hb); clear BK225; clear BK227; clear HB; have BK225 := n0_; have BK227 := n1_; have HB := n2_; clear n0_ n1_ n2_; (try clear hb); (try clear hb2); (try clear hk); (try clear hi); have hcz24_0 : w23.cell? ⟨gb227, 0, none⟩ = some (.int .i64 (wrap64 (1 + (wrap64 (a0))))) := (blk_cell BK227.out 0).trans rfl; have hcz24_1 : w23.cell? ⟨gb227, 1, none⟩ = some (.int .i64 (wrap64 (1 + (wrap64 (a0))))) := (blk_cell BK227.out 1).trans rfl; have hcz24_2 : w23.cell? ⟨gb227, 2, none⟩ = some (.int .i64 0) := (blk_cell BK227.out 2).trans rfl; have hcz24_3 : w23.cell? ⟨gb227, 3, none⟩ = some (.int .i64 0) := (blk_cell BK227.out 3).trans rfl; have hcz24_4 : w23.cell? ⟨gb227, 4, none⟩ = some (.string (⟨#[]⟩ : ByteArray)) := (blk_cell BK227.out 4).trans rfl; have hcz24_5 : w23.cell? ⟨gb227, 5, none⟩ = some (.int .i64 0) := (blk_cell BK227.out 5).trans rfl; have hcz24_6 : w23.cell? ⟨gb227, 6, none⟩ = some (.int .i64 0) := (blk_cell BK227.out 6).trans rfl; have hcz24_7 : w23.cell? ⟨gb227, 7, none⟩ = some (.string (⟨#[]⟩ : ByteArray)) := (blk_cell BK227.out 7).trans rfl; have hfz24_0 := blk_frozen BK227.out 0; have hfz24_1 := blk_frozen BK227.out 1; have hfz24_2 := blk_frozen BK227.out 2; have hfz24_3 := blk_frozen BK227.out 3; have hfz24_4 := blk_frozen BK227.out 4; have hfz24_5 := blk_frozen BK227.out 5; have hfz24_6 := blk_frozen BK227.out 6; have hfz24_7 := blk_frozen BK227.out 7; have hcz25_0 : w23.cell? ⟨gb225, 0, none⟩ = some (.int .i64 a1_0) := (blk_cell BK225.out 0).trans rfl; have hcz25_1 : w23.cell? ⟨gb225, 1, none⟩ = some (.int .i64 a1_1) := (blk_cell BK225.out 1).trans rfl; have hcz25_2 : w23.cell? ⟨gb225, 2, none⟩ = some (.int .i64 a1_2) := (blk_cell BK225.out 2).trans rfl; have hcz25_3 : w23.cell? ⟨gb225, 3, none⟩ = some (.int .i64 a1_3) := (blk_cell BK225.out 3).trans rfl; have hcz25_4 : w23.cell? ⟨gb225, 4, none⟩ = some (.string a1_4) := (blk_cell BK225.out 4).trans rfl; have hfz25_0 := blk_frozen BK225.out 0; have hfz25_1 := blk_frozen BK225.out 1; have hfz25_2 := blk_frozen BK225.out 2; have hfz25_3 := blk_frozen BK225.out 3; have hfz25_4 := blk_frozen BK225.out 4) | (go_at_call 13; (with_reducible refine (zone_Every.calls (wrap64 (1 + (wrap64 (a0)))) (wrap64 (1 + (wrap64 (a0)))) 0 0 (⟨#[]⟩ : ByteArray) 0 0 (⟨#[]⟩ : ByteArray) a1_0 a1_1 a1_2 a1_3 a1_4 t229 _ A19.out).mono ?_); rintro e w26 ⟨rfl, hb⟩; have n0_ := Aside0.mk (blk_below (g := gb225) (o := .cells #[.int .i64 a1_0, .int .i64 a1_1, .int .i64 a1_2, .int .i64 a1_3, .string a1_4] 26 (0, 0)) (by (with_reducible repeat (first | refine blk_drewN ?_ _ | refine blk_drew ?_ | refine blk_alloc ?_ _)); exact BK225.out) hb); have n1_ := Aside0.mk (blk_below (g := gb227) (o := .cells #[.int .i64 (wrap64 (1 + (wrap64 (a0)))), .int .i64 (wrap64 (1 + (wrap64 (a0)))), .int .i64 0, .int .i64 0, .string (⟨#[]⟩ : ByteArray), .int .i64 0, .int .i64 0, .string (⟨#[]⟩ : ByteArray)] 30 (0, 0)) (by (with_reducible repeat (first | refine blk_drewN ?_ _ | refine blk_drew ?_ | refine blk_alloc ?_ _)); exact BK227.out) hb); have n2_ := Aside0.mk (below_step (by repeat (first | (with_reducible first | exact HB.out | apply below_alloc | apply pw_below_drewN | apply below_drew1 | refine below_set ?_ GE225.out | refine below_set ?_ GE227.out) | exact HB.out)) hb); clear BK225; clear BK227; clear HB; have BK225 := n0_; have BK227 := n1_; have HB := n2_; clear n0_ n1_ n2_; (try clear hb); (try clear hb2); (try clear hk); (try clear hi)))
            go_ret
            exact ⟨by first | rfl | (simp [errW_none, errW_some] <;> rfl) | (simp [*, errW_none, errW_some] <;> rfl), by repeat (first | (with_reducible first | exact HB.out | apply below_alloc | apply pw_below_drewN | apply below_drew1 | refine below_set ?_ GE225.out | refine below_set ?_ GE227.out) | exact HB.out)⟩
          · replace c18 := Bool.eq_false_iff.mpr c18
            subst c18
            have H1 : (some false) = some r := by rw [if_neg (show ¬ (false = true) by decide)] at H; exact H
            clear H
            have H := H1
            clear H1
            exact absurd ((Option.some.inj H).trans hr_.out) (by decide)
        · replace c16 := Bool.eq_false_iff.mpr c16
          subst c16
          have H1 : (some false) = some r := by rw [if_neg (show ¬ (false = true) by decide)] at H; exact H
          clear H
          have H := H1
          clear H1
          exact absurd ((Option.some.inj H).trans hr_.out) (by decide)
      · replace c15 := Bool.eq_false_iff.mpr c15
        subst c15
        have H1 : (if t226 = true then ((zone_None.f (wrap64 (1 + (wrap64 (a0)))) (wrap64 (1 + (wrap64 (a0)))) 0 0 (⟨#[]⟩ : ByteArray) 0 0 (⟨#[]⟩ : ByteArray) a1_0 a1_1 a1_2 a1_3 a1_4).bind fun t230 => (if (t230 == (a1_1 != 7)) = true then ((zone_Every.f (wrap64 (1 + (wrap64 (a0)))) (wrap64 (1 + (wrap64 (a0)))) 0 0 (⟨#[]⟩ : ByteArray) 0 0 (⟨#[]⟩ : ByteArray) a1_0 a1_1 a1_2 a1_3 a1_4).bind fun t231 => (if (t231 == (a1_1 == 7)) = true then ((zone_None.f 0 0 0 0 (⟨#[]⟩ : ByteArray) 0 0 (⟨#[]⟩ : ByteArray) a1_0 a1_1 a1_2 a1_3 a1_4).bind fun t232 => (if t232 = true then ((zone_Join.f 0 0 0 0 (⟨#[]⟩ : ByteArray) 0 0 (⟨#[]⟩ : ByteArray) (wrap64 (1 + (wrap64 (a0)))) (wrap64 (1 + (wrap64 (a0)))) 0 0 (⟨#[]⟩ : ByteArray) 0 0 (⟨#[]⟩ : ByteArray)).bind fun bt233 => (if (bt233.1 == (wrap64 (1 + (wrap64 (a0)))) && (bt233.2.1 == (wrap64 (1 + (wrap64 (a0)))) && ((bt233.2.2.1 == 0 && (bt233.2.2.2.1 == 0 && (bt233.2.2.2.2.1.toList == (⟨#[]⟩ : ByteArray).toList))) && ((bt233.2.2.2.2.2.1 == 0 && (bt233.2.2.2.2.2.2.1 == 0 && (bt233.2.2.2.2.2.2.2.toList == (⟨#[]⟩ : ByteArray).toList))))))) = true then ((zone_Join.f (wrap64 (1 + (wrap64 (a0)))) (wrap64 (1 + (wrap64 (a0)))) 0 0 (⟨#[]⟩ : ByteArray) 0 0 (⟨#[]⟩ : ByteArray) 0 0 0 0 (⟨#[]⟩ : ByteArray) 0 0 (⟨#[]⟩ : ByteArray)).bind fun bt241 => (some (bt241.1 == (wrap64 (1 + (wrap64 (a0)))) && (bt241.2.1 == (wrap64 (1 + (wrap64 (a0)))) && ((bt241.2.2.1 == 0 && (bt241.2.2.2.1 == 0 && (bt241.2.2.2.2.1.toList == (⟨#[]⟩ : ByteArray).toList))) && ((bt241.2.2.2.2.2.1 == 0 && (bt241.2.2.2.2.2.2.1 == 0 && (bt241.2.2.2.2.2.2.2.toList == (⟨#[]⟩ : ByteArray).toList))))))))) else (some false))) else (some false))) else (some false))) else (some false))) else (some false)) = some r := by rw [if_neg (show ¬ (false = true) by decide)] at H; exact H
        clear H
        have H := H1
        clear H1
        by_cases c27 : t226 = true
        · subst c27
          have H1 : ((zone_None.f (wrap64 (1 + (wrap64 (a0)))) (wrap64 (1 + (wrap64 (a0)))) 0 0 (⟨#[]⟩ : ByteArray) 0 0 (⟨#[]⟩ : ByteArray) a1_0 a1_1 a1_2 a1_3 a1_4).bind fun t230 => (if (t230 == (a1_1 != 7)) = true then ((zone_Every.f (wrap64 (1 + (wrap64 (a0)))) (wrap64 (1 + (wrap64 (a0)))) 0 0 (⟨#[]⟩ : ByteArray) 0 0 (⟨#[]⟩ : ByteArray) a1_0 a1_1 a1_2 a1_3 a1_4).bind fun t231 => (if (t231 == (a1_1 == 7)) = true then ((zone_None.f 0 0 0 0 (⟨#[]⟩ : ByteArray) 0 0 (⟨#[]⟩ : ByteArray) a1_0 a1_1 a1_2 a1_3 a1_4).bind fun t232 => (if t232 = true then ((zone_Join.f 0 0 0 0 (⟨#[]⟩ : ByteArray) 0 0 (⟨#[]⟩ : ByteArray) (wrap64 (1 + (wrap64 (a0)))) (wrap64 (1 + (wrap64 (a0)))) 0 0 (⟨#[]⟩ : ByteArray) 0 0 (⟨#[]⟩ : ByteArray)).bind fun bt233 => (if (bt233.1 == (wrap64 (1 + (wrap64 (a0)))) && (bt233.2.1 == (wrap64 (1 + (wrap64 (a0)))) && ((bt233.2.2.1 == 0 && (bt233.2.2.2.1 == 0 && (bt233.2.2.2.2.1.toList == (⟨#[]⟩ : ByteArray).toList))) && ((bt233.2.2.2.2.2.1 == 0 && (bt233.2.2.2.2.2.2.1 == 0 && (bt233.2.2.2.2.2.2.2.toList == (⟨#[]⟩ : ByteArray).toList))))))) = true then ((zone_Join.f (wrap64 (1 + (wrap64 (a0)))) (wrap64 (1 + (wrap64 (a0)))) 0 0 (⟨#[]⟩ : ByteArray) 0 0 (⟨#[]⟩ : ByteArray) 0 0 0 0 (⟨#[]⟩ : ByteArray) 0 0 (⟨#[]⟩ : ByteArray)).bind fun bt241 => (some (bt241.1 == (wrap64 (1 + (wrap64 (a0)))) && (bt241.2.1 == (wrap64 (1 + (wrap64 (a0)))) && ((bt241.2.2.1 == 0 && (bt241.2.2.2.1 == 0 && (bt241.2.2.2.2.1.toList == (⟨#[]⟩ : ByteArray).toList))) && ((bt241.2.2.2.2.2.1 == 0 && (bt241.2.2.2.2.2.2.1 == 0 && (bt241.2.2.2.2.2.2.2.toList == (⟨#[]⟩ : ByteArray).toList))))))))) else (some false))) else (some false))) else (some false))) else (some false))) = some r := by rw [if_pos rfl] at H; exact H
          clear H
          have H := H1
          clear H1
          replace H := Option.bind_eq_some_iff.mp H
          obtain ⟨t230, A280, H⟩ := H
          replace H : (if (t230 == (a1_1 != 7)) = true then ((zone_Every.f (wrap64 (1 + (wrap64 (a0)))) (wrap64 (1 + (wrap64 (a0)))) 0 0 (⟨#[]⟩ : ByteArray) 0 0 (⟨#[]⟩ : ByteArray) a1_0 a1_1 a1_2 a1_3 a1_4).bind fun t231 => (if (t231 == (a1_1 == 7)) = true then ((zone_None.f 0 0 0 0 (⟨#[]⟩ : ByteArray) 0 0 (⟨#[]⟩ : ByteArray) a1_0 a1_1 a1_2 a1_3 a1_4).bind fun t232 => (if t232 = true then ((zone_Join.f 0 0 0 0 (⟨#[]⟩ : ByteArray) 0 0 (⟨#[]⟩ : ByteArray) (wrap64 (1 + (wrap64 (a0)))) (wrap64 (1 + (wrap64 (a0)))) 0 0 (⟨#[]⟩ : ByteArray) 0 0 (⟨#[]⟩ : ByteArray)).bind fun bt233 => (if (bt233.1 == (wrap64 (1 + (wrap64 (a0)))) && (bt233.2.1 == (wrap64 (1 + (wrap64 (a0)))) && ((bt233.2.2.1 == 0 && (bt233.2.2.2.1 == 0 && (bt233.2.2.2.2.1.toList == (⟨#[]⟩ : ByteArray).toList))) && ((bt233.2.2.2.2.2.1 == 0 && (bt233.2.2.2.2.2.2.1 == 0 && (bt233.2.2.2.2.2.2.2.toList == (⟨#[]⟩ : ByteArray).toList))))))) = true then ((zone_Join.f (wrap64 (1 + (wrap64 (a0)))) (wrap64 (1 + (wrap64 (a0)))) 0 0 (⟨#[]⟩ : ByteArray) 0 0 (⟨#[]⟩ : ByteArray) 0 0 0 0 (⟨#[]⟩ : ByteArray) 0 0 (⟨#[]⟩ : ByteArray)).bind fun bt241 => (some (bt241.1 == (wrap64 (1 + (wrap64 (a0)))) && (bt241.2.1 == (wrap64 (1 + (wrap64 (a0)))) && ((bt241.2.2.1 == 0 && (bt241.2.2.2.1 == 0 && (bt241.2.2.2.2.1.toList == (⟨#[]⟩ : ByteArray).toList))) && ((bt241.2.2.2.2.2.1 == 0 && (bt241.2.2.2.2.2.2.1 == 0 && (bt241.2.2.2.2.2.2.2.toList == (⟨#[]⟩ : ByteArray).toList))))))))) else (some false))) else (some false))) else (some false))) else (some false)) = some r := H
          have A28 := Aside0.mk A280
          clear A280
          by_cases c29 : (t230 == (a1_1 != 7)) = true
          · rw [if_pos c29] at H
            have c29b0 : (t230 == (a1_1 != 7)) = true := c29
            (try (have c29b1 : decide (t230 = (a1_1 != 7)) = true := by simpa using c29))
            (try (have c29b2 : (t230 == (a1_1 != 7)) = true := by simpa using c29))
            clear c29
            replace H := Option.bind_eq_some_iff.mp H
            obtain ⟨t231, A300, H⟩ := H
            replace H : (if (t231 == (a1_1 == 7)) = true then ((zone_None.f 0 0 0 0 (⟨#[]⟩ : ByteArray) 0 0 (⟨#[]⟩ : ByteArray) a1_0 a1_1 a1_2 a1_3 a1_4).bind fun t232 => (if t232 = true then ((zone_Join.f 0 0 0 0 (⟨#[]⟩ : ByteArray) 0 0 (⟨#[]⟩ : ByteArray) (wrap64 (1 + (wrap64 (a0)))) (wrap64 (1 + (wrap64 (a0)))) 0 0 (⟨#[]⟩ : ByteArray) 0 0 (⟨#[]⟩ : ByteArray)).bind fun bt233 => (if (bt233.1 == (wrap64 (1 + (wrap64 (a0)))) && (bt233.2.1 == (wrap64 (1 + (wrap64 (a0)))) && ((bt233.2.2.1 == 0 && (bt233.2.2.2.1 == 0 && (bt233.2.2.2.2.1.toList == (⟨#[]⟩ : ByteArray).toList))) && ((bt233.2.2.2.2.2.1 == 0 && (bt233.2.2.2.2.2.2.1 == 0 && (bt233.2.2.2.2.2.2.2.toList == (⟨#[]⟩ : ByteArray).toList))))))) = true then ((zone_Join.f (wrap64 (1 + (wrap64 (a0)))) (wrap64 (1 + (wrap64 (a0)))) 0 0 (⟨#[]⟩ : ByteArray) 0 0 (⟨#[]⟩ : ByteArray) 0 0 0 0 (⟨#[]⟩ : ByteArray) 0 0 (⟨#[]⟩ : ByteArray)).bind fun bt241 => (some (bt241.1 == (wrap64 (1 + (wrap64 (a0)))) && (bt241.2.1 == (wrap64 (1 + (wrap64 (a0)))) && ((bt241.2.2.1 == 0 && (bt241.2.2.2.1 == 0 && (bt241.2.2.2.2.1.toList == (⟨#[]⟩ : ByteArray).toList))) && ((bt241.2.2.2.2.2.1 == 0 && (bt241.2.2.2.2.2.2.1 == 0 && (bt241.2.2.2.2.2.2.2.toList == (⟨#[]⟩ : ByteArray).toList))))))))) else (some false))) else (some false))) else (some false)) = some r := H
            have A30 := Aside0.mk A300
            clear A300
            by_cases c31 : (t231 == (a1_1 == 7)) = true
            · rw [if_pos c31] at H
              have c31b0 : (t231 == (a1_1 == 7)) = true := c31
              (try (have c31b1 : decide (t231 = (a1_1 == 7)) = true := by simpa using c31))
              (try (have c31b2 : (t231 == (a1_1 == 7)) = true := by simpa using c31))
              clear c31
              replace H := Option.bind_eq_some_iff.mp H
              obtain ⟨t232, A320, H⟩ := H
              replace H : (if t232 = true then ((zone_Join.f 0 0 0 0 (⟨#[]⟩ : ByteArray) 0 0 (⟨#[]⟩ : ByteArray) (wrap64 (1 + (wrap64 (a0)))) (wrap64 (1 + (wrap64 (a0)))) 0 0 (⟨#[]⟩ : ByteArray) 0 0 (⟨#[]⟩ : ByteArray)).bind fun bt233 => (if (bt233.1 == (wrap64 (1 + (wrap64 (a0)))) && (bt233.2.1 == (wrap64 (1 + (wrap64 (a0)))) && ((bt233.2.2.1 == 0 && (bt233.2.2.2.1 == 0 && (bt233.2.2.2.2.1.toList == (⟨#[]⟩ : ByteArray).toList))) && ((bt233.2.2.2.2.2.1 == 0 && (bt233.2.2.2.2.2.2.1 == 0 && (bt233.2.2.2.2.2.2.2.toList == (⟨#[]⟩ : ByteArray).toList))))))) = true then ((zone_Join.f (wrap64 (1 + (wrap64 (a0)))) (wrap64 (1 + (wrap64 (a0)))) 0 0 (⟨#[]⟩ : ByteArray) 0 0 (⟨#[]⟩ : ByteArray) 0 0 0 0 (⟨#[]⟩ : ByteArray) 0 0 (⟨#[]⟩ : ByteArray)).bind fun bt241 => (some (bt241.1 == (wrap64 (1 + (wrap64 (a0)))) && (bt241.2.1 == (wrap64 (1 + (wrap64 (a0)))) && ((bt241.2.2.1 == 0 && (bt241.2.2.2.1 == 0 && (bt241.2.2.2.2.1.toList == (⟨#[]⟩ : ByteArray).toList))) && ((bt241.2.2.2.2.2.1 == 0 && (bt241.2.2.2.2.2.2.1 == 0 && (bt241.2.2.2.2.2.2.2.toList == (⟨#[]⟩ : ByteArray).toList))))))))) else (some false))) else (some false)) = some r := H
              have A32 := Aside0.mk A320
              clear A320
              by_cases c33 : t232 = true
              · subst c33
                have H1 : ((zone_Join.f 0 0 0 0 (⟨#[]⟩ : ByteArray) 0 0 (⟨#[]⟩ : ByteArray) (wrap64 (1 + (wrap64 (a0)))) (wrap64 (1 + (wrap64 (a0)))) 0 0 (⟨#[]⟩ : ByteArray) 0 0 (⟨#[]⟩ : ByteArray)).bind fun bt233 => (if (bt233.1 == (wrap64 (1 + (wrap64 (a0)))) && (bt233.2.1 == (wrap64 (1 + (wrap64 (a0)))) && ((bt233.2.2.1 == 0 && (bt233.2.2.2.1 == 0 && (bt233.2.2.2.2.1.toList == (⟨#[]⟩ : ByteArray).toList))) && ((bt233.2.2.2.2.2.1 == 0 && (bt233.2.2.2.2.2.2.1 == 0 && (bt233.2.2.2.2.2.2.2.toList == (⟨#[]⟩ : ByteArray).toList))))))) = true then ((zone_Join.f (wrap64 (1 + (wrap64 (a0)))) (wrap64 (1 + (wrap64 (a0)))) 0 0 (⟨#[]⟩ : ByteArray) 0 0 (⟨#[]⟩ : ByteArray) 0 0 0 0 (⟨#[]⟩ : ByteArray) 0 0 (⟨#[]⟩ : ByteArray)).bind fun bt241 => (some (bt241.1 == (wrap64 (1 + (wrap64 (a0)))) && (bt241.2.1 == (wrap64 (1 + (wrap64 (a0)))) && ((bt241.2.2.1 == 0 && (bt241.2.2.2.1 == 0 && (bt241.2.2.2.2.1.toList == (⟨#[]⟩ : ByteArray).toList))) && ((bt241.2.2.2.2.2.1 == 0 && (bt241.2.2.2.2.2.2.1 == 0 && (bt241.2.2.2.2.2.2.2.toList == (⟨#[]⟩ : ByteArray).toList))))))))) else (some false))) = some r := by rw [if_pos rfl] at H; exact H
                clear H
                have H := H1
                clear H1
                replace H := Option.bind_eq_some_iff.mp H
                obtain ⟨⟨t233, t234, t235, t236, t237, t238, t239, t240⟩, A340, H⟩ := H
                replace H : (if (t233 == (wrap64 (1 + (wrap64 (a0)))) && (t234 == (wrap64 (1 + (wrap64 (a0)))) && ((t235 == 0 && (t236 == 0 && (t237.toList == (⟨#[]⟩ : ByteArray).toList))) && ((t238 == 0 && (t239 == 0 && (t240.toList == (⟨#[]⟩ : ByteArray).toList))))))) = true then ((zone_Join.f (wrap64 (1 + (wrap64 (a0)))) (wrap64 (1 + (wrap64 (a0)))) 0 0 (⟨#[]⟩ : ByteArray) 0 0 (⟨#[]⟩ : ByteArray) 0 0 0 0 (⟨#[]⟩ : ByteArray) 0 0 (⟨#[]⟩ : ByteArray)).bind fun bt241 => (some (bt241.1 == (wrap64 (1 + (wrap64 (a0)))) && (bt241.2.1 == (wrap64 (1 + (wrap64 (a0)))) && ((bt241.2.2.1 == 0 && (bt241.2.2.2.1 == 0 && (bt241.2.2.2.2.1.toList == (⟨#[]⟩ : ByteArray).toList))) && ((bt241.2.2.2.2.2.1 == 0 && (bt241.2.2.2.2.2.2.1 == 0 && (bt241.2.2.2.2.2.2.2.toList == (⟨#[]⟩ : ByteArray).toList))))))))) else (some false)) = some r := H
                have A34 := Aside0.mk A340
                clear A340
                by_cases c35 : (t233 == (wrap64 (1 + (wrap64 (a0)))) && (t234 == (wrap64 (1 + (wrap64 (a0)))) && ((t235 == 0 && (t236 == 0 && (t237.toList == (⟨#[]⟩ : ByteArray).toList))) && ((t238 == 0 && (t239 == 0 && (t240.toList == (⟨#[]⟩ : ByteArray).toList))))))) = true
                · rw [if_pos c35] at H
                  have c35b0 : (t233 == (wrap64 (1 + (wrap64 (a0)))) && (t234 == (wrap64 (1 + (wrap64 (a0)))) && ((t235 == 0 && (t236 == 0 && (t237.toList == (⟨#[]⟩ : ByteArray).toList))) && ((t238 == 0 && (t239 == 0 && (t240.toList == (⟨#[]⟩ : ByteArray).toList))))))) = true := c35
                  (try (have c35b0e := c35b0; simp only [Hand.empty_beq, Hand.nil_beq] at c35b0e))
                  (try (have c35b1 : decide (t233 = (wrap64 (1 + (wrap64 (a0)))) && (t234 == (wrap64 (1 + (wrap64 (a0)))) && ((t235 == 0 && (t236 == 0 && (t237.toList == (⟨#[]⟩ : ByteArray).toList))) && ((t238 == 0 && (t239 == 0 && (t240.toList == (⟨#[]⟩ : ByteArray).toList))))))) = true := by simpa using c35))
                  (try (have c35b2 : (t233 == (wrap64 (1 + (wrap64 (a0)))) && (t234 == (wrap64 (1 + (wrap64 (a0)))) && ((t235 == 0 && (t236 == 0 && (t237.toList == (⟨#[]⟩ : ByteArray).toList))) && ((t238 == 0 && (t239 == 0 && (t240.toList == (⟨#[]⟩ : ByteArray).toList))))))) = true := by simpa using c35))
                  clear c35
                  replace H := Option.bind_eq_some_iff.mp H
                  obtain ⟨⟨t241, t242, t243, t244, t245, t246, t247, t248⟩, A360, H⟩ := H
                  replace H : (some (t241 == (wrap64 (1 + (wrap64 (a0)))) && (t242 == (wrap64 (1 + (wrap64 (a0)))) && ((t243 == 0 && (t244 == 0 && (t245.toList == (⟨#[]⟩ : ByteArray).toList))) && ((t246 == 0 && (t247 == 0 && (t248.toList == (⟨#[]⟩ : ByteArray).toList)))))))) = some r := H
                  have A36 := Aside0.mk A360
                  clear A360
                  obtain rfl := Option.some.inj H
                  try go_wp2
                  have n0_ := Aside0.mk (blk_drew BK225.out)
                  have n1_ := Aside0.mk (blk_drew BK227.out)
                  have n2_ := Aside0.mk (below_drew1 HB.out)
                  clear BK225
                  clear BK227
                  clear HB
                  have BK225 := n0_
                  have BK227 := n1_
                  have HB := n2_
                  clear n0_ n1_ n2_
                  refine start_ (n := 39) (S := fun w' => w'.cell? ⟨gb227, 0, none⟩ = some (.int .i64 (wrap64 (1 + (wrap64 (a0))))) ∧ w'.cell? ⟨gb227, 1, none⟩ = some (.int .i64 (wrap64 (1 + (wrap64 (a0))))) ∧ w'.cell? ⟨gb227, 2, none⟩ = some (.int .i64 0) ∧ w'.cell? ⟨gb227, 3, none⟩ = some (.int .i64 0) ∧ w'.cell? ⟨gb227, 4, none⟩ = some (.string (⟨#[]⟩ : ByteArray)) ∧ w'.cell? ⟨gb227, 5, none⟩ = some (.int .i64 0) ∧ w'.cell? ⟨gb227, 6, none⟩ = some (.int .i64 0) ∧ w'.cell? ⟨gb227, 7, none⟩ = some (.string (⟨#[]⟩ : ByteArray)) ∧ w'.cell? ⟨gb225, 0, none⟩ = some (.int .i64 a1_0) ∧ w'.cell? ⟨gb225, 1, none⟩ = some (.int .i64 a1_1) ∧ w'.cell? ⟨gb225, 2, none⟩ = some (.int .i64 a1_2) ∧ w'.cell? ⟨gb225, 3, none⟩ = some (.int .i64 a1_3) ∧ w'.cell? ⟨gb225, 4, none⟩ = some (.string a1_4)) (ds := []) #[false, false, false, false, false, false, false, false, false, false, false, false, false, false, false, false, false, false, false, false, false, false, false, false, false, false, false, false, false, false, false, false, false, false, false, false, false, false, false] (by kernel_rfl) rfl rfl ⟨(blk_cell BK227.out 0).trans rfl, (blk_cell BK227.out 1).trans rfl, (blk_cell BK227.out 2).trans rfl, (blk_cell BK227.out 3).trans rfl, (blk_cell BK227.out 4).trans rfl, (blk_cell BK227.out 5).trans rfl, (blk_cell BK227.out 6).trans rfl, (blk_cell BK227.out 7).trans rfl, (blk_cell BK225.out 0).trans rfl, (blk_cell BK225.out 1).trans rfl, (blk_cell BK225.out 2).trans rfl, (blk_cell BK225.out 3).trans rfl, (blk_cell BK225.out 4).trans rfl⟩ (fun hHeld => ?_); refine with_tabW law14_ZoneBare.tab6 law14_ZoneBare.bits6 (fun HT_ HW_ => ?_)
                  generalize wc.drew = w37 at BK225 BK227 HB hHeld ⊢
                  refine pure_ (i := 0) (N := some 35) (v := ?_) (a' := ?_) #[true, false, false, false, false, false, false, false, false, false, false, false, false, false, false, false, false, false, false, false, false, false, false, false, false, false, false, false, false, false, false, false, false, false, false, false, false, false, false] rfl rfl (any_of HT_.out (by kernel_rfl)) (fun _ _ _ h => h) (Or.inl ⟨by rfl, ?_⟩) ?_ ?_
                  rotate_left
                  · intro w'
                    go_simp
                    with_reducible rfl
                  rotate_left
                  · simp only [Act.put, List.setIfInBounds_toArray, List.set_cons_zero, List.set_cons_succ, i64_w, i32_w]
                    rfl
                  refine pure_ (i := 1) (N := some 36) (v := ?_) (a' := ?_) #[true, true, false, false, false, false, false, false, false, false, false, false, false, false, false, false, false, false, false, false, false, false, false, false, false, false, false, false, false, false, false, false, false, false, false, false, false, false, false] rfl rfl (any_of HT_.out (by kernel_rfl)) (fun _ _ _ h => h) (Or.inl ⟨by rfl, ?_⟩) ?_ ?_
                  rotate_left
                  · intro w'
                    go_simp
                    with_reducible rfl
                  rotate_left
                  · simp only [Act.put, List.setIfInBounds_toArray, List.set_cons_zero, List.set_cons_succ, i64_w, i32_w]
                    rfl
                  refine pure_ (i := 5) (N := some 40) (v := ?_) (a' := ?_) #[true, true, false, false, false, true, false, false, false, false, false, false, false, false, false, false, false, false, false, false, false, false, false, false, false, false, false, false, false, false, false, false, false, false, false, false, false, false, false] rfl rfl (any_of HT_.out (by kernel_rfl)) (fun _ _ _ h => h) (Or.inl ⟨by rfl, ?_⟩) ?_ ?_
                  rotate_left
                  · intro w'
                    go_simp
                    with_reducible rfl
                  rotate_left
                  · simp only [Act.put, List.setIfInBounds_toArray, List.set_cons_zero, List.set_cons_succ, i64_w, i32_w]
                    rfl
                  refine take_ (i := 2) (N := some 37) (v := ?_) (a' := ?_) #[true, true, true, false, false, true, false, false, false, false, false, false, false, false, false, false, false, false, false, false, false, false, false, false, false, false, false, false, false, false, false, false, false, false, false, false, false, false, false] rfl rfl (take_ofW HT_.out HW_.out (by kernel_rfl)) (fun _ _ _ h => h) (Or.inl ⟨by rfl, ?_⟩) hHeld ?_ ?_
                  rotate_left
                  · rintro w' ⟨s0, s1, s2, s3, s4, s5, s6, s7, s8, s9, s10, s11, s12⟩
                    go_simp
                    with_reducible rfl
                  rotate_left
                  · simp only [Act.put, List.setIfInBounds_toArray, List.set_cons_zero, List.set_cons_succ, i64_w, i32_w]
                    rfl
                  refine take_ (i := 3) (N := some 38) (v := ?_) (a' := ?_) #[true, true, true, true, false, true, false, false, false, false, false, false, false, false, false, false, false, false, false, false, false, false, false, false, false, false, false, false, false, false, false, false, false, false, false, false, false, false, false] rfl rfl (take_ofW HT_.out HW_.out (by kernel_rfl)) (fun _ _ _ h => h) (Or.inl ⟨by rfl, ?_⟩) hHeld ?_ ?_
                  rotate_left
                  · rintro w' ⟨s0, s1, s2, s3, s4, s5, s6, s7, s8, s9, s10, s11, s12⟩
                    go_simp
                    with_reducible rfl
                  rotate_left
                  · simp only [Act.put, List.setIfInBounds_toArray, List.set_cons_zero, List.set_cons_succ, i64_w, i32_w]
                    rfl
                  refine take_ (i := 6) (N := some 41) (v := ?_) (a' := ?_) #[true, true, true, true, false, true, true, false, false, false, false, false, false, false, false, false, false, false, false, false, false, false, false, false, false, false, false, false, false, false, false, false, false, false, false, false, false, false, false] rfl rfl (take_ofW HT_.out HW_.out (by kernel_rfl)) (fun _ _ _ h => h) (Or.inl ⟨by rfl, ?_⟩) hHeld ?_ ?_
                  rotate_left
                  · rintro w' ⟨s0, s1, s2, s3, s4, s5, s6, s7, s8, s9, s10, s11, s12⟩
                    go_simp
                    with_reducible rfl
                  rotate_left
                  · simp only [Act.put, List.setIfInBounds_toArray, List.set_cons_zero, List.set_cons_succ, i64_w, i32_w]
                    rfl
                  refine pure_ (i := 7) (N := some 42) (v := ?_) (a' := ?_) #[true, true, true, true, false, true, true, true, false, false, false, false, false, false, false, false, false, false, false, false, false, false, false, false, false, false, false, false, false, false, false, false, false, false, false, false, false, false, false] rfl rfl (any_of HT_.out (by kernel_rfl)) (fun _ _ _ h => h) (Or.inl ⟨by rfl, ?_⟩) ?_ ?_
                  rotate_left
                  · intro w'
                    go_simp
                    with_reducible rfl
                  rotate_left
                  · simp only [Act.put, List.setIfInBounds_toArray, List.set_cons_zero, List.set_cons_succ, i64_w, i32_w]
                    rfl
                  refine one_ (i := 4) (N := some 39) #[true, true, true, true, true, true, true, true, false, false, false, false, false, false, false, false, false, false, false, false, false, false, false, false, false, false, false, false, false, false, false, false, false, false, false, false, false, false, false] rfl rfl (one_of HT_.out (by kernel_rfl)) (by decide) (fun K hK => ?_)
                  refine goes_ Try.func12 (by kernel_rfl) rfl #[.agg #[.int .i64 (wrap64 (1 + (wrap64 (a0)))), .int .i64 (wrap64 (1 + (wrap64 (a0)))), .int .i64 0, .int .i64 0, .string (⟨#[]⟩ : ByteArray), .int .i64 0, .int .i64 0, .string (⟨#[]⟩ : ByteArray)], .agg #[.int .i64 a1_0, .int .i64 a1_1, .int .i64 a1_2, .int .i64 a1_3, .string a1_4]] (by rfl) rfl rfl (by (try simp only [List.map_toArray, List.map_cons, List.map_nil]); first | done | rfl | (simp only [List.length_drop, List.length_take]; rfl)) ?_
                  with_reducible refine (zone_None.calls (wrap64 (1 + (wrap64 (a0)))) (wrap64 (1 + (wrap64 (a0)))) 0 0 (⟨#[]⟩ : ByteArray) 0 0 (⟨#[]⟩ : ByteArray) a1_0 a1_1 a1_2 a1_3 a1_4 t230 _ A28.out).mono ?_
                  rintro e w38 ⟨rfl, hb⟩
                  refine ⟨_, rfl, ?_⟩
                  have n0_ := Aside0.mk (blk_below (g := gb225) (o := .cells #[.int .i64 a1_0, .int .i64 a1_1, .int .i64 a1_2, .int .i64 a1_3, .string a1_4] 26 (0, 0)) (by (with_reducible repeat (first | refine blk_drewN ?_ _ | refine blk_drew ?_ | refine blk_alloc ?_ _)); exact BK225.out) hb)
                  have n1_ := Aside0.mk (blk_below (g := gb227) (o := .cells #[.int .i64 (wrap64 (1 + (wrap64 (a0)))), .int .i64 (wrap64 (1 + (wrap64 (a0)))), .int .i64 0, .int .i64 0, .string (⟨#[]⟩ : ByteArray), .int .i64 0, .int .i64 0, .string (⟨#[]⟩ : ByteArray)] 30 (0, 0)) (by (with_reducible repeat (first | refine blk_drewN ?_ _ | refine blk_drew ?_ | refine blk_alloc ?_ _)); exact BK227.out) hb)
                  have n2_ := Aside0.mk (below_step (by repeat (first | (with_reducible first | exact HB.out | apply below_alloc | apply pw_below_drewN | apply below_drew1 | refine below_set ?_ GE225.out | refine below_set ?_ GE227.out) | exact HB.out)) hb)
                  clear BK225
                  clear BK227
                  clear HB
                  have BK225 := n0_
                  have BK227 := n1_
                  have HB := n2_
                  clear n0_ n1_ n2_
                  (try clear hb)
                  (try clear hb2)
                  (try clear hk)
                  (try clear hi)
                  refine hK.out _ _ ⟨(blk_cell BK227.out 0).trans rfl, (blk_cell BK227.out 1).trans rfl, (blk_cell BK227.out 2).trans rfl, (blk_cell BK227.out 3).trans rfl, (blk_cell BK227.out 4).trans rfl, (blk_cell BK227.out 5).trans rfl, (blk_cell BK227.out 6).trans rfl, (blk_cell BK227.out 7).trans rfl, (blk_cell BK225.out 0).trans rfl, (blk_cell BK225.out 1).trans rfl, (blk_cell BK225.out 2).trans rfl, (blk_cell BK225.out 3).trans rfl, (blk_cell BK225.out 4).trans rfl⟩ (fun hHeld => ?_)
                  clear hK K
                  refine norm_ (a' := ?_) ?_ ?_
                  rotate_left
                  · show Act.put _ (some 39) _ = _
                    simp only [Act.put, List.setIfInBounds_toArray, List.set_cons_zero, List.set_cons_succ, i64_w, i32_w]
                    rfl
                  refine pure_ (i := 8) (N := some 43) (v := ?_) (a' := ?_) #[true, true, true, true, true, true, true, true, true, false, false, false, false, false, false, false, false, false, false, false, false, false, false, false, false, false, false, false, false, false, false, false, false, false, false, false, false, false, false] rfl rfl (any_of HT_.out (by kernel_rfl)) (fun _ _ _ h => h) (Or.inl ⟨by rfl, ?_⟩) ?_ ?_
                  rotate_left
                  · intro w'
                    go_simp
                    with_reducible rfl
                  rotate_left
                  · simp only [Act.put, List.setIfInBounds_toArray, List.set_cons_zero, List.set_cons_succ, i64_w, i32_w]
                    rfl
                  refine pure_ (i := 9) (N := some 44) (v := ?_) (a' := ?_) #[true, true, true, true, true, true, true, true, true, true, false, false, false, false, false, false, false, false, false, false, false, false, false, false, false, false, false, false, false, false, false, false, false, false, false, false, false, false, false] rfl rfl (any_of HT_.out (by kernel_rfl)) (fun _ _ _ h => h) (Or.inl ⟨by rfl, ?_⟩) ?_ ?_
                  rotate_left
                  · intro w'
                    go_simp
                    with_reducible rfl
                  rotate_left
                  · simp only [Act.put, List.setIfInBounds_toArray, List.set_cons_zero, List.set_cons_succ, i64_w, i32_w]
                    rfl
                  refine pure_ (i := 10) (N := some 45) (v := ?_) (a' := ?_) #[true, true, true, true, true, true, true, true, true, true, true, false, false, false, false, false, false, false, false, false, false, false, false, false, false, false, false, false, false, false, false, false, false, false, false, false, false, false, false] rfl rfl (any_of HT_.out (by kernel_rfl)) (fun _ _ _ h => h) (Or.inl ⟨by rfl, ?_⟩) ?_ ?_
                  rotate_left
                  · intro w'
                    go_simp
                    with_reducible rfl
                  rotate_left
                  · simp only [Act.put, List.setIfInBounds_toArray, List.set_cons_zero, List.set_cons_succ, i64_w, i32_w]
                    rfl
                  refine pure_ (i := 14) (N := some 49) (v := ?_) (a' := ?_) #[true, true, true, true, true, true, true, true, true, true, true, false, false, false, true, false, false, false, false, false, false, false, false, false, false, false, false, false, false, false, false, false, false, false, false, false, false, false, false] rfl rfl (any_of HT_.out (by kernel_rfl)) (fun _ _ _ h => h) (Or.inl ⟨by rfl, ?_⟩) ?_ ?_
                  rotate_left
                  · intro w'
                    go_simp
                    with_reducible rfl
                  rotate_left
                  · simp only [Act.put, List.setIfInBounds_toArray, List.set_cons_zero, List.set_cons_succ, i64_w, i32_w]
                    rfl
                  refine take_ (i := 11) (N := some 46) (v := ?_) (a' := ?_) #[true, true, true, true, true, true, true, true, true, true, true, true, false, false, true, false, false, false, false, false, false, false, false, false, false, false, false, false, false, false, false, false, false, false, false, false, false, false, false] rfl rfl (take_ofW HT_.out HW_.out (by kernel_rfl)) (fun _ _ _ h => h) (Or.inl ⟨by rfl, ?_⟩) hHeld ?_ ?_
                  rotate_left
                  · rintro w' ⟨s0, s1, s2, s3, s4, s5, s6, s7, s8, s9, s10, s11, s12⟩
                    go_simp
                    with_reducible rfl
                  rotate_left
                  · simp only [Act.put, List.setIfInBounds_toArray, List.set_cons_zero, List.set_cons_succ, i64_w, i32_w]
                    rfl
                  refine take_ (i := 12) (N := some 47) (v := ?_) (a' := ?_) #[true, true, true, true, true, true, true, true, true, true, true, true, true, false, true, false, false, false, false, false, false, false, false, false, false, false, false, false, false, false, false, false, false, false, false, false, false, false, false] rfl rfl (take_ofW HT_.out HW_.out (by kernel_rfl)) (fun _ _ _ h => h) (Or.inl ⟨by rfl, ?_⟩) hHeld ?_ ?_
                  rotate_left
                  · rintro w' ⟨s0, s1, s2, s3, s4, s5, s6, s7, s8, s9, s10, s11, s12⟩
                    go_simp
                    with_reducible rfl
                  rotate_left
                  · simp only [Act.put, List.setIfInBounds_toArray, List.set_cons_zero, List.set_cons_succ, i64_w, i32_w]
                    rfl
                  refine take_ (i := 15) (N := some 50) (v := ?_) (a' := ?_) #[true, true, true, true, true, true, true, true, true, true, true, true, true, false, true, true, false, false, false, false, false, false, false, false, false, false, false, false, false, false, false, false, false, false, false, false, false, false, false] rfl rfl (take_ofW HT_.out HW_.out (by kernel_rfl)) (fun _ _ _ h => h) (Or.inl ⟨by rfl, ?_⟩) hHeld ?_ ?_
                  rotate_left
                  · rintro w' ⟨s0, s1, s2, s3, s4, s5, s6, s7, s8, s9, s10, s11, s12⟩
                    go_simp
                    with_reducible rfl
                  rotate_left
                  · simp only [Act.put, List.setIfInBounds_toArray, List.set_cons_zero, List.set_cons_succ, i64_w, i32_w]
                    rfl
                  refine pure_ (i := 16) (N := some 51) (v := ?_) (a' := ?_) #[true, true, true, true, true, true, true, true, true, true, true, true, true, false, true, true, true, false, false, false, false, false, false, false, false, false, false, false, false, false, false, false, false, false, false, false, false, false, false] rfl rfl (any_of HT_.out (by kernel_rfl)) (fun _ _ _ h => h) (Or.inl ⟨by rfl, ?_⟩) ?_ ?_
                  rotate_left
                  · intro w'
                    go_simp
                    with_reducible rfl
                  rotate_left
                  · simp only [Act.put, List.setIfInBounds_toArray, List.set_cons_zero, List.set_cons_succ, i64_w, i32_w]
                    rfl
                  refine one_ (i := 13) (N := some 48) #[true, true, true, true, true, true, true, true, true, true, true, true, true, true, true, true, true, false, false, false, false, false, false, false, false, false, false, false, false, false, false, false, false, false, false, false, false, false, false] rfl rfl (one_of HT_.out (by kernel_rfl)) (by decide) (fun K hK => ?_)
                  refine goes_ Try.func13 (by kernel_rfl) rfl #[.agg #[.int .i64 (wrap64 (1 + (wrap64 (a0)))), .int .i64 (wrap64 (1 + (wrap64 (a0)))), .int .i64 0, .int .i64 0, .string (⟨#[]⟩ : ByteArray), .int .i64 0, .int .i64 0, .string (⟨#[]⟩ : ByteArray)], .agg #[.int .i64 a1_0, .int .i64 a1_1, .int .i64 a1_2, .int .i64 a1_3, .string a1_4]] (by rfl) rfl rfl (by (try simp only [List.map_toArray, List.map_cons, List.map_nil]); first | done | rfl | (simp only [List.length_drop, List.length_take]; rfl)) ?_
                  with_reducible refine (zone_Every.calls (wrap64 (1 + (wrap64 (a0)))) (wrap64 (1 + (wrap64 (a0)))) 0 0 (⟨#[]⟩ : ByteArray) 0 0 (⟨#[]⟩ : ByteArray) a1_0 a1_1 a1_2 a1_3 a1_4 t231 _ A30.out).mono ?_
                  rintro e w39 ⟨rfl, hb⟩
                  refine ⟨_, rfl, ?_⟩
                  have n0_ := Aside0.mk (blk_below (g := gb225) (o := .cells #[.int .i64 a1_0, .int .i64 a1_1, .int .i64 a1_2, .int .i64 a1_3, .string a1_4] 26 (0, 0)) (by (with_reducible repeat (first | refine blk_drewN ?_ _ | refine blk_drew ?_ | refine blk_alloc ?_ _)); exact BK225.out) hb)
                  have n1_ := Aside0.mk (blk_below (g := gb227) (o := .cells #[.int .i64 (wrap64 (1 + (wrap64 (a0)))), .int .i64 (wrap64 (1 + (wrap64 (a0)))), .int .i64 0, .int .i64 0, .string (⟨#[]⟩ : ByteArray), .int .i64 0, .int .i64 0, .string (⟨#[]⟩ : ByteArray)] 30 (0, 0)) (by (with_reducible repeat (first | refine blk_drewN ?_ _ | refine blk_drew ?_ | refine blk_alloc ?_ _)); exact BK227.out) hb)
                  have n2_ := Aside0.mk (below_step (by repeat (first | (with_reducible first | exact HB.out | apply below_alloc | apply pw_below_drewN | apply below_drew1 | refine below_set ?_ GE225.out | refine below_set ?_ GE227.out) | exact HB.out)) hb)
                  clear BK225
                  clear BK227
                  clear HB
                  have BK225 := n0_
                  have BK227 := n1_
                  have HB := n2_
                  clear n0_ n1_ n2_
                  (try clear hb)
                  (try clear hb2)
                  (try clear hk)
                  (try clear hi)
                  refine hK.out _ _ ⟨(blk_cell BK227.out 0).trans rfl, (blk_cell BK227.out 1).trans rfl, (blk_cell BK227.out 2).trans rfl, (blk_cell BK227.out 3).trans rfl, (blk_cell BK227.out 4).trans rfl, (blk_cell BK227.out 5).trans rfl, (blk_cell BK227.out 6).trans rfl, (blk_cell BK227.out 7).trans rfl, (blk_cell BK225.out 0).trans rfl, (blk_cell BK225.out 1).trans rfl, (blk_cell BK225.out 2).trans rfl, (blk_cell BK225.out 3).trans rfl, (blk_cell BK225.out 4).trans rfl⟩ (fun hHeld => ?_)
                  clear hK K
                  refine norm_ (a' := ?_) ?_ ?_
                  rotate_left
                  · show Act.put _ (some 48) _ = _
                    simp only [Act.put, List.setIfInBounds_toArray, List.set_cons_zero, List.set_cons_succ, i64_w, i32_w]
                    rfl
                  refine pure_ (i := 17) (N := some 52) (v := ?_) (a' := ?_) #[true, true, true, true, true, true, true, true, true, true, true, true, true, true, true, true, true, true, false, false, false, false, false, false, false, false, false, false, false, false, false, false, false, false, false, false, false, false, false] rfl rfl (any_of HT_.out (by kernel_rfl)) (fun _ _ _ h => h) (Or.inl ⟨by rfl, ?_⟩) ?_ ?_
                  rotate_left
                  · intro w'
                    go_simp
                    with_reducible rfl
                  rotate_left
                  · simp only [Act.put, List.setIfInBounds_toArray, List.set_cons_zero, List.set_cons_succ, i64_w, i32_w]
                    rfl
                  refine pure_ (i := 18) (N := some 53) (v := ?_) (a' := ?_) #[true, true, true, true, true, true, true, true, true, true, true, true, true, true, true, true, true, true, true, false, false, false, false, false, false, false, false, false, false, false, false, false, false, false, false, false, false, false, false] rfl rfl (any_of HT_.out (by kernel_rfl)) (fun _ _ _ h => h) (Or.inl ⟨by rfl, ?_⟩) ?_ ?_
                  rotate_left
                  · intro w'
                    go_simp
                    with_reducible rfl
                  rotate_left
                  · simp only [Act.put, List.setIfInBounds_toArray, List.set_cons_zero, List.set_cons_succ, i64_w, i32_w]
                    rfl
                  refine pure_ (i := 19) (N := some 54) (v := ?_) (a' := ?_) #[true, true, true, true, true, true, true, true, true, true, true, true, true, true, true, true, true, true, true, true, false, false, false, false, false, false, false, false, false, false, false, false, false, false, false, false, false, false, false] rfl rfl (any_of HT_.out (by kernel_rfl)) (fun _ _ _ h => h) (Or.inl ⟨by rfl, ?_⟩) ?_ ?_
                  rotate_left
                  · intro w'
                    go_simp
                    with_reducible rfl
                  rotate_left
                  · simp only [Act.put, List.setIfInBounds_toArray, List.set_cons_zero, List.set_cons_succ, i64_w, i32_w]
                    rfl
                  refine pure_ (i := 20) (N := some 55) (v := ?_) (a' := ?_) #[true, true, true, true, true, true, true, true, true, true, true, true, true, true, true, true, true, true, true, true, true, false, false, false, false, false, false, false, false, false, false, false, false, false, false, false, false, false, false] rfl rfl (any_of HT_.out (by kernel_rfl)) (fun _ _ _ h => h) (Or.inl ⟨by rfl, ?_⟩) ?_ ?_
                  rotate_left
                  · intro w'
                    go_simp
                    with_reducible rfl
                  rotate_left
                  · simp only [Act.put, List.setIfInBounds_toArray, List.set_cons_zero, List.set_cons_succ, i64_w, i32_w]
                    rfl
                  refine take_ (i := 21) (N := some 56) (v := ?_) (a' := ?_) #[true, true, true, true, true, true, true, true, true, true, true, true, true, true, true, true, true, true, true, true, true, true, false, false, false, false, false, false, false, false, false, false, false, false, false, false, false, false, false] rfl rfl (take_ofW HT_.out HW_.out (by kernel_rfl)) (fun _ _ _ h => h) (Or.inl ⟨by rfl, ?_⟩) hHeld ?_ ?_
                  rotate_left
                  · rintro w' ⟨s0, s1, s2, s3, s4, s5, s6, s7, s8, s9, s10, s11, s12⟩
                    go_simp
                    with_reducible rfl
                  rotate_left
                  · simp only [Act.put, List.setIfInBounds_toArray, List.set_cons_zero, List.set_cons_succ, i64_w, i32_w]
                    rfl
                  refine one_ (i := 22) (N := some 57) #[true, true, true, true, true, true, true, true, true, true, true, true, true, true, true, true, true, true, true, true, true, true, true, false, false, false, false, false, false, false, false, false, false, false, false, false, false, false, false] rfl rfl (one_of HT_.out (by kernel_rfl)) (by decide) (fun K hK => ?_)
                  refine goes_ Try.func12 (by kernel_rfl) rfl #[.agg #[.int .i64 0, .int .i64 0, .int .i64 0, .int .i64 0, .string (⟨#[]⟩ : ByteArray), .int .i64 0, .int .i64 0, .string (⟨#[]⟩ : ByteArray)], .agg #[.int .i64 a1_0, .int .i64 a1_1, .int .i64 a1_2, .int .i64 a1_3, .string a1_4]] (by rfl) rfl rfl (by (try simp only [List.map_toArray, List.map_cons, List.map_nil]); first | done | rfl | (simp only [List.length_drop, List.length_take]; rfl)) ?_
                  with_reducible refine (zone_None.calls 0 0 0 0 (⟨#[]⟩ : ByteArray) 0 0 (⟨#[]⟩ : ByteArray) a1_0 a1_1 a1_2 a1_3 a1_4 true _ A32.out).mono ?_
                  rintro e w40 ⟨rfl, hb⟩
                  refine ⟨_, rfl, ?_⟩
                  have n0_ := Aside0.mk (blk_below (g := gb225) (o := .cells #[.int .i64 a1_0, .int .i64 a1_1, .int .i64 a1_2, .int .i64 a1_3, .string a1_4] 26 (0, 0)) (by (with_reducible repeat (first | refine blk_drewN ?_ _ | refine blk_drew ?_ | refine blk_alloc ?_ _)); exact BK225.out) hb)
                  have n1_ := Aside0.mk (blk_below (g := gb227) (o := .cells #[.int .i64 (wrap64 (1 + (wrap64 (a0)))), .int .i64 (wrap64 (1 + (wrap64 (a0)))), .int .i64 0, .int .i64 0, .string (⟨#[]⟩ : ByteArray), .int .i64 0, .int .i64 0, .string (⟨#[]⟩ : ByteArray)] 30 (0, 0)) (by (with_reducible repeat (first | refine blk_drewN ?_ _ | refine blk_drew ?_ | refine blk_alloc ?_ _)); exact BK227.out) hb)
                  have n2_ := Aside0.mk (below_step (by repeat (first | (with_reducible first | exact HB.out | apply below_alloc | apply pw_below_drewN | apply below_drew1 | refine below_set ?_ GE225.out | refine below_set ?_ GE227.out) | exact HB.out)) hb)
                  clear BK225
                  clear BK227
                  clear HB
                  have BK225 := n0_
                  have BK227 := n1_
                  have HB := n2_
                  clear n0_ n1_ n2_
                  (try clear hb)
                  (try clear hb2)
                  (try clear hk)
                  (try clear hi)
                  refine hK.out _ _ ⟨(blk_cell BK227.out 0).trans rfl, (blk_cell BK227.out 1).trans rfl, (blk_cell BK227.out 2).trans rfl, (blk_cell BK227.out 3).trans rfl, (blk_cell BK227.out 4).trans rfl, (blk_cell BK227.out 5).trans rfl, (blk_cell BK227.out 6).trans rfl, (blk_cell BK227.out 7).trans rfl, (blk_cell BK225.out 0).trans rfl, (blk_cell BK225.out 1).trans rfl, (blk_cell BK225.out 2).trans rfl, (blk_cell BK225.out 3).trans rfl, (blk_cell BK225.out 4).trans rfl⟩ (fun hHeld => ?_)
                  clear hK K
                  refine norm_ (a' := ?_) ?_ ?_
                  rotate_left
                  · show Act.put _ (some 57) _ = _
                    simp only [Act.put, List.setIfInBounds_toArray, List.set_cons_zero, List.set_cons_succ, i64_w, i32_w]
                    rfl
                  refine pure_ (i := 23) (N := some 58) (v := ?_) (a' := ?_) #[true, true, true, true, true, true, true, true, true, true, true, true, true, true, true, true, true, true, true, true, true, true, true, true, false, false, false, false, false, false, false, false, false, false, false, false, false, false, false] rfl rfl (any_of HT_.out (by kernel_rfl)) (fun _ _ _ h => h) (Or.inl ⟨by rfl, ?_⟩) ?_ ?_
                  rotate_left
                  · intro w'
                    go_simp
                    with_reducible rfl
                  rotate_left
                  · simp only [Act.put, List.setIfInBounds_toArray, List.set_cons_zero, List.set_cons_succ, i64_w, i32_w]
                    rfl
                  refine pure_ (i := 24) (N := some 59) (v := ?_) (a' := ?_) #[true, true, true, true, true, true, true, true, true, true, true, true, true, true, true, true, true, true, true, true, true, true, true, true, true, false, false, false, false, false, false, false, false, false, false, false, false, false, false] rfl rfl (any_of HT_.out (by kernel_rfl)) (fun _ _ _ h => h) (Or.inl ⟨by rfl, ?_⟩) ?_ ?_
                  rotate_left
                  · intro w'
                    go_simp
                    with_reducible rfl
                  rotate_left
                  · simp only [Act.put, List.setIfInBounds_toArray, List.set_cons_zero, List.set_cons_succ, i64_w, i32_w]
                    rfl
                  refine pure_ (i := 25) (N := some 60) (v := ?_) (a' := ?_) #[true, true, true, true, true, true, true, true, true, true, true, true, true, true, true, true, true, true, true, true, true, true, true, true, true, true, false, false, false, false, false, false, false, false, false, false, false, false, false] rfl rfl (any_of HT_.out (by kernel_rfl)) (fun _ _ _ h => h) (Or.inl ⟨by rfl, ?_⟩) ?_ ?_
                  rotate_left
                  · intro w'
                    go_simp
                    with_reducible rfl
                  rotate_left
                  · simp only [Act.put, List.setIfInBounds_toArray, List.set_cons_zero, List.set_cons_succ, i64_w, i32_w]
                    rfl
                  refine take_ (i := 26) (N := some 61) (v := ?_) (a' := ?_) #[true, true, true, true, true, true, true, true, true, true, true, true, true, true, true, true, true, true, true, true, true, true, true, true, true, true, true, false, false, false, false, false, false, false, false, false, false, false, false] rfl rfl (take_ofW HT_.out HW_.out (by kernel_rfl)) (fun _ _ _ h => h) (Or.inl ⟨by rfl, ?_⟩) hHeld ?_ ?_
                  rotate_left
                  · rintro w' ⟨s0, s1, s2, s3, s4, s5, s6, s7, s8, s9, s10, s11, s12⟩
                    go_simp
                    with_reducible rfl
                  rotate_left
                  · simp only [Act.put, List.setIfInBounds_toArray, List.set_cons_zero, List.set_cons_succ, i64_w, i32_w]
                    rfl
                  refine take_ (i := 28) (N := some 63) (v := ?_) (a' := ?_) #[true, true, true, true, true, true, true, true, true, true, true, true, true, true, true, true, true, true, true, true, true, true, true, true, true, true, true, false, true, false, false, false, false, false, false, false, false, false, false] rfl rfl (take_ofW HT_.out HW_.out (by kernel_rfl)) (fun _ _ _ h => h) (Or.inl ⟨by rfl, ?_⟩) hHeld ?_ ?_
                  rotate_left
                  · rintro w' ⟨s0, s1, s2, s3, s4, s5, s6, s7, s8, s9, s10, s11, s12⟩
                    go_simp
                    with_reducible rfl
                  rotate_left
                  · simp only [Act.put, List.setIfInBounds_toArray, List.set_cons_zero, List.set_cons_succ, i64_w, i32_w]
                    rfl
                  refine one_ (i := 27) (N := some 62) #[true, true, true, true, true, true, true, true, true, true, true, true, true, true, true, true, true, true, true, true, true, true, true, true, true, true, true, true, true, false, false, false, false, false, false, false, false, false, false] rfl rfl (one_of HT_.out (by kernel_rfl)) (by decide) (fun K hK => ?_)
                  refine goes_ Try.func15 (by kernel_rfl) rfl #[.agg #[.int .i64 0, .int .i64 0, .int .i64 0, .int .i64 0, .string (⟨#[]⟩ : ByteArray), .int .i64 0, .int .i64 0, .string (⟨#[]⟩ : ByteArray)], .agg #[.int .i64 (wrap64 (1 + (wrap64 (a0)))), .int .i64 (wrap64 (1 + (wrap64 (a0)))), .int .i64 0, .int .i64 0, .string (⟨#[]⟩ : ByteArray), .int .i64 0, .int .i64 0, .string (⟨#[]⟩ : ByteArray)]] (by rfl) rfl rfl (by (try simp only [List.map_toArray, List.map_cons, List.map_nil]); first | done | rfl | (simp only [List.length_drop, List.length_take]; rfl)) ?_
                  with_reducible refine (zone_Join.calls 0 0 0 0 (⟨#[]⟩ : ByteArray) 0 0 (⟨#[]⟩ : ByteArray) (wrap64 (1 + (wrap64 (a0)))) (wrap64 (1 + (wrap64 (a0)))) 0 0 (⟨#[]⟩ : ByteArray) 0 0 (⟨#[]⟩ : ByteArray) t233 t234 t235 t236 t237 t238 t239 t240 _ A34.out).mono ?_
                  rintro e w41 ⟨rfl, hb⟩
                  refine ⟨_, rfl, ?_⟩
                  have n0_ := Aside0.mk (blk_below (g := gb225) (o := .cells #[.int .i64 a1_0, .int .i64 a1_1, .int .i64 a1_2, .int .i64 a1_3, .string a1_4] 26 (0, 0)) (by (with_reducible repeat (first | refine blk_drewN ?_ _ | refine blk_drew ?_ | refine blk_alloc ?_ _)); exact BK225.out) hb)
                  have n1_ := Aside0.mk (blk_below (g := gb227) (o := .cells #[.int .i64 (wrap64 (1 + (wrap64 (a0)))), .int .i64 (wrap64 (1 + (wrap64 (a0)))), .int .i64 0, .int .i64 0, .string (⟨#[]⟩ : ByteArray), .int .i64 0, .int .i64 0, .string (⟨#[]⟩ : ByteArray)] 30 (0, 0)) (by (with_reducible repeat (first | refine blk_drewN ?_ _ | refine blk_drew ?_ | refine blk_alloc ?_ _)); exact BK227.out) hb)
                  have n2_ := Aside0.mk (below_step (by repeat (first | (with_reducible first | exact HB.out | apply below_alloc | apply pw_below_drewN | apply below_drew1 | refine below_set ?_ GE225.out | refine below_set ?_ GE227.out) | exact HB.out)) hb)
                  clear BK225
                  clear BK227
                  clear HB
                  have BK225 := n0_
                  have BK227 := n1_
                  have HB := n2_
                  clear n0_ n1_ n2_
                  (try clear hb)
                  (try clear hb2)
                  (try clear hk)
                  (try clear hi)
                  refine hK.out _ _ ⟨(blk_cell BK227.out 0).trans rfl, (blk_cell BK227.out 1).trans rfl, (blk_cell BK227.out 2).trans rfl, (blk_cell BK227.out 3).trans rfl, (blk_cell BK227.out 4).trans rfl, (blk_cell BK227.out 5).trans rfl, (blk_cell BK227.out 6).trans rfl, (blk_cell BK227.out 7).trans rfl, (blk_cell BK225.out 0).trans rfl, (blk_cell BK225.out 1).trans rfl, (blk_cell BK225.out 2).trans rfl, (blk_cell BK225.out 3).trans rfl, (blk_cell BK225.out 4).trans rfl⟩ (fun hHeld => ?_)
                  clear hK K
                  refine norm_ (a' := ?_) ?_ ?_
                  rotate_left
                  · show Act.put _ (some 62) _ = _
                    simp only [Act.put, List.setIfInBounds_toArray, List.set_cons_zero, List.set_cons_succ, i64_w, i32_w]
                    rfl
                  refine pure_ (i := 29) (N := some 64) (v := ?_) (a' := ?_) #[true, true, true, true, true, true, true, true, true, true, true, true, true, true, true, true, true, true, true, true, true, true, true, true, true, true, true, true, true, true, false, false, false, false, false, false, false, false, false] rfl rfl (any_of HT_.out (by kernel_rfl)) (fun _ _ _ h => h) (Or.inl ⟨by rfl, ?_⟩) ?_ ?_
                  rotate_left
                  · intro w'
                    go_simp
                    with_reducible rfl
                  rotate_left
                  · simp only [Act.put, List.setIfInBounds_toArray, List.set_cons_zero, List.set_cons_succ, i64_w, i32_w]
                    rfl
                  refine pure_ (i := 30) (N := some 65) (v := ?_) (a' := ?_) #[true, true, true, true, true, true, true, true, true, true, true, true, true, true, true, true, true, true, true, true, true, true, true, true, true, true, true, true, true, true, true, false, false, false, false, false, false, false, false] rfl rfl (any_of HT_.out (by kernel_rfl)) (fun _ _ _ h => h) (Or.inl ⟨by rfl, ?_⟩) ?_ ?_
                  rotate_left
                  · intro w'
                    go_simp
                    with_reducible rfl
                  rotate_left
                  · simp only [Act.put, List.setIfInBounds_toArray, List.set_cons_zero, List.set_cons_succ, i64_w, i32_w]
                    rfl
                  refine pure_ (i := 31) (N := some 66) (v := ?_) (a' := ?_) #[true, true, true, true, true, true, true, true, true, true, true, true, true, true, true, true, true, true, true, true, true, true, true, true, true, true, true, true, true, true, true, true, false, false, false, false, false, false, false] rfl rfl (any_of HT_.out (by kernel_rfl)) (fun _ _ _ h => h) (Or.inl ⟨by rfl, ?_⟩) ?_ ?_
                  rotate_left
                  · intro w'
                    go_simp
                    with_reducible rfl
                  rotate_left
                  · simp only [Act.put, List.setIfInBounds_toArray, List.set_cons_zero, List.set_cons_succ, i64_w, i32_w]
                    rfl
                  refine pure_ (i := 33) (N := some 68) (v := ?_) (a' := ?_) #[true, true, true, true, true, true, true, true, true, true, true, true, true, true, true, true, true, true, true, true, true, true, true, true, true, true, true, true, true, true, true, true, false, true, false, false, false, false, false] rfl rfl (any_of HT_.out (by kernel_rfl)) (fun _ _ _ h => h) (Or.inl ⟨by rfl, ?_⟩) ?_ ?_
                  rotate_left
                  · intro w'
                    go_simp
                    with_reducible rfl
                  rotate_left
                  · simp only [Act.put, List.setIfInBounds_toArray, List.set_cons_zero, List.set_cons_succ, i64_w, i32_w]
                    rfl
                  refine take_ (i := 32) (N := some 67) (v := ?_) (a' := ?_) #[true, true, true, true, true, true, true, true, true, true, true, true, true, true, true, true, true, true, true, true, true, true, true, true, true, true, true, true, true, true, true, true, true, true, false, false, false, false, false] rfl rfl (take_ofW HT_.out HW_.out (by kernel_rfl)) (fun _ _ _ h => h) (Or.inl ⟨by rfl, ?_⟩) hHeld ?_ ?_
                  rotate_left
                  · rintro w' ⟨s0, s1, s2, s3, s4, s5, s6, s7, s8, s9, s10, s11, s12⟩
                    go_simp
                    with_reducible rfl
                  rotate_left
                  · simp only [Act.put, List.setIfInBounds_toArray, List.set_cons_zero, List.set_cons_succ, i64_w, i32_w]
                    rfl
                  refine take_ (i := 35) (N := some 70) (v := ?_) (a' := ?_) #[true, true, true, true, true, true, true, true, true, true, true, true, true, true, true, true, true, true, true, true, true, true, true, true, true, true, true, true, true, true, true, true, true, true, false, true, false, false, false] rfl rfl (take_ofW HT_.out HW_.out (by kernel_rfl)) (fun _ _ _ h => h) (Or.inl ⟨by rfl, ?_⟩) hHeld ?_ ?_
                  rotate_left
                  · rintro w' ⟨s0, s1, s2, s3, s4, s5, s6, s7, s8, s9, s10, s11, s12⟩
                    go_simp
                    with_reducible rfl
                  rotate_left
                  · simp only [Act.put, List.setIfInBounds_toArray, List.set_cons_zero, List.set_cons_succ, i64_w, i32_w]
                    rfl
                  refine one_ (i := 34) (N := some 69) #[true, true, true, true, true, true, true, true, true, true, true, true, true, true, true, true, true, true, true, true, true, true, true, true, true, true, true, true, true, true, true, true, true, true, true, true, false, false, false] rfl rfl (one_of HT_.out (by kernel_rfl)) (by decide) (fun K hK => ?_)
                  refine goes_ Try.func15 (by kernel_rfl) rfl #[.agg #[.int .i64 (wrap64 (1 + (wrap64 (a0)))), .int .i64 (wrap64 (1 + (wrap64 (a0)))), .int .i64 0, .int .i64 0, .string (⟨#[]⟩ : ByteArray), .int .i64 0, .int .i64 0, .string (⟨#[]⟩ : ByteArray)], .agg #[.int .i64 0, .int .i64 0, .int .i64 0, .int .i64 0, .string (⟨#[]⟩ : ByteArray), .int .i64 0, .int .i64 0, .string (⟨#[]⟩ : ByteArray)]] (by rfl) rfl rfl (by (try simp only [List.map_toArray, List.map_cons, List.map_nil]); first | done | rfl | (simp only [List.length_drop, List.length_take]; rfl)) ?_
                  with_reducible refine (zone_Join.calls (wrap64 (1 + (wrap64 (a0)))) (wrap64 (1 + (wrap64 (a0)))) 0 0 (⟨#[]⟩ : ByteArray) 0 0 (⟨#[]⟩ : ByteArray) 0 0 0 0 (⟨#[]⟩ : ByteArray) 0 0 (⟨#[]⟩ : ByteArray) t241 t242 t243 t244 t245 t246 t247 t248 _ A36.out).mono ?_
                  rintro e w42 ⟨rfl, hb⟩
                  refine ⟨_, rfl, ?_⟩
                  have n0_ := Aside0.mk (blk_below (g := gb225) (o := .cells #[.int .i64 a1_0, .int .i64 a1_1, .int .i64 a1_2, .int .i64 a1_3, .string a1_4] 26 (0, 0)) (by (with_reducible repeat (first | refine blk_drewN ?_ _ | refine blk_drew ?_ | refine blk_alloc ?_ _)); exact BK225.out) hb)
                  have n1_ := Aside0.mk (blk_below (g := gb227) (o := .cells #[.int .i64 (wrap64 (1 + (wrap64 (a0)))), .int .i64 (wrap64 (1 + (wrap64 (a0)))), .int .i64 0, .int .i64 0, .string (⟨#[]⟩ : ByteArray), .int .i64 0, .int .i64 0, .string (⟨#[]⟩ : ByteArray)] 30 (0, 0)) (by (with_reducible repeat (first | refine blk_drewN ?_ _ | refine blk_drew ?_ | refine blk_alloc ?_ _)); exact BK227.out) hb)
                  have n2_ := Aside0.mk (below_step (by repeat (first | (with_reducible first | exact HB.out | apply below_alloc | apply pw_below_drewN | apply below_drew1 | refine below_set ?_ GE225.out | refine below_set ?_ GE227.out) | exact HB.out)) hb)
                  clear BK225
                  clear BK227
                  clear HB
                  have BK225 := n0_
                  have BK227 := n1_
                  have HB := n2_
                  clear n0_ n1_ n2_
                  (try clear hb)
                  (try clear hb2)
                  (try clear hk)
                  (try clear hi)
                  refine hK.out _ _ ⟨(blk_cell BK227.out 0).trans rfl, (blk_cell BK227.out 1).trans rfl, (blk_cell BK227.out 2).trans rfl, (blk_cell BK227.out 3).trans rfl, (blk_cell BK227.out 4).trans rfl, (blk_cell BK227.out 5).trans rfl, (blk_cell BK227.out 6).trans rfl, (blk_cell BK227.out 7).trans rfl, (blk_cell BK225.out 0).trans rfl, (blk_cell BK225.out 1).trans rfl, (blk_cell BK225.out 2).trans rfl, (blk_cell BK225.out 3).trans rfl, (blk_cell BK225.out 4).trans rfl⟩ (fun hHeld => ?_)
                  clear hK K
                  refine norm_ (a' := ?_) ?_ ?_
                  rotate_left
                  · show Act.put _ (some 69) _ = _
                    simp only [Act.put, List.setIfInBounds_toArray, List.set_cons_zero, List.set_cons_succ, i64_w, i32_w]
                    rfl
                  refine pure_ (i := 36) (N := some 71) (v := ?_) (a' := ?_) #[true, true, true, true, true, true, true, true, true, true, true, true, true, true, true, true, true, true, true, true, true, true, true, true, true, true, true, true, true, true, true, true, true, true, true, true, true, false, false] rfl rfl (any_of HT_.out (by kernel_rfl)) (fun _ _ _ h => h) (Or.inl ⟨by rfl, ?_⟩) ?_ ?_
                  rotate_left
                  · intro w'
                    go_simp
                    with_reducible rfl
                  rotate_left
                  · simp only [Act.put, List.setIfInBounds_toArray, List.set_cons_zero, List.set_cons_succ, i64_w, i32_w]
                    rfl
                  refine pure_ (i := 37) (N := some 72) (v := ?_) (a' := ?_) #[true, true, true, true, true, true, true, true, true, true, true, true, true, true, true, true, true, true, true, true, true, true, true, true, true, true, true, true, true, true, true, true, true, true, true, true, true, true, false] rfl rfl (any_of HT_.out (by kernel_rfl)) (fun _ _ _ h => h) (Or.inl ⟨by rfl, ?_⟩) ?_ ?_
                  rotate_left
                  · intro w'
                    go_simp
                    with_reducible rfl
                  rotate_left
                  · simp only [Act.put, List.setIfInBounds_toArray, List.set_cons_zero, List.set_cons_succ, i64_w, i32_w]
                    rfl
                  refine pure_ (i := 38) (N := some 4) (v := ?_) (a' := ?_) #[true, true, true, true, true, true, true, true, true, true, true, true, true, true, true, true, true, true, true, true, true, true, true, true, true, true, true, true, true, true, true, true, true, true, true, true, true, true, true] rfl rfl (any_of HT_.out (by kernel_rfl)) (fun _ _ _ h => h) (Or.inl ⟨by rfl, ?_⟩) ?_ ?_
                  rotate_left
                  · intro w'
                    go_simp
                    with_reducible rfl
                  rotate_left
                  · simp only [Act.put, List.setIfInBounds_toArray, List.set_cons_zero, List.set_cons_succ, i64_w, i32_w]
                    rfl
                  refine done_ (done_of HT_.out (by kernel_rfl)) ?_
                  try go_wp2
                  go_ret
                  exact ⟨by first | rfl | (simp [errW_none, errW_some] <;> rfl) | (simp [*, errW_none, errW_some] <;> rfl), by repeat (first | (with_reducible first | exact HB.out | apply below_alloc | apply pw_below_drewN | apply below_drew1 | refine below_set ?_ GE225.out | refine below_set ?_ GE227.out) | exact HB.out)⟩
                · rw [if_neg c35] at H
                  have c35b0 : (t233 == (wrap64 (1 + (wrap64 (a0)))) && (t234 == (wrap64 (1 + (wrap64 (a0)))) && ((t235 == 0 && (t236 == 0 && (t237.toList == (⟨#[]⟩ : ByteArray).toList))) && ((t238 == 0 && (t239 == 0 && (t240.toList == (⟨#[]⟩ : ByteArray).toList))))))) = false := by simpa using c35
                  (try (have c35b0e := c35b0; simp only [Hand.empty_beq, Hand.nil_beq] at c35b0e))
                  (try (have c35b1 : decide (t233 = (wrap64 (1 + (wrap64 (a0)))) && (t234 == (wrap64 (1 + (wrap64 (a0)))) && ((t235 == 0 && (t236 == 0 && (t237.toList == (⟨#[]⟩ : ByteArray).toList))) && ((t238 == 0 && (t239 == 0 && (t240.toList == (⟨#[]⟩ : ByteArray).toList))))))) = false := by simpa using c35))
                  (try (have c35b2 : (t233 == (wrap64 (1 + (wrap64 (a0)))) && (t234 == (wrap64 (1 + (wrap64 (a0)))) && ((t235 == 0 && (t236 == 0 && (t237.toList == (⟨#[]⟩ : ByteArray).toList))) && ((t238 == 0 && (t239 == 0 && (t240.toList == (⟨#[]⟩ : ByteArray).toList))))))) = false := by simpa using c35))
                  (try (have c35b3 : ¬ (t233 = (wrap64 (1 + (wrap64 (a0)))) && (t234 == (wrap64 (1 + (wrap64 (a0)))) && ((t235 == 0 && (t236 == 0 && (t237.toList == (⟨#[]⟩ : ByteArray).toList))) && ((t238 == 0 && (t239 == 0 && (t240.toList == (⟨#[]⟩ : ByteArray).toList))))))) := by simpa using c35))
                  clear c35
                  exact absurd ((Option.some.inj H).trans hr_.out) (by decide)
              · replace c33 := Bool.eq_false_iff.mpr c33
                subst c33
                have H1 : (some false) = some r := by rw [if_neg (show ¬ (false = true) by decide)] at H; exact H
                clear H
                have H := H1
                clear H1
                exact absurd ((Option.some.inj H).trans hr_.out) (by decide)
            · rw [if_neg c31] at H
              have c31b0 : (t231 == (a1_1 == 7)) = false := by simpa using c31
              (try (have c31b1 : decide (t231 = (a1_1 == 7)) = false := by simpa using c31))
              (try (have c31b2 : (t231 == (a1_1 == 7)) = false := by simpa using c31))
              (try (have c31b3 : ¬ (t231 = (a1_1 == 7)) := by simpa using c31))
              clear c31
              exact absurd ((Option.some.inj H).trans hr_.out) (by decide)
          · rw [if_neg c29] at H
            have c29b0 : (t230 == (a1_1 != 7)) = false := by simpa using c29
            (try (have c29b1 : decide (t230 = (a1_1 != 7)) = false := by simpa using c29))
            (try (have c29b2 : (t230 == (a1_1 != 7)) = false := by simpa using c29))
            (try (have c29b3 : ¬ (t230 = (a1_1 != 7)) := by simpa using c29))
            clear c29
            exact absurd ((Option.some.inj H).trans hr_.out) (by decide)
        · replace c27 := Bool.eq_false_iff.mpr c27
          subst c27
          have H1 : (some false) = some r := by rw [if_neg (show ¬ (false = true) by decide)] at H; exact H
          clear H
          have H := H1
          clear H1
          exact absurd ((Option.some.inj H).trans hr_.out) (by decide)

/-- THE ONE PURE STATEMENT of law14_ZoneBare: yours. -/
def law14_ZoneBare.Pure : Prop := ∀ (a0 : Int) (a1_0 : Int) (a1_1 : Int) (a1_2 : Int) (a1_3 : Int) (a1_4 : ByteArray), (Lit.int .u8 a0).wf = true → (Lit.int .i64 a1_0).wf = true → (Lit.int .i64 a1_1).wf = true → (Lit.int .i64 a1_2).wf = true → (Lit.int .i64 a1_3).wf = true → a1_4.size ≤ 140737488351232 → ∃ k, law14_ZoneBare.f k a0 a1_0 a1_1 a1_2 a1_3 a1_4 = some true
theorem law14_ZoneBare.walk (P : law14_ZoneBare.Pure) (a0 : Int) (a1_0 : Int) (a1_1 : Int) (a1_2 : Int) (a1_3 : Int) (a1_4 : ByteArray) (w : World) (w0 : (Lit.int .u8 a0).wf = true) (w1_0 : (Lit.int .i64 a1_0).wf = true) (w1_1 : (Lit.int .i64 a1_1).wf = true) (w1_2 : (Lit.int .i64 a1_2).wf = true) (w1_3 : (Lit.int .i64 a1_3).wf = true) (w1_4 : a1_4.size ≤ 140737488351232) :
    Calls Try.prog 6 #[.int .u8 a0, .agg #[.int .i64 a1_0, .int .i64 a1_1, .int .i64 a1_2, .int .i64 a1_3, .string a1_4]] w fun e w' => e = .returned (.bool true) ∧ Below w.heap.size w w' := by
  obtain ⟨k, h⟩ := P a0 a1_0 a1_1 a1_2 a1_3 a1_4 w0 w1_0 w1_1 w1_2 w1_3 w1_4
  refine (law14_ZoneBare.calls k a0 a1_0 a1_1 a1_2 a1_3 a1_4 true w ⟨rfl⟩ h).mono ?_
  rintro e w' ⟨rfl, hd⟩
  exact ⟨rfl, hd⟩

end Go.Proofs.Ytnpfanmkjhpmlaa.PZon
