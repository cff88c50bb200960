-- Written by this session's program wip/gprint/gprint.py, over the kit's print, with given functions; no text of print.sh's.
import Derived.Test.YtnpfanmkjhpmlaaPZojx0
import Derived.Test.YtnpfanmkjhpmlaaPZojx12
import Derived.Test.YtnpfanmkjhpmlaaPZojx13
namespace Go.Proofs.Ytnpfanmkjhpmlaa.PZoj
open Go.RowKit Go.Proofs.YtnpfanmkjhpmlaaW.PrintWords Go.Proofs.YtnpfanmkjhpmlaaW.PrintLast Go.Proofs.YtnpfanmkjhpmlaaW.PrintMore
attribute [local go_sem] max2_int min2_int max_two min_two max_three min_three max_four min_four   -- for this text's walks alone
set_option linter.unusedVariables false
set_option linter.unusedSimpArgs false

/-! ### ref11_Zone: function 10 -/
mutual
def ref11_Zone.l0 : Nat → List (S24) → Int → Int → Int → Int → Int → ByteArray → Int → Int → ByteArray → Option (Int × Int × Int × Int × ByteArray × Int × Int × ByteArray)
  | 0, _, _, _, _, _, _, _, _, _, _ => none
  | k + 1, x4, x6, x179000, x179001, x179002, x179003, x179004, x179005, x179006, x179007 => if x6 < (x4.length : Int) then (if x6 = 0 then (ref11_Zone.j1 k x4 x6 true x179000 x179001 x179002 x179003 x179004 x179005 x179006 x179007) else (if 0 ≤ x6 then ((ref05_Compare.f k ((rd_T24 x4 x6).f0) ((rd_T24 x4 x6).f1) ((rd_T24 x4 x6).f2) x179002 x179003 x179004).bind fun t180 => (ref11_Zone.j1 k x4 x6 (decide (t180 < 0)) x179000 x179001 x179002 x179003 x179004 x179005 x179006 x179007)) else (none))) else (some (x179000, x179001, x179002, x179003, x179004, x179005, x179006, x179007))
def ref11_Zone.j1 : Nat → List (S24) → Int → Bool → Int → Int → Int → Int → ByteArray → Int → Int → ByteArray → Option (Int × Int × Int × Int × ByteArray × Int × Int × ByteArray)
  | 0, _, _, _, _, _, _, _, _, _, _, _ => none
  | k + 1, x4, x6, x37, x179000, x179001, x179002, x179003, x179004, x179005, x179006, x179007 => if x37 = true then (if 0 ≤ x6 then (if x6 < (x4.length : Int) then (if x6 = 0 then (ref11_Zone.l0 k x4 (wrap64 (x6 + 1)) x179000 x179001 ((rd_T24 x4 x6).f0) ((rd_T24 x4 x6).f1) ((rd_T24 x4 x6).f2) ((rd_T24 x4 x6).f0) ((rd_T24 x4 x6).f1) ((rd_T24 x4 x6).f2)) else ((ref05_Compare.f k ((rd_T24 x4 x6).f0) ((rd_T24 x4 x6).f1) ((rd_T24 x4 x6).f2) x179005 x179006 x179007).bind fun t184 => (if t184 > 0 then (ref11_Zone.l0 k x4 (wrap64 (x6 + 1)) x179000 x179001 ((rd_T24 x4 x6).f0) ((rd_T24 x4 x6).f1) ((rd_T24 x4 x6).f2) ((rd_T24 x4 x6).f0) ((rd_T24 x4 x6).f1) ((rd_T24 x4 x6).f2)) else (ref11_Zone.l0 k x4 (wrap64 (x6 + 1)) x179000 x179001 ((rd_T24 x4 x6).f0) ((rd_T24 x4 x6).f1) ((rd_T24 x4 x6).f2) x179005 x179006 x179007)))) else (none)) else (none)) else (if x6 = 0 then (if 0 ≤ x6 then (if x6 < (x4.length : Int) then (ref11_Zone.l0 k x4 (wrap64 (x6 + 1)) x179000 x179001 x179002 x179003 x179004 ((rd_T24 x4 x6).f0) ((rd_T24 x4 x6).f1) ((rd_T24 x4 x6).f2)) else (none)) else (none)) else (if 0 ≤ x6 then (if x6 < (x4.length : Int) then ((ref05_Compare.f k ((rd_T24 x4 x6).f0) ((rd_T24 x4 x6).f1) ((rd_T24 x4 x6).f2) x179005 x179006 x179007).bind fun t188 => (if t188 > 0 then (ref11_Zone.l0 k x4 (wrap64 (x6 + 1)) x179000 x179001 x179002 x179003 x179004 ((rd_T24 x4 x6).f0) ((rd_T24 x4 x6).f1) ((rd_T24 x4 x6).f2)) else (ref11_Zone.l0 k x4 (wrap64 (x6 + 1)) x179000 x179001 x179002 x179003 x179004 x179005 x179006 x179007))) else (none)) else (none)))
end
def ref11_Zone.f (k : Nat) (l0 : List (S24)) : Option (Int × Int × Int × Int × ByteArray × Int × Int × ByteArray) := (ref06_Split.f k l0).bind fun bt172 => (ref11_Zone.l0 k bt172.2 0 (l0.length : Int) (wrap64 ((l0.length : Int) - (bt172.2.length : Int))) 0 0 (⟨#[]⟩ : ByteArray) 0 0 (⟨#[]⟩ : ByteArray))
theorem ref11_Zone.mono_l : ∀ k, (∀ y0 y1 y2 y3 y4 y5 y6 y7 y8 y9, LeO (ref11_Zone.l0 k y0 y1 y2 y3 y4 y5 y6 y7 y8 y9) (ref11_Zone.l0 (k + 1) y0 y1 y2 y3 y4 y5 y6 y7 y8 y9)) ∧ (∀ y0 y1 y2 y3 y4 y5 y6 y7 y8 y9 y10, LeO (ref11_Zone.j1 k y0 y1 y2 y3 y4 y5 y6 y7 y8 y9 y10) (ref11_Zone.j1 (k + 1) y0 y1 y2 y3 y4 y5 y6 y7 y8 y9 y10))
  | 0 => ⟨fun _ _ _ _ _ _ _ _ _ _ r h => by simp [ref11_Zone.l0] at h, fun _ _ _ _ _ _ _ _ _ _ _ r h => by simp [ref11_Zone.j1] at h⟩
  | k + 1 => by
    obtain ⟨ih0, ih1⟩ := ref11_Zone.mono_l k
    refine ⟨?_, ?_⟩
    · intro y0 y1 y2 y3 y4 y5 y6 y7 y8 y9
      unfold ref11_Zone.l0
      repeat' first
      | (with_reducible exact ih0 _ _ _ _ _ _ _ _ _ _)
      | (with_reducible exact ih1 _ _ _ _ _ _ _ _ _ _ _)
      | (with_reducible exact ref05_Compare.mono _ _ _ _ _ _ _)
      | (with_reducible exact ref06_Split.mono _ _)
      | (with_reducible exact LeO.refl _)
      | (with_reducible exact LeO.none _)
      | (with_reducible refine LeO.ite ?_ ?_)
      | (with_reducible refine LeO.bind ?_ (fun _ => ?_))
      | exact ih0 _ _ _ _ _ _ _ _ _ _
      | exact ih1 _ _ _ _ _ _ _ _ _ _ _
      | exact ref05_Compare.mono _ _ _ _ _ _ _
      | exact ref06_Split.mono _ _
      | exact LeO.none _
      | refine LeO.ite ?_ ?_
      | refine LeO.bind ?_ (fun _ => ?_)
    · intro y0 y1 y2 y3 y4 y5 y6 y7 y8 y9 y10
      unfold ref11_Zone.j1
      repeat' first
      | (with_reducible exact ih0 _ _ _ _ _ _ _ _ _ _)
      | (with_reducible exact ih1 _ _ _ _ _ _ _ _ _ _ _)
      | (with_reducible exact ref05_Compare.mono _ _ _ _ _ _ _)
      | (with_reducible exact ref06_Split.mono _ _)
      | (with_reducible exact LeO.refl _)
      | (with_reducible exact LeO.none _)
      | (with_reducible refine LeO.ite ?_ ?_)
      | (with_reducible refine LeO.bind ?_ (fun _ => ?_))
      | exact ih0 _ _ _ _ _ _ _ _ _ _
      | exact ih1 _ _ _ _ _ _ _ _ _ _ _
      | exact ref05_Compare.mono _ _ _ _ _ _ _
      | exact ref06_Split.mono _ _
      | exact LeO.none _
      | refine LeO.ite ?_ ?_
      | refine LeO.bind ?_ (fun _ => ?_)
theorem ref11_Zone.mono : ∀ a0 k, LeO (ref11_Zone.f k a0) (ref11_Zone.f (k + 1) a0) := by
  intro a0 k
  obtain ⟨ih0, ih1⟩ := ref11_Zone.mono_l k
  unfold ref11_Zone.f
  repeat' first
      | (with_reducible exact ih0 _ _ _ _ _ _ _ _ _ _)
      | (with_reducible exact ih1 _ _ _ _ _ _ _ _ _ _ _)
      | (with_reducible exact ref05_Compare.mono _ _ _ _ _ _ _)
      | (with_reducible exact ref06_Split.mono _ _)
      | (with_reducible exact LeO.refl _)
      | (with_reducible exact LeO.none _)
      | (with_reducible refine LeO.ite ?_ ?_)
      | (with_reducible refine LeO.bind ?_ (fun _ => ?_))
      | exact ih0 _ _ _ _ _ _ _ _ _ _
      | exact ih1 _ _ _ _ _ _ _ _ _ _ _
      | exact ref05_Compare.mono _ _ _ _ _ _ _
      | exact ref06_Split.mono _ _
      | exact LeO.none _
      | refine LeO.ite ?_ ?_
      | refine LeO.bind ?_ (fun _ => ?_)
def ref11_Zone.T6 : Bool × List (List Nat × List Nat) := (true, [([], []), ([0], [0]), ([1], [1]), ([2], [2]), ([2], [2]), ([3, 4, 2], [2, 3, 4]), ([5, 2], [2, 5]), ([2], [2]), ([7, 2], [2, 7]), ([6, 8, 2, 2], [2, 6, 8]), ([9, 2], [2, 9]), ([2, 10], [2, 10])])
def ref11_Zone.B6 : List Nat := [0, 1, 3, 7, 7, 31, 63, 7, 135, 511, 1023, 2047]
theorem ref11_Zone.tab6 : rtab .any (opsOf Try.f10 6) = ref11_Zone.T6 := by kernel_rfl
theorem ref11_Zone.bits6 : waitsOk ref11_Zone.T6.2 ref11_Zone.B6 = true := by kernel_rfl
def ref11_Zone.T8 : Bool × List (List Nat × List Nat) := (true, [([], []), ([0], [0]), ([1], [1]), ([2], [2]), ([2], [2]), ([3, 4, 2], [2, 3, 4]), ([5, 2], [2, 5]), ([2], [2]), ([7, 2], [2, 7]), ([6, 8, 2, 2], [2, 6, 8]), ([9, 2], [2, 9]), ([2, 10], [2, 10])])
def ref11_Zone.B8 : List Nat := [0, 1, 3, 7, 7, 31, 63, 7, 135, 511, 1023, 2047]
theorem ref11_Zone.tab8 : rtab .any (opsOf Try.f10 8) = ref11_Zone.T8 := by kernel_rfl
theorem ref11_Zone.bits8 : waitsOk ref11_Zone.T8.2 ref11_Zone.B8 = true := by kernel_rfl
set_option maxHeartbeats 8000000 in
set_option maxRecDepth 100000 in
theorem ref11_Zone.calls (k : Nat) (A0 : Option Addr) (c0 : Nat) (l0 : List (S24)) (r1 : Int) (r2 : Int) (r3 : Int) (r4 : Int) (r5 : ByteArray) (r6 : Int) (r7 : Int) (r8 : ByteArray) (w : World) (hr0 : Kd.C k24 w A0 l0.length l0) (hc0 : l0.length ≤ c0) (h : ref11_Zone.f k l0 = some (r1, r2, r3, r4, r5, r6, r7, r8)) :
    Calls Try.prog 10 #[.slice A0 l0.length c0] w fun e w' => e = .returned (.agg #[.int .i64 r1, .int .i64 r2, .int .i64 r3, .int .i64 r4, .string r5, .int .i64 r6, .int .i64 r7, .string r8]) ∧ Below w.heap.size w w' := by
  have hu30 := Try.underlying30
  have hu24 := Try.underlying24
  have HR0 := Aside0.mk hr0
  have HC0 := Aside0.mk hc0
  clear hr0 hc0
  have HB := Aside0.mk (Below.refl w.heap.size w)
  have H : ((ref06_Split.f k l0).bind fun bt172 => (ref11_Zone.l0 k bt172.2 0 (l0.length : Int) (wrap64 ((l0.length : Int) - (bt172.2.length : Int))) 0 0 (⟨#[]⟩ : ByteArray) 0 0 (⟨#[]⟩ : ByteArray))) = some (r1, r2, r3, r4, r5, r6, r7, r8) := h
  clear h
  replace H := Option.bind_eq_some_iff.mp H
  obtain ⟨⟨t172, t173⟩, A20, H⟩ := H
  replace H : (ref11_Zone.l0 k t173 0 (l0.length : Int) (wrap64 ((l0.length : Int) - (t173.length : Int))) 0 0 (⟨#[]⟩ : ByteArray) 0 0 (⟨#[]⟩ : ByteArray)) = some (r1, r2, r3, r4, r5, r6, r7, r8) := H
  have A2 := Aside0.mk A20
  clear A20
  have H' := Aside0.mk H
  clear H
  go_enter Try.func10, Try.ntmps10
  go_wp2_with (first | ((with_reducible refine gate_dst (N := 2) rfl ?_); refine box_event ?hg (N := 2) ?hd (cs := #[.int .i64 0, .int .i64 0, .int .i64 0, .int .i64 0, .string (⟨#[]⟩ : ByteArray), .int .i64 0, .int .i64 0, .string (⟨#[]⟩ : ByteArray)]) (t := 30) ?hr ?_; (case hd => rfl); (case hg => rfl); (case hr => first | (go_simp; done) | (go_simp; rfl)); intro gb171 hg w3 hbox hb; have n0_ := Aside0.mk (below_step (by repeat (first | (with_reducible first | exact HB.out | apply below_alloc | apply pw_below_drewN | apply below_drew1) | exact HB.out)) hb); have n1_ := Aside0.mk (hbox); have n2_ := Aside0.mk ((by rw [hg]; exact (below_size (by repeat (first | (with_reducible first | exact HB.out | apply below_alloc | apply pw_below_drewN | apply below_drew1) | exact HB.out))) : w.heap.size ≤ gb171)); have n3_ := Aside0.mk ((by rw [hg]; exact (below_size (by repeat (first | (with_reducible first | exact HB.out | apply below_alloc | apply pw_below_drewN | apply below_drew1) | exact HB.out))) : w.heap.size ≤ gb171)); clear HB; have HB := n0_; have BK171 := n1_; have GW171 := n2_; have GE171 := n3_; clear n0_ n1_ n2_ n3_; clear hb hbox hg) | ((with_reducible refine gate_callee (f := 17) rfl ?_); refine goesL_ (some 9) rfl rfl Try.func17 (by kernel_rfl) rfl #[.slice A0 l0.length c0] rfl (by (try simp only [List.map_toArray, List.map_cons, List.map_nil]); first | done | rfl | (simp only [List.length_drop, List.length_take]; rfl)) ?_; (with_reducible refine (ref06_Split.calls k _ _ l0 t172 t173 _ ?side1 ?side2 A2.out).mono ?_); (case side1 => repeat (first | exact (Kd.C_below HR0.out HB.out) | (with_reducible refine Kd.C_alloc ?_ _) | (with_reducible refine Kd.C_drewN ?_ _) | (with_reducible refine Kd.C_drew ?_))); (case side2 => exact HC0.out); rintro e w4 ⟨v174, v176, rfl, ho0, ho1, hb⟩; refine ⟨_, rfl, ?_⟩; have n0_ := Aside0.mk (Kd.R_lower ho0 (below_size (by repeat (first | (with_reducible first | exact HB.out | apply below_alloc | apply pw_below_drewN | apply below_drew1 | refine below_set ?_ GE171.out) | exact HB.out)))); have n1_ := Aside0.mk (Kd.R_lower ho1 (below_size (by repeat (first | (with_reducible first | exact HB.out | apply below_alloc | apply pw_below_drewN | apply below_drew1 | refine below_set ?_ GE171.out) | exact HB.out)))); have n2_ := Aside0.mk (blk_below (g := gb171) (o := .cells #[.int .i64 0, .int .i64 0, .int .i64 0, .int .i64 0, .string (⟨#[]⟩ : ByteArray), .int .i64 0, .int .i64 0, .string (⟨#[]⟩ : ByteArray)] 30 (0, 0)) (by (with_reducible repeat (first | refine blk_drewN ?_ _ | refine blk_drew ?_ | refine blk_alloc ?_ _)); exact BK171.out) hb); have n3_ := Aside0.mk (below_step (by repeat (first | (with_reducible first | exact HB.out | apply below_alloc | apply pw_below_drewN | apply below_drew1 | refine below_set ?_ GE171.out) | exact HB.out)) hb); clear BK171; clear HB; have HO175 := n0_; have HO177 := n1_; have BK171 := n2_; have HB := n3_; clear n0_ n1_ n2_ n3_; (try clear hb); (try clear hb2); (try clear hk); (try clear hi); (try clear ho0); (try clear ho1); obtain ⟨Ao5, co5, eo5⟩ := Kd.R_slice HO177.out; subst eo5) | ((with_reducible refine gate_dst (N := 5) rfl ?_); refine box_event ?hg (N := 5) ?hd (cs := #[.int .i64 0, .int .i64 0, .int .i64 0, .int .i64 0, .string (⟨#[]⟩ : ByteArray), .int .i64 0, .int .i64 0, .string (⟨#[]⟩ : ByteArray)]) (t := 30) ?hr ?_; (case hd => rfl); (case hg => rfl); (case hr => first | (go_simp; done) | (go_simp; rfl)); intro gb178 hg w6 hbox hb; have n0_ := Aside0.mk (Kd.R_below (by (with_reducible repeat (first | apply Kd.R_alloc | apply Kd.R_drewN | apply Kd.R_drew)); exact HO175.out) hb); have n1_ := Aside0.mk (Kd.R_below (by (with_reducible repeat (first | apply Kd.R_alloc | apply Kd.R_drewN | apply Kd.R_drew)); exact HO177.out) hb); have n2_ := Aside0.mk (blk_below (g := gb171) (o := .cells #[.int .i64 0, .int .i64 0, .int .i64 0, .int .i64 0, .string (⟨#[]⟩ : ByteArray), .int .i64 0, .int .i64 0, .string (⟨#[]⟩ : ByteArray)] 30 (0, 0)) (by (with_reducible repeat (first | refine blk_drewN ?_ _ | refine blk_drew ?_ | refine blk_alloc ?_ _)); exact BK171.out) hb); have n3_ := Aside0.mk (below_step (by repeat (first | (with_reducible first | exact HB.out | apply below_alloc | apply pw_below_drewN | apply below_drew1 | refine below_set ?_ GE171.out) | exact HB.out)) hb); have n4_ := Aside0.mk (hbox); have n5_ := Aside0.mk ((by rw [hg]; exact (below_size (by repeat (first | (with_reducible first | exact HB.out | apply below_alloc | apply pw_below_drewN | apply below_drew1 | refine below_set ?_ GE171.out) | exact HB.out))) : w.heap.size ≤ gb178)); have n6_ := Aside0.mk ((by rw [hg]; exact (below_size (by repeat (first | (with_reducible first | exact HB.out | apply below_alloc | apply pw_below_drewN | apply below_drew1 | refine below_set ?_ GE171.out) | exact HB.out))) : w.heap.size ≤ gb178)); have n7_ := Aside0.mk ((by rw [hg]; exact Nat.ne_of_lt (blk_lt (g := gb171) (o := .cells #[.int .i64 0, .int .i64 0, .int .i64 0, .int .i64 0, .string (⟨#[]⟩ : ByteArray), .int .i64 0, .int .i64 0, .string (⟨#[]⟩ : ByteArray)] 30 (0, 0)) (by (with_reducible repeat (first | refine blk_drewN ?_ _ | refine blk_drew ?_ | refine blk_alloc ?_ _)); exact BK171.out)) : gb171 ≠ gb178)); have n8_ := Aside0.mk ((by rw [hg]; exact Nat.ne_of_gt (blk_lt (g := gb171) (o := .cells #[.int .i64 0, .int .i64 0, .int .i64 0, .int .i64 0, .string (⟨#[]⟩ : ByteArray), .int .i64 0, .int .i64 0, .string (⟨#[]⟩ : ByteArray)] 30 (0, 0)) (by (with_reducible repeat (first | refine blk_drewN ?_ _ | refine blk_drew ?_ | refine blk_alloc ?_ _)); exact BK171.out)) : gb178 ≠ gb171)); clear HO175; clear HO177; clear BK171; clear HB; have HO175 := n0_; have HO177 := n1_; have BK171 := n2_; have HB := n3_; have BK178 := n4_; have GW178 := n5_; have GE178 := n6_; have NB171_178 := n7_; have NB178_171 := n8_; clear n0_ n1_ n2_ n3_ n4_ n5_ n6_ n7_ n8_; clear hb hbox hg; have hnb7 := NB178_171.out; have hnc7 := NB171_178.out; have hcz8_0 : w6.cell? ⟨gb178, 0, none⟩ = some (.int .i64 0) := (blk_cell BK178.out 0).trans rfl; have hcz8_1 : w6.cell? ⟨gb178, 1, none⟩ = some (.int .i64 0) := (blk_cell BK178.out 1).trans rfl; have hcz8_2 : w6.cell? ⟨gb178, 2, none⟩ = some (.int .i64 0) := (blk_cell BK178.out 2).trans rfl; have hcz8_3 : w6.cell? ⟨gb178, 3, none⟩ = some (.int .i64 0) := (blk_cell BK178.out 3).trans rfl; have hcz8_4 : w6.cell? ⟨gb178, 4, none⟩ = some (.string (⟨#[]⟩ : ByteArray)) := (blk_cell BK178.out 4).trans rfl; have hcz8_5 : w6.cell? ⟨gb178, 5, none⟩ = some (.int .i64 0) := (blk_cell BK178.out 5).trans rfl; have hcz8_6 : w6.cell? ⟨gb178, 6, none⟩ = some (.int .i64 0) := (blk_cell BK178.out 6).trans rfl; have hcz8_7 : w6.cell? ⟨gb178, 7, none⟩ = some (.string (⟨#[]⟩ : ByteArray)) := (blk_cell BK178.out 7).trans rfl; have hfz8_0 := blk_frozen BK178.out 0; have hfz8_1 := blk_frozen BK178.out 1; have hfz8_2 := blk_frozen BK178.out 2; have hfz8_3 := blk_frozen BK178.out 3; have hfz8_4 := blk_frozen BK178.out 4; have hfz8_5 := blk_frozen BK178.out 5; have hfz8_6 := blk_frozen BK178.out 6; have hfz8_7 := blk_frozen BK178.out 7))
  go_loopg [6] k (fun kq v6 w' => ∃ (x6_1 : Int) (x179002_1 : Int) (x179003_1 : Int) (x179004_1 : ByteArray) (x179005_1 : Int) (x179006_1 : Int) (x179007_1 : ByteArray), v6 = .int .i64 x6_1 ∧ Aside0 (ref11_Zone.l0 kq t173 x6_1 (l0.length : Int) (wrap64 ((l0.length : Int) - (t173.length : Int))) x179002_1 x179003_1 x179004_1 x179005_1 x179006_1 x179007_1 = some (r1, r2, r3, r4, r5, r6, r7, r8)) ∧ Aside0 (kq ≤ k) ∧ Aside0 (Kd.R k24 24 w' w.heap.size (fun _ => True) (.slice Ao5 t173.length co5) t173) ∧ Aside0 (w'.heap[gb171]? = some (.cells #[.int .i64 0, .int .i64 0, .int .i64 0, .int .i64 0, .string (⟨#[]⟩ : ByteArray), .int .i64 0, .int .i64 0, .string (⟨#[]⟩ : ByteArray)] 30 (0, 0))) ∧ Aside0 (w'.heap[gb178]? = some (.cells #[.int .i64 (l0.length : Int), .int .i64 (wrap64 ((l0.length : Int) - (t173.length : Int))), .int .i64 x179002_1, .int .i64 x179003_1, .string x179004_1, .int .i64 x179005_1, .int .i64 x179006_1, .string x179007_1] 30 (0, 0))) ∧ Aside0 (Below w.heap.size w w'))
  case atStart => exact ⟨(0), (0), (0), ((⟨#[]⟩ : ByteArray)), (0), (0), ((⟨#[]⟩ : ByteArray)), (by first | rfl | (simp; done) | (simp [*]; done)), H', ⟨Nat.le_refl _⟩, ⟨by (with_reducible repeat (first | apply Kd.R_alloc | apply Kd.R_drewN | apply Kd.R_drew)); exact Kd.R_mono (Kd.R_far (p := ⟨gb178, 7, none⟩) (Kd.R_far (p := ⟨gb178, 6, none⟩) (Kd.R_far (p := ⟨gb178, 5, none⟩) (Kd.R_far (p := ⟨gb178, 4, none⟩) (Kd.R_far (p := ⟨gb178, 3, none⟩) (Kd.R_far (p := ⟨gb178, 2, none⟩) (Kd.R_far (p := ⟨gb178, 1, none⟩) (Kd.R_far (p := ⟨gb178, 0, none⟩) (Kd.R_types HO177.out BK178.out (by decide)) (fun _ hk => hk.2) (.int .i64 (l0.length : Int))) (fun _ hk => hk.2) (.int .i64 (wrap64 ((l0.length : Int) - (t173.length : Int))))) (fun _ hk => hk.2) (.int .i64 0)) (fun _ hk => hk.2) (.int .i64 0)) (fun _ hk => hk.2) (.string (⟨#[]⟩ : ByteArray))) (fun _ hk => hk.2) (.int .i64 0)) (fun _ hk => hk.2) (.int .i64 0)) (fun _ hk => hk.2) (.string (⟨#[]⟩ : ByteArray))) (fun _ hk => trivial)⟩, ⟨by (with_reducible repeat (first | refine blk_drewN ?_ _ | refine blk_drew ?_ | refine blk_alloc ?_ _)); refine blk_far ?_ NB171_178.out _; (with_reducible repeat (first | refine blk_drewN ?_ _ | refine blk_drew ?_ | refine blk_alloc ?_ _)); refine blk_far ?_ NB171_178.out _; (with_reducible repeat (first | refine blk_drewN ?_ _ | refine blk_drew ?_ | refine blk_alloc ?_ _)); refine blk_far ?_ NB171_178.out _; (with_reducible repeat (first | refine blk_drewN ?_ _ | refine blk_drew ?_ | refine blk_alloc ?_ _)); refine blk_far ?_ NB171_178.out _; (with_reducible repeat (first | refine blk_drewN ?_ _ | refine blk_drew ?_ | refine blk_alloc ?_ _)); refine blk_far ?_ NB171_178.out _; (with_reducible repeat (first | refine blk_drewN ?_ _ | refine blk_drew ?_ | refine blk_alloc ?_ _)); refine blk_far ?_ NB171_178.out _; (with_reducible repeat (first | refine blk_drewN ?_ _ | refine blk_drew ?_ | refine blk_alloc ?_ _)); refine blk_far ?_ NB171_178.out _; (with_reducible repeat (first | refine blk_drewN ?_ _ | refine blk_drew ?_ | refine blk_alloc ?_ _)); refine blk_far ?_ NB171_178.out _; (with_reducible repeat (first | refine blk_drewN ?_ _ | refine blk_drew ?_ | refine blk_alloc ?_ _)); exact BK171.out⟩, ⟨by (with_reducible repeat (first | refine blk_drewN ?_ _ | refine blk_drew ?_ | refine blk_alloc ?_ _)); refine blk_put (cs := #[.int .i64 (l0.length : Int), .int .i64 (wrap64 ((l0.length : Int) - (t173.length : Int))), .int .i64 0, .int .i64 0, .string (⟨#[]⟩ : ByteArray), .int .i64 0, .int .i64 0, .string (⟨#[]⟩ : ByteArray)]) ?_ 7 _ rfl; (with_reducible repeat (first | refine blk_drewN ?_ _ | refine blk_drew ?_ | refine blk_alloc ?_ _)); refine blk_put (cs := #[.int .i64 (l0.length : Int), .int .i64 (wrap64 ((l0.length : Int) - (t173.length : Int))), .int .i64 0, .int .i64 0, .string (⟨#[]⟩ : ByteArray), .int .i64 0, .int .i64 0, .string (⟨#[]⟩ : ByteArray)]) ?_ 6 _ rfl; (with_reducible repeat (first | refine blk_drewN ?_ _ | refine blk_drew ?_ | refine blk_alloc ?_ _)); refine blk_put (cs := #[.int .i64 (l0.length : Int), .int .i64 (wrap64 ((l0.length : Int) - (t173.length : Int))), .int .i64 0, .int .i64 0, .string (⟨#[]⟩ : ByteArray), .int .i64 0, .int .i64 0, .string (⟨#[]⟩ : ByteArray)]) ?_ 5 _ rfl; (with_reducible repeat (first | refine blk_drewN ?_ _ | refine blk_drew ?_ | refine blk_alloc ?_ _)); refine blk_put (cs := #[.int .i64 (l0.length : Int), .int .i64 (wrap64 ((l0.length : Int) - (t173.length : Int))), .int .i64 0, .int .i64 0, .string (⟨#[]⟩ : ByteArray), .int .i64 0, .int .i64 0, .string (⟨#[]⟩ : ByteArray)]) ?_ 4 _ rfl; (with_reducible repeat (first | refine blk_drewN ?_ _ | refine blk_drew ?_ | refine blk_alloc ?_ _)); refine blk_put (cs := #[.int .i64 (l0.length : Int), .int .i64 (wrap64 ((l0.length : Int) - (t173.length : Int))), .int .i64 0, .int .i64 0, .string (⟨#[]⟩ : ByteArray), .int .i64 0, .int .i64 0, .string (⟨#[]⟩ : ByteArray)]) ?_ 3 _ rfl; (with_reducible repeat (first | refine blk_drewN ?_ _ | refine blk_drew ?_ | refine blk_alloc ?_ _)); refine blk_put (cs := #[.int .i64 (l0.length : Int), .int .i64 (wrap64 ((l0.length : Int) - (t173.length : Int))), .int .i64 0, .int .i64 0, .string (⟨#[]⟩ : ByteArray), .int .i64 0, .int .i64 0, .string (⟨#[]⟩ : ByteArray)]) ?_ 2 _ rfl; (with_reducible repeat (first | refine blk_drewN ?_ _ | refine blk_drew ?_ | refine blk_alloc ?_ _)); refine blk_put (cs := #[.int .i64 (l0.length : Int), .int .i64 0, .int .i64 0, .int .i64 0, .string (⟨#[]⟩ : ByteArray), .int .i64 0, .int .i64 0, .string (⟨#[]⟩ : ByteArray)]) ?_ 1 _ rfl; (with_reducible repeat (first | refine blk_drewN ?_ _ | refine blk_drew ?_ | refine blk_alloc ?_ _)); refine blk_put (cs := #[.int .i64 0, .int .i64 0, .int .i64 0, .int .i64 0, .string (⟨#[]⟩ : ByteArray), .int .i64 0, .int .i64 0, .string (⟨#[]⟩ : ByteArray)]) ?_ 0 _ rfl; (with_reducible repeat (first | refine blk_drewN ?_ _ | refine blk_drew ?_ | refine blk_alloc ?_ _)); exact BK178.out⟩, ⟨by repeat (first | (with_reducible first | exact HB.out | apply below_alloc | apply pw_below_drewN | apply below_drew1 | refine below_set ?_ GE171.out | refine below_set ?_ GE178.out) | exact HB.out)⟩⟩
  case round =>
    clear H'
    try clear c1
    try clear p2
    try clear p6
    try clear c7
    try clear hcz8_0
    try clear hcz8_1
    try clear hcz8_2
    try clear hcz8_3
    try clear hcz8_4
    try clear hcz8_5
    try clear hcz8_6
    try clear hcz8_7
    try clear hfz8_0
    try clear hfz8_1
    try clear hfz8_2
    try clear hfz8_3
    try clear hfz8_4
    try clear hfz8_5
    try clear hfz8_6
    try clear hfz8_7
    obtain ⟨x6_1, x179002_1, x179003_1, x179004_1, x179005_1, x179006_1, x179007_1, rfl, HA, HK1, HO_4, BK171, BK178, HB⟩ := hrel
    cases gk with
    | zero => exact absurd HA.out (by simp [ref11_Zone.l0])
    | succ k1 =>
      have H := HA.out
      clear HA
      simp only [ref11_Zone.l0] at H
      by_cases c9 : x6_1 < (t173.length : Int)
      · rw [if_pos c9] at H
        have c9b0 : decide (x6_1 < (t173.length : Int)) = true := decide_eq_true c9
        clear c9
        have HC10 := Aside0.mk H
        clear H
        go_upto_region 6 with (fail)
        go_cut [37] (fun v37 wc => ∃ (kq : Nat) (x37_9 : Bool), v37 = .bool x37_9 ∧ Aside0 (ref11_Zone.j1 kq t173 x6_1 x37_9 (l0.length : Int) (wrap64 ((l0.length : Int) - (t173.length : Int))) x179002_1 x179003_1 x179004_1 x179005_1 x179006_1 x179007_1 = some (r1, r2, r3, r4, r5, r6, r7, r8)) ∧ Aside0 (kq ≤ k1) ∧ Aside0 (Kd.R k24 24 wc w.heap.size (fun _ => True) (.slice Ao5 t173.length co5) t173) ∧ Aside0 (wc.heap[gb171]? = some (.cells #[.int .i64 0, .int .i64 0, .int .i64 0, .int .i64 0, .string (⟨#[]⟩ : ByteArray), .int .i64 0, .int .i64 0, .string (⟨#[]⟩ : ByteArray)] 30 (0, 0))) ∧ Aside0 (wc.heap[gb178]? = some (.cells #[.int .i64 (l0.length : Int), .int .i64 (wrap64 ((l0.length : Int) - (t173.length : Int))), .int .i64 x179002_1, .int .i64 x179003_1, .string x179004_1, .int .i64 x179005_1, .int .i64 x179006_1, .string x179007_1] 30 (0, 0))) ∧ Aside0 (Below w.heap.size w wc))
        case first =>
          have H := HC10.out
          clear HC10
          by_cases c11 : x6_1 = 0
          · rw [if_pos c11] at H
            have c11b0 : (x6_1 == 0) = true := beq_iff_eq.mpr c11
            have c11b1 : (x6_1 != 0) = false := bne_eq_false_iff_eq.mpr c11
            clear c11
            (first | rw [c11b0] | (simp only [i64_w, i32_w]; rw [c11b0]) | skip)
            have H' := Aside0.mk H
            clear H
            try go_wp2
            have n0_ := Aside0.mk (Kd.R_drew HO_4.out)
            have n1_ := Aside0.mk (blk_drew BK171.out)
            have n2_ := Aside0.mk (blk_drew BK178.out)
            have n3_ := Aside0.mk (below_drew1 HB.out)
            clear HO_4
            clear BK171
            clear BK178
            clear HB
            have HO_4 := n0_
            have BK171 := n1_
            have BK178 := n2_
            have HB := n3_
            clear n0_ n1_ n2_ n3_
            refine start_ (n := 12) (S := fun w' => True) (ds := []) #[false, false, false, false, false, false, false, false, false, false, false, false] (by kernel_rfl) rfl rfl trivial (fun hHeld => ?_); refine with_tabW ref11_Zone.tab6 ref11_Zone.bits6 (fun HT_ HW_ => ?_)
            generalize wr.drew = w12 at HO_4 BK171 BK178 HB hHeld ⊢
            refine pure_ (i := 0) (N := some 26) (v := ?_) (a' := ?_) #[true, false, false, false, false, false, false, false, false, false, false, false] rfl rfl (any_of HT_.out (by kernel_rfl)) (fun _ _ _ h => h) (Or.inl ⟨by rfl, ?_⟩) ?_ ?_
            rotate_left
            · intro w'
              go_simp
              with_reducible rfl
            rotate_left
            · simp only [Act.put, List.setIfInBounds_toArray, List.set_cons_zero, List.set_cons_succ, i64_w, i32_w]
              rfl
            refine pure_ (i := 1) (N := some 27) (v := ?_) (a' := ?_) #[true, true, false, false, false, false, false, false, false, false, false, false] rfl rfl (any_of HT_.out (by kernel_rfl)) (fun _ _ _ h => h) (Or.inl ⟨by rfl, ?_⟩) ?_ ?_
            rotate_left
            · intro w'
              go_simp
              with_reducible rfl
            rotate_left
            · simp only [Act.put, List.setIfInBounds_toArray, List.set_cons_zero, List.set_cons_succ, i64_w, i32_w]
              rfl
            refine pure_ (i := 2) (N := some 28) (v := ?_) (a' := ?_) #[true, true, true, false, false, false, false, false, false, false, false, false] rfl rfl (any_of HT_.out (by kernel_rfl)) (fun _ _ _ h => h) (Or.inl ⟨by rfl, ?_⟩) ?_ ?_
            rotate_left
            · intro w'
              go_simp
              with_reducible rfl
            rotate_left
            · simp only [Act.put, List.setIfInBounds_toArray, List.set_cons_zero, List.set_cons_succ, i64_w, i32_w]
              rfl
            refine pure_ (i := 3) (N := some 29) (v := undef) (a' := ?_) #[true, true, true, true, false, false, false, false, false, false, false, false] rfl rfl (any_of HT_.out (by kernel_rfl)) (fun _ _ _ h => h) (Or.inr ⟨by rfl, rfl⟩) ?_ ?_
            rotate_left
            · simp only [Act.put, List.setIfInBounds_toArray, List.set_cons_zero, List.set_cons_succ, i64_w, i32_w]
              rfl
            refine pure_ (i := 4) (N := some 30) (v := undef) (a' := ?_) #[true, true, true, true, true, false, false, false, false, false, false, false] rfl rfl (any_of HT_.out (by kernel_rfl)) (fun _ _ _ h => h) (Or.inr ⟨by rfl, rfl⟩) ?_ ?_
            rotate_left
            · simp only [Act.put, List.setIfInBounds_toArray, List.set_cons_zero, List.set_cons_succ, i64_w, i32_w]
              rfl
            refine pure_ (i := 5) (N := some 31) (v := undef) (a' := ?_) #[true, true, true, true, true, true, false, false, false, false, false, false] rfl rfl (any_of HT_.out (by kernel_rfl)) (fun _ _ _ h => h) (Or.inr ⟨by rfl, rfl⟩) ?_ ?_
            rotate_left
            · simp only [Act.put, List.setIfInBounds_toArray, List.set_cons_zero, List.set_cons_succ, i64_w, i32_w]
              rfl
            refine pure_ (i := 6) (N := some 32) (v := undef) (a' := ?_) #[true, true, true, true, true, true, true, false, false, false, false, false] rfl rfl (any_of HT_.out (by kernel_rfl)) (fun _ _ _ h => h) (Or.inr ⟨by rfl, rfl⟩) ?_ ?_
            rotate_left
            · simp only [Act.put, List.setIfInBounds_toArray, List.set_cons_zero, List.set_cons_succ, i64_w, i32_w]
              rfl
            refine pure_ (i := 7) (N := some 33) (v := undef) (a' := ?_) #[true, true, true, true, true, true, true, true, false, false, false, false] rfl rfl (any_of HT_.out (by kernel_rfl)) (fun _ _ _ h => h) (Or.inr ⟨by rfl, rfl⟩) ?_ ?_
            rotate_left
            · simp only [Act.put, List.setIfInBounds_toArray, List.set_cons_zero, List.set_cons_succ, i64_w, i32_w]
              rfl
            refine pure_ (i := 8) (N := some 34) (v := undef) (a' := ?_) #[true, true, true, true, true, true, true, true, true, false, false, false] rfl rfl (any_of HT_.out (by kernel_rfl)) (fun _ _ _ h => h) (Or.inr ⟨by rfl, rfl⟩) ?_ ?_
            rotate_left
            · simp only [Act.put, List.setIfInBounds_toArray, List.set_cons_zero, List.set_cons_succ, i64_w, i32_w]
              rfl
            refine pure_ (i := 9) (N := some 35) (v := undef) (a' := ?_) #[true, true, true, true, true, true, true, true, true, true, false, false] rfl rfl (any_of HT_.out (by kernel_rfl)) (fun _ _ _ h => h) (Or.inr ⟨by rfl, rfl⟩) ?_ ?_
            rotate_left
            · simp only [Act.put, List.setIfInBounds_toArray, List.set_cons_zero, List.set_cons_succ, i64_w, i32_w]
              rfl
            refine pure_ (i := 10) (N := some 36) (v := undef) (a' := ?_) #[true, true, true, true, true, true, true, true, true, true, true, false] rfl rfl (any_of HT_.out (by kernel_rfl)) (fun _ _ _ h => h) (Or.inr ⟨by rfl, rfl⟩) ?_ ?_
            rotate_left
            · simp only [Act.put, List.setIfInBounds_toArray, List.set_cons_zero, List.set_cons_succ, i64_w, i32_w]
              rfl
            refine pure_ (i := 11) (N := some 37) (v := ?_) (a' := ?_) #[true, true, true, true, true, true, true, true, true, true, true, true] rfl rfl (any_of HT_.out (by kernel_rfl)) (fun _ _ _ h => h) (Or.inl ⟨by rfl, ?_⟩) ?_ ?_
            rotate_left
            · intro w'
              go_simp
              with_reducible rfl
            rotate_left
            · simp only [Act.put, List.setIfInBounds_toArray, List.set_cons_zero, List.set_cons_succ, i64_w, i32_w]
              rfl
            refine done_ (done_of HT_.out (by kernel_rfl)) ?_
            try go_wp2
            go_meet
            case rel => exact ⟨_, (true), (by first | rfl | (simp; done) | (simp [*]; done)), H', ⟨by have := HK1.out; first | omega | exact Nat.le_refl _⟩, ⟨by (with_reducible repeat (first | apply Kd.R_alloc | apply Kd.R_drewN | apply Kd.R_drew)); exact HO_4.out⟩, ⟨by (with_reducible repeat (first | refine blk_drewN ?_ _ | refine blk_drew ?_ | refine blk_alloc ?_ _)); exact BK171.out⟩, ⟨by (with_reducible repeat (first | refine blk_drewN ?_ _ | refine blk_drew ?_ | refine blk_alloc ?_ _)); exact BK178.out⟩, ⟨by repeat (first | (with_reducible first | exact HB.out | apply below_alloc | apply pw_below_drewN | apply below_drew1 | refine below_set ?_ GE171.out | refine below_set ?_ GE178.out) | exact HB.out)⟩⟩
          · rw [if_neg c11] at H
            have c11b0 : (x6_1 == 0) = false := beq_eq_false_iff_ne.mpr c11
            have c11b1 : (x6_1 != 0) = true := bne_iff_ne.mpr c11
            (first | rw [c11b0] | (simp only [i64_w, i32_w]; rw [c11b0]) | skip)
            by_cases c13 : 0 ≤ x6_1
            · rw [if_pos c13] at H
              have c13b0 : decide (0 ≤ x6_1) = true := decide_eq_true c13
              clear c13
              replace H := Option.bind_eq_some_iff.mp H
              obtain ⟨t180, A140, H⟩ := H
              replace H : (ref11_Zone.j1 k1 t173 x6_1 (decide (t180 < 0)) (l0.length : Int) (wrap64 ((l0.length : Int) - (t173.length : Int))) x179002_1 x179003_1 x179004_1 x179005_1 x179006_1 x179007_1) = some (r1, r2, r3, r4, r5, r6, r7, r8) := H
              have A14 := Aside0.mk A140
              clear A140
              have H' := Aside0.mk H
              clear H
              try go_wp2
              have n0_ := Aside0.mk (Kd.R_drew HO_4.out)
              have n1_ := Aside0.mk (blk_drew BK171.out)
              have n2_ := Aside0.mk (blk_drew BK178.out)
              have n3_ := Aside0.mk (below_drew1 HB.out)
              clear HO_4
              clear BK171
              clear BK178
              clear HB
              have HO_4 := n0_
              have BK171 := n1_
              have BK178 := n2_
              have HB := n3_
              clear n0_ n1_ n2_ n3_
              have p179 : 0 ≤ (x6_1 : Int) := of_decide_eq_true (by first | (with_reducible assumption) | assumption)
              have q179 : x6_1 < (t173.length : Int) := of_decide_eq_true (by first | (with_reducible assumption) | assumption)
              obtain ⟨ad179, e179, hx179_0, hx179_1, hx179_2⟩ := at_T24 (Kd.R_reads' HO_4.out).2.2 x6_1 p179 q179
              cases e179
              replace p179 := eq_true p179
              replace q179 := eq_true q179
              refine start_ (n := 12) (S := fun w' => w'.cell? ⟨gb178, 0, none⟩ = some (.int .i64 (l0.length : Int)) ∧ w'.cell? ⟨gb178, 1, none⟩ = some (.int .i64 (wrap64 ((l0.length : Int) - (t173.length : Int)))) ∧ w'.cell? ⟨gb178, 2, none⟩ = some (.int .i64 x179002_1) ∧ w'.cell? ⟨gb178, 3, none⟩ = some (.int .i64 x179003_1) ∧ w'.cell? ⟨gb178, 4, none⟩ = some (.string x179004_1) ∧ w'.cell? ⟨gb178, 5, none⟩ = some (.int .i64 x179005_1) ∧ w'.cell? ⟨gb178, 6, none⟩ = some (.int .i64 x179006_1) ∧ w'.cell? ⟨gb178, 7, none⟩ = some (.string x179007_1) ∧ w'.cell? (ad179.add ((x6_1).toNat * 3)) = some (.int .i64 ((rd_T24 t173 x6_1).f0)) ∧ w'.cell? ⟨(ad179.add ((x6_1).toNat * 3)).block, (ad179.add ((x6_1).toNat * 3)).off + 1, none⟩ = some (.int .i64 ((rd_T24 t173 x6_1).f1)) ∧ w'.cell? ⟨(ad179.add ((x6_1).toNat * 3)).block, (ad179.add ((x6_1).toNat * 3)).off + 2, none⟩ = some (.string ((rd_T24 t173 x6_1).f2))) (ds := []) #[false, false, false, false, false, false, false, false, false, false, false, false] (by kernel_rfl) rfl rfl ⟨(blk_cell BK178.out 0).trans rfl, (blk_cell BK178.out 1).trans rfl, (blk_cell BK178.out 2).trans rfl, (blk_cell BK178.out 3).trans rfl, (blk_cell BK178.out 4).trans rfl, (blk_cell BK178.out 5).trans rfl, (blk_cell BK178.out 6).trans rfl, (blk_cell BK178.out 7).trans rfl, hx179_0, hx179_1, hx179_2⟩ (fun hHeld => ?_); refine with_tabW ref11_Zone.tab6 ref11_Zone.bits6 (fun HT_ HW_ => ?_)
              generalize wr.drew = w15 at HO_4 BK171 BK178 HB hx179_0 hx179_1 hx179_2 hHeld ⊢
              refine pure_ (i := 0) (N := some 26) (v := ?_) (a' := ?_) #[true, false, false, false, false, false, false, false, false, false, false, false] rfl rfl (any_of HT_.out (by kernel_rfl)) (fun _ _ _ h => h) (Or.inl ⟨by rfl, ?_⟩) ?_ ?_
              rotate_left
              · intro w'
                go_simp
                with_reducible rfl
              rotate_left
              · simp only [Act.put, List.setIfInBounds_toArray, List.set_cons_zero, List.set_cons_succ, i64_w, i32_w]
                rfl
              refine pure_ (i := 1) (N := some 27) (v := ?_) (a' := ?_) #[true, true, false, false, false, false, false, false, false, false, false, false] rfl rfl (any_of HT_.out (by kernel_rfl)) (fun _ _ _ h => h) (Or.inl ⟨by rfl, ?_⟩) ?_ ?_
              rotate_left
              · intro w'
                go_simp
                with_reducible rfl
              rotate_left
              · simp only [Act.put, List.setIfInBounds_toArray, List.set_cons_zero, List.set_cons_succ, i64_w, i32_w]
                rfl
              refine pure_ (i := 2) (N := some 28) (v := ?_) (a' := ?_) #[true, true, true, false, false, false, false, false, false, false, false, false] rfl rfl (any_of HT_.out (by kernel_rfl)) (fun _ _ _ h => h) (Or.inl ⟨by rfl, ?_⟩) ?_ ?_
              rotate_left
              · intro w'
                go_simp
                with_reducible rfl
              rotate_left
              · simp only [Act.put, List.setIfInBounds_toArray, List.set_cons_zero, List.set_cons_succ, i64_w, i32_w]
                rfl
              refine pure_ (i := 3) (N := some 29) (v := ?_) (a' := ?_) #[true, true, true, true, false, false, false, false, false, false, false, false] rfl rfl (any_of HT_.out (by kernel_rfl)) (fun _ _ _ h => h) (Or.inl ⟨by rfl, ?_⟩) ?_ ?_
              rotate_left
              · intro w'
                go_simp
                with_reducible rfl
              rotate_left
              · simp only [Act.put, List.setIfInBounds_toArray, List.set_cons_zero, List.set_cons_succ, i64_w, i32_w]
                rfl
              refine pure_ (i := 4) (N := some 30) (v := ?_) (a' := ?_) #[true, true, true, true, true, false, false, false, false, false, false, false] rfl rfl (any_of HT_.out (by kernel_rfl)) (fun _ _ _ h => h) (Or.inl ⟨by rfl, ?_⟩) ?_ ?_
              rotate_left
              · intro w'
                go_simp
                with_reducible rfl
              rotate_left
              · simp only [Act.put, List.setIfInBounds_toArray, List.set_cons_zero, List.set_cons_succ, i64_w, i32_w]
                rfl
              refine pure_ (i := 5) (N := some 31) (v := ?_) (a' := ?_) #[true, true, true, true, true, true, false, false, false, false, false, false] rfl rfl (any_of HT_.out (by kernel_rfl)) (fun _ _ _ h => h) (Or.inl ⟨by rfl, ?_⟩) ?_ ?_
              rotate_left
              · intro w'
                go_simp
                with_reducible rfl
              rotate_left
              · simp only [Act.put, List.setIfInBounds_toArray, List.set_cons_zero, List.set_cons_succ, i64_w, i32_w]
                rfl
              refine pure_ (i := 7) (N := some 33) (v := ?_) (a' := ?_) #[true, true, true, true, true, true, false, true, false, false, false, false] rfl rfl (any_of HT_.out (by kernel_rfl)) (fun _ _ _ h => h) (Or.inl ⟨by rfl, ?_⟩) ?_ ?_
              rotate_left
              · intro w'
                go_simp
                with_reducible rfl
              rotate_left
              · simp only [Act.put, List.setIfInBounds_toArray, List.set_cons_zero, List.set_cons_succ, i64_w, i32_w]
                rfl
              refine take_ (i := 6) (N := some 32) (v := ?_) (a' := ?_) #[true, true, true, true, true, true, true, true, false, false, false, false] rfl rfl (take_ofW HT_.out HW_.out (by kernel_rfl)) (fun _ _ _ h => h) (Or.inl ⟨by rfl, ?_⟩) hHeld ?_ ?_
              rotate_left
              · rintro w' ⟨s0, s1, s2, s3, s4, s5, s6, s7, s8, s9, s10⟩
                go_simp
                with_reducible rfl
              rotate_left
              · simp only [Act.put, List.setIfInBounds_toArray, List.set_cons_zero, List.set_cons_succ, i64_w, i32_w]
                rfl
              refine take_ (i := 8) (N := some 34) (v := ?_) (a' := ?_) #[true, true, true, true, true, true, true, true, true, false, false, false] rfl rfl (take_ofW HT_.out HW_.out (by kernel_rfl)) (fun _ _ _ h => h) (Or.inl ⟨by rfl, ?_⟩) hHeld ?_ ?_
              rotate_left
              · rintro w' ⟨s0, s1, s2, s3, s4, s5, s6, s7, s8, s9, s10⟩
                go_simp
                with_reducible rfl
              rotate_left
              · simp only [Act.put, List.setIfInBounds_toArray, List.set_cons_zero, List.set_cons_succ, i64_w, i32_w]
                rfl
              refine one_ (i := 9) (N := some 35) #[true, true, true, true, true, true, true, true, true, true, false, false] rfl rfl (one_of HT_.out (by kernel_rfl)) (by decide) (fun K hK => ?_)
              refine goes_ Try.func18 (by kernel_rfl) rfl #[.agg #[.int .i64 ((rd_T24 t173 x6_1).f0), .int .i64 ((rd_T24 t173 x6_1).f1), .string ((rd_T24 t173 x6_1).f2)], .agg #[.int .i64 x179002_1, .int .i64 x179003_1, .string x179004_1]] (by rfl) rfl rfl (by (try simp only [List.map_toArray, List.map_cons, List.map_nil]); first | done | rfl | (simp only [List.length_drop, List.length_take]; rfl)) ?_
              with_reducible refine (ref05_Compare.calls k1 ((rd_T24 t173 x6_1).f0) ((rd_T24 t173 x6_1).f1) ((rd_T24 t173 x6_1).f2) x179002_1 x179003_1 x179004_1 t180 _ A14.out).mono ?_
              rintro e w16 ⟨rfl, hb⟩
              have HS8_ := (hb.cell (World.block_lt_of_cell? _ _ (hHeld.2.2.2.2.2.2.2.2.1))).trans (hHeld.2.2.2.2.2.2.2.2.1)
              have HS9_ := (hb.cell (World.block_lt_of_cell? _ _ (hHeld.2.2.2.2.2.2.2.2.2.1))).trans (hHeld.2.2.2.2.2.2.2.2.2.1)
              have HS10_ := (hb.cell (World.block_lt_of_cell? _ _ (hHeld.2.2.2.2.2.2.2.2.2.2))).trans (hHeld.2.2.2.2.2.2.2.2.2.2)
              refine ⟨_, rfl, ?_⟩
              have n0_ := Aside0.mk (Kd.R_below (by (with_reducible repeat (first | apply Kd.R_alloc | apply Kd.R_drewN | apply Kd.R_drew)); exact HO_4.out) hb)
              have n1_ := Aside0.mk (blk_below (g := gb171) (o := .cells #[.int .i64 0, .int .i64 0, .int .i64 0, .int .i64 0, .string (⟨#[]⟩ : ByteArray), .int .i64 0, .int .i64 0, .string (⟨#[]⟩ : ByteArray)] 30 (0, 0)) (by (with_reducible repeat (first | refine blk_drewN ?_ _ | refine blk_drew ?_ | refine blk_alloc ?_ _)); exact BK171.out) hb)
              have n2_ := Aside0.mk (blk_below (g := gb178) (o := .cells #[.int .i64 (l0.length : Int), .int .i64 (wrap64 ((l0.length : Int) - (t173.length : Int))), .int .i64 x179002_1, .int .i64 x179003_1, .string x179004_1, .int .i64 x179005_1, .int .i64 x179006_1, .string x179007_1] 30 (0, 0)) (by (with_reducible repeat (first | refine blk_drewN ?_ _ | refine blk_drew ?_ | refine blk_alloc ?_ _)); exact BK178.out) hb)
              have n3_ := Aside0.mk (below_step (by repeat (first | (with_reducible first | exact HB.out | apply below_alloc | apply pw_below_drewN | apply below_drew1 | refine below_set ?_ GE171.out | refine below_set ?_ GE178.out) | exact HB.out)) hb)
              clear HO_4
              clear BK171
              clear BK178
              clear HB
              have HO_4 := n0_
              have BK171 := n1_
              have BK178 := n2_
              have HB := n3_
              clear n0_ n1_ n2_ n3_
              (try clear hb)
              (try clear hb2)
              (try clear hk)
              (try clear hi)
              refine hK.out _ _ ⟨(blk_cell BK178.out 0).trans rfl, (blk_cell BK178.out 1).trans rfl, (blk_cell BK178.out 2).trans rfl, (blk_cell BK178.out 3).trans rfl, (blk_cell BK178.out 4).trans rfl, (blk_cell BK178.out 5).trans rfl, (blk_cell BK178.out 6).trans rfl, (blk_cell BK178.out 7).trans rfl, HS8_, HS9_, HS10_⟩ (fun hHeld => ?_)
              clear hK K
              refine norm_ (a' := ?_) ?_ ?_
              rotate_left
              · show Act.put _ (some 35) _ = _
                simp only [Act.put, List.setIfInBounds_toArray, List.set_cons_zero, List.set_cons_succ, i64_w, i32_w]
                rfl
              refine pure_ (i := 10) (N := some 36) (v := ?_) (a' := ?_) #[true, true, true, true, true, true, true, true, true, true, true, false] rfl rfl (any_of HT_.out (by kernel_rfl)) (fun _ _ _ h => h) (Or.inl ⟨by rfl, ?_⟩) ?_ ?_
              rotate_left
              · intro w'
                go_simp
                with_reducible rfl
              rotate_left
              · simp only [Act.put, List.setIfInBounds_toArray, List.set_cons_zero, List.set_cons_succ, i64_w, i32_w]
                rfl
              refine pure_ (i := 11) (N := some 37) (v := ?_) (a' := ?_) #[true, true, true, true, true, true, true, true, true, true, true, true] rfl rfl (any_of HT_.out (by kernel_rfl)) (fun _ _ _ h => h) (Or.inl ⟨by rfl, ?_⟩) ?_ ?_
              rotate_left
              · intro w'
                go_simp
                with_reducible rfl
              rotate_left
              · simp only [Act.put, List.setIfInBounds_toArray, List.set_cons_zero, List.set_cons_succ, i64_w, i32_w]
                rfl
              refine done_ (done_of HT_.out (by kernel_rfl)) ?_
              try go_wp2
              go_meet
              case rel => exact ⟨_, (decide (t180 < 0)), (by first | rfl | (simp; done) | (simp [*]; done)), H', ⟨by have := HK1.out; first | omega | exact Nat.le_refl _⟩, ⟨by (with_reducible repeat (first | apply Kd.R_alloc | apply Kd.R_drewN | apply Kd.R_drew)); exact HO_4.out⟩, ⟨by (with_reducible repeat (first | refine blk_drewN ?_ _ | refine blk_drew ?_ | refine blk_alloc ?_ _)); exact BK171.out⟩, ⟨by (with_reducible repeat (first | refine blk_drewN ?_ _ | refine blk_drew ?_ | refine blk_alloc ?_ _)); exact BK178.out⟩, ⟨by repeat (first | (with_reducible first | exact HB.out | apply below_alloc | apply pw_below_drewN | apply below_drew1 | refine below_set ?_ GE171.out | refine below_set ?_ GE178.out) | exact HB.out)⟩⟩
            · rw [if_neg c13] at H
              exact absurd H (by simp)
        case rest =>
          clear HC10
          try clear c1
          try clear p1
          try clear q1
          try clear hx1
          try clear p2
          try clear p6
          try clear c7
          try clear c9
          try clear c9b0
          try clear c10
          try clear c11
          try clear c11b0
          try clear c11b1
          try clear c13
          try clear c13b0
          try clear hcz8_0
          try clear hcz8_1
          try clear hcz8_2
          try clear hcz8_3
          try clear hcz8_4
          try clear hcz8_5
          try clear hcz8_6
          try clear hcz8_7
          try clear hfz8_0
          try clear hfz8_1
          try clear hfz8_2
          try clear hfz8_3
          try clear hfz8_4
          try clear hfz8_5
          try clear hfz8_6
          try clear hfz8_7
          try clear hx179_0
          try clear hx179_1
          try clear hx179_2
          try clear p179
          try clear p2
          try clear p6
          try clear q179
          obtain ⟨kq, x37_9, rfl, HA, HJ9, HO_4, BK171, BK178, HB⟩ := hcut
          cases kq with
          | zero => exact absurd HA.out (by simp [ref11_Zone.j1])
          | succ kj9 =>
            have H := HA.out
            clear HA
            simp only [ref11_Zone.j1] at H
            by_cases c17 : x37_9 = true
            · subst c17
              have H1 : (if 0 ≤ x6_1 then (if x6_1 < (t173.length : Int) then (if x6_1 = 0 then (ref11_Zone.l0 kj9 t173 (wrap64 (x6_1 + 1)) (l0.length : Int) (wrap64 ((l0.length : Int) - (t173.length : Int))) ((rd_T24 t173 x6_1).f0) ((rd_T24 t173 x6_1).f1) ((rd_T24 t173 x6_1).f2) ((rd_T24 t173 x6_1).f0) ((rd_T24 t173 x6_1).f1) ((rd_T24 t173 x6_1).f2)) else ((ref05_Compare.f kj9 ((rd_T24 t173 x6_1).f0) ((rd_T24 t173 x6_1).f1) ((rd_T24 t173 x6_1).f2) x179005_1 x179006_1 x179007_1).bind fun t184 => (if t184 > 0 then (ref11_Zone.l0 kj9 t173 (wrap64 (x6_1 + 1)) (l0.length : Int) (wrap64 ((l0.length : Int) - (t173.length : Int))) ((rd_T24 t173 x6_1).f0) ((rd_T24 t173 x6_1).f1) ((rd_T24 t173 x6_1).f2) ((rd_T24 t173 x6_1).f0) ((rd_T24 t173 x6_1).f1) ((rd_T24 t173 x6_1).f2)) else (ref11_Zone.l0 kj9 t173 (wrap64 (x6_1 + 1)) (l0.length : Int) (wrap64 ((l0.length : Int) - (t173.length : Int))) ((rd_T24 t173 x6_1).f0) ((rd_T24 t173 x6_1).f1) ((rd_T24 t173 x6_1).f2) x179005_1 x179006_1 x179007_1)))) else (none)) else (none)) = some (r1, r2, r3, r4, r5, r6, r7, r8) := by rw [if_pos rfl] at H; exact H
              clear H
              have H := H1
              clear H1
              by_cases c18 : 0 ≤ x6_1
              · rw [if_pos c18] at H
                have c18b0 : decide (0 ≤ x6_1) = true := decide_eq_true c18
                clear c18
                by_cases c19 : x6_1 < (t173.length : Int)
                · rw [if_pos c19] at H
                  have c19b0 : decide (x6_1 < (t173.length : Int)) = true := decide_eq_true c19
                  clear c19
                  by_cases c20 : x6_1 = 0
                  · rw [if_pos c20] at H
                    have c20b0 : (x6_1 == 0) = true := beq_iff_eq.mpr c20
                    have c20b1 : (x6_1 != 0) = false := bne_eq_false_iff_eq.mpr c20
                    clear c20
                    have H' := Aside0.mk H
                    clear H
                    have p181 : 0 ≤ (x6_1 : Int) := of_decide_eq_true (by first | (with_reducible assumption) | assumption)
                    have q181 : x6_1 < (t173.length : Int) := of_decide_eq_true (by first | (with_reducible assumption) | assumption)
                    obtain ⟨ad181, e181, hx181_0, hx181_1, hx181_2⟩ := at_T24 (Kd.R_reads' HO_4.out).2.2 x6_1 p181 q181
                    cases e181
                    replace p181 := eq_true p181
                    replace q181 := eq_true q181
                    have hnb21 := NB178_171.out
                    have hnc21 := NB171_178.out
                    have hcz22_0 : wc.cell? ⟨gb178, 0, none⟩ = some (.int .i64 (l0.length : Int)) := (blk_cell BK178.out 0).trans rfl
                    have hcz22_1 : wc.cell? ⟨gb178, 1, none⟩ = some (.int .i64 (wrap64 ((l0.length : Int) - (t173.length : Int)))) := (blk_cell BK178.out 1).trans rfl
                    have hcz22_2 : wc.cell? ⟨gb178, 2, none⟩ = some (.int .i64 x179002_1) := (blk_cell BK178.out 2).trans rfl
                    have hcz22_3 : wc.cell? ⟨gb178, 3, none⟩ = some (.int .i64 x179003_1) := (blk_cell BK178.out 3).trans rfl
                    have hcz22_4 : wc.cell? ⟨gb178, 4, none⟩ = some (.string x179004_1) := (blk_cell BK178.out 4).trans rfl
                    have hcz22_5 : wc.cell? ⟨gb178, 5, none⟩ = some (.int .i64 x179005_1) := (blk_cell BK178.out 5).trans rfl
                    have hcz22_6 : wc.cell? ⟨gb178, 6, none⟩ = some (.int .i64 x179006_1) := (blk_cell BK178.out 6).trans rfl
                    have hcz22_7 : wc.cell? ⟨gb178, 7, none⟩ = some (.string x179007_1) := (blk_cell BK178.out 7).trans rfl
                    have hfz22_0 := blk_frozen BK178.out 0
                    have hfz22_1 := blk_frozen BK178.out 1
                    have hfz22_2 := blk_frozen BK178.out 2
                    have hfz22_3 := blk_frozen BK178.out 3
                    have hfz22_4 := blk_frozen BK178.out 4
                    have hfz22_5 := blk_frozen BK178.out 5
                    have hfz22_6 := blk_frozen BK178.out 6
                    have hfz22_7 := blk_frozen BK178.out 7
                    try go_wp2
                    have n0_ : Aside0 (Kd.R k24 24 (((wc.setCell ⟨gb178, 2, none⟩ (.int .i64 ((rd_T24 t173 x6_1).f0))).setCell ⟨gb178, 3, none⟩ (.int .i64 ((rd_T24 t173 x6_1).f1))).setCell ⟨gb178, 4, none⟩ (.string ((rd_T24 t173 x6_1).f2))) w.heap.size (fun _ => True) (.slice (some ad181) t173.length co5) t173) := ⟨by (with_reducible repeat (first | apply Kd.R_alloc | apply Kd.R_drewN | apply Kd.R_drew)); exact Kd.R_mono (Kd.R_far (p := ⟨gb178, 4, none⟩) (Kd.R_far (p := ⟨gb178, 3, none⟩) (Kd.R_far (p := ⟨gb178, 2, none⟩) (Kd.R_types HO_4.out BK178.out (by decide)) (fun _ hk => hk.2) (.int .i64 ((rd_T24 t173 x6_1).f0))) (fun _ hk => hk.2) (.int .i64 ((rd_T24 t173 x6_1).f1))) (fun _ hk => hk.2) (.string ((rd_T24 t173 x6_1).f2))) (fun _ hk => trivial)⟩
                    have n1_ : Aside0 ((((wc.setCell ⟨gb178, 2, none⟩ (.int .i64 ((rd_T24 t173 x6_1).f0))).setCell ⟨gb178, 3, none⟩ (.int .i64 ((rd_T24 t173 x6_1).f1))).setCell ⟨gb178, 4, none⟩ (.string ((rd_T24 t173 x6_1).f2))).heap[gb171]? = some (.cells #[.int .i64 0, .int .i64 0, .int .i64 0, .int .i64 0, .string (⟨#[]⟩ : ByteArray), .int .i64 0, .int .i64 0, .string (⟨#[]⟩ : ByteArray)] 30 (0, 0))) := ⟨by (with_reducible repeat (first | refine blk_drewN ?_ _ | refine blk_drew ?_ | refine blk_alloc ?_ _)); refine blk_far ?_ NB171_178.out _; (with_reducible repeat (first | refine blk_drewN ?_ _ | refine blk_drew ?_ | refine blk_alloc ?_ _)); refine blk_far ?_ NB171_178.out _; (with_reducible repeat (first | refine blk_drewN ?_ _ | refine blk_drew ?_ | refine blk_alloc ?_ _)); refine blk_far ?_ NB171_178.out _; (with_reducible repeat (first | refine blk_drewN ?_ _ | refine blk_drew ?_ | refine blk_alloc ?_ _)); exact BK171.out⟩
                    have n2_ : Aside0 ((((wc.setCell ⟨gb178, 2, none⟩ (.int .i64 ((rd_T24 t173 x6_1).f0))).setCell ⟨gb178, 3, none⟩ (.int .i64 ((rd_T24 t173 x6_1).f1))).setCell ⟨gb178, 4, none⟩ (.string ((rd_T24 t173 x6_1).f2))).heap[gb178]? = some (.cells #[.int .i64 (l0.length : Int), .int .i64 (wrap64 ((l0.length : Int) - (t173.length : Int))), .int .i64 ((rd_T24 t173 x6_1).f0), .int .i64 ((rd_T24 t173 x6_1).f1), .string ((rd_T24 t173 x6_1).f2), .int .i64 x179005_1, .int .i64 x179006_1, .string x179007_1] 30 (0, 0))) := ⟨by (with_reducible repeat (first | refine blk_drewN ?_ _ | refine blk_drew ?_ | refine blk_alloc ?_ _)); refine blk_put (cs := #[.int .i64 (l0.length : Int), .int .i64 (wrap64 ((l0.length : Int) - (t173.length : Int))), .int .i64 ((rd_T24 t173 x6_1).f0), .int .i64 ((rd_T24 t173 x6_1).f1), .string x179004_1, .int .i64 x179005_1, .int .i64 x179006_1, .string x179007_1]) ?_ 4 _ rfl; (with_reducible repeat (first | refine blk_drewN ?_ _ | refine blk_drew ?_ | refine blk_alloc ?_ _)); refine blk_put (cs := #[.int .i64 (l0.length : Int), .int .i64 (wrap64 ((l0.length : Int) - (t173.length : Int))), .int .i64 ((rd_T24 t173 x6_1).f0), .int .i64 x179003_1, .string x179004_1, .int .i64 x179005_1, .int .i64 x179006_1, .string x179007_1]) ?_ 3 _ rfl; (with_reducible repeat (first | refine blk_drewN ?_ _ | refine blk_drew ?_ | refine blk_alloc ?_ _)); refine blk_put (cs := #[.int .i64 (l0.length : Int), .int .i64 (wrap64 ((l0.length : Int) - (t173.length : Int))), .int .i64 x179002_1, .int .i64 x179003_1, .string x179004_1, .int .i64 x179005_1, .int .i64 x179006_1, .string x179007_1]) ?_ 2 _ rfl; (with_reducible repeat (first | refine blk_drewN ?_ _ | refine blk_drew ?_ | refine blk_alloc ?_ _)); exact BK178.out⟩
                    have n3_ : Aside0 (Below w.heap.size w (((wc.setCell ⟨gb178, 2, none⟩ (.int .i64 ((rd_T24 t173 x6_1).f0))).setCell ⟨gb178, 3, none⟩ (.int .i64 ((rd_T24 t173 x6_1).f1))).setCell ⟨gb178, 4, none⟩ (.string ((rd_T24 t173 x6_1).f2)))) := ⟨by repeat (first | (with_reducible first | exact HB.out | apply below_alloc | apply pw_below_drewN | apply below_drew1 | refine below_set ?_ GE171.out | refine below_set ?_ GE178.out) | exact HB.out)⟩
                    (try clear HO_4)
                    (try clear BK171)
                    (try clear BK178)
                    (try clear HB)
                    generalize (((wc.setCell ⟨gb178, 2, none⟩ (.int .i64 ((rd_T24 t173 x6_1).f0))).setCell ⟨gb178, 3, none⟩ (.int .i64 ((rd_T24 t173 x6_1).f1))).setCell ⟨gb178, 4, none⟩ (.string ((rd_T24 t173 x6_1).f2))) = w23 at n0_ n1_ n2_ n3_ ⊢
                    have HO_4 := n0_
                    have BK171 := n1_
                    have BK178 := n2_
                    have HB := n3_
                    clear n0_ n1_ n2_ n3_
                    have n0_ := Aside0.mk (Kd.R_drew HO_4.out)
                    have n1_ := Aside0.mk (blk_drew BK171.out)
                    have n2_ := Aside0.mk (blk_drew BK178.out)
                    have n3_ := Aside0.mk (below_drew1 HB.out)
                    clear HO_4
                    clear BK171
                    clear BK178
                    clear HB
                    have HO_4 := n0_
                    have BK171 := n1_
                    have BK178 := n2_
                    have HB := n3_
                    clear n0_ n1_ n2_ n3_
                    refine start_ (n := 12) (S := fun w' => True) (ds := []) #[false, false, false, false, false, false, false, false, false, false, false, false] (by kernel_rfl) rfl rfl trivial (fun hHeld => ?_); refine with_tabW ref11_Zone.tab8 ref11_Zone.bits8 (fun HT_ HW_ => ?_)
                    generalize w23.drew = w24 at HO_4 BK171 BK178 HB hHeld ⊢
                    refine pure_ (i := 0) (N := some 43) (v := ?_) (a' := ?_) #[true, false, false, false, false, false, false, false, false, false, false, false] rfl rfl (any_of HT_.out (by kernel_rfl)) (fun _ _ _ h => h) (Or.inl ⟨by rfl, ?_⟩) ?_ ?_
                    rotate_left
                    · intro w'
                      go_simp
                      with_reducible rfl
                    rotate_left
                    · simp only [Act.put, List.setIfInBounds_toArray, List.set_cons_zero, List.set_cons_succ, i64_w, i32_w]
                      rfl
                    refine pure_ (i := 1) (N := some 44) (v := ?_) (a' := ?_) #[true, true, false, false, false, false, false, false, false, false, false, false] rfl rfl (any_of HT_.out (by kernel_rfl)) (fun _ _ _ h => h) (Or.inl ⟨by rfl, ?_⟩) ?_ ?_
                    rotate_left
                    · intro w'
                      go_simp
                      with_reducible rfl
                    rotate_left
                    · simp only [Act.put, List.setIfInBounds_toArray, List.set_cons_zero, List.set_cons_succ, i64_w, i32_w]
                      rfl
                    refine pure_ (i := 2) (N := some 45) (v := ?_) (a' := ?_) #[true, true, true, false, false, false, false, false, false, false, false, false] rfl rfl (any_of HT_.out (by kernel_rfl)) (fun _ _ _ h => h) (Or.inl ⟨by rfl, ?_⟩) ?_ ?_
                    rotate_left
                    · intro w'
                      go_simp
                      with_reducible rfl
                    rotate_left
                    · simp only [Act.put, List.setIfInBounds_toArray, List.set_cons_zero, List.set_cons_succ, i64_w, i32_w]
                      rfl
                    refine pure_ (i := 3) (N := some 46) (v := undef) (a' := ?_) #[true, true, true, true, false, false, false, false, false, false, false, false] rfl rfl (any_of HT_.out (by kernel_rfl)) (fun _ _ _ h => h) (Or.inr ⟨by rfl, rfl⟩) ?_ ?_
                    rotate_left
                    · simp only [Act.put, List.setIfInBounds_toArray, List.set_cons_zero, List.set_cons_succ, i64_w, i32_w]
                      rfl
                    refine pure_ (i := 4) (N := some 47) (v := undef) (a' := ?_) #[true, true, true, true, true, false, false, false, false, false, false, false] rfl rfl (any_of HT_.out (by kernel_rfl)) (fun _ _ _ h => h) (Or.inr ⟨by rfl, rfl⟩) ?_ ?_
                    rotate_left
                    · simp only [Act.put, List.setIfInBounds_toArray, List.set_cons_zero, List.set_cons_succ, i64_w, i32_w]
                      rfl
                    refine pure_ (i := 5) (N := some 48) (v := undef) (a' := ?_) #[true, true, true, true, true, true, false, false, false, false, false, false] rfl rfl (any_of HT_.out (by kernel_rfl)) (fun _ _ _ h => h) (Or.inr ⟨by rfl, rfl⟩) ?_ ?_
                    rotate_left
                    · simp only [Act.put, List.setIfInBounds_toArray, List.set_cons_zero, List.set_cons_succ, i64_w, i32_w]
                      rfl
                    refine pure_ (i := 6) (N := some 49) (v := undef) (a' := ?_) #[true, true, true, true, true, true, true, false, false, false, false, false] rfl rfl (any_of HT_.out (by kernel_rfl)) (fun _ _ _ h => h) (Or.inr ⟨by rfl, rfl⟩) ?_ ?_
                    rotate_left
                    · simp only [Act.put, List.setIfInBounds_toArray, List.set_cons_zero, List.set_cons_succ, i64_w, i32_w]
                      rfl
                    refine pure_ (i := 7) (N := some 50) (v := undef) (a' := ?_) #[true, true, true, true, true, true, true, true, false, false, false, false] rfl rfl (any_of HT_.out (by kernel_rfl)) (fun _ _ _ h => h) (Or.inr ⟨by rfl, rfl⟩) ?_ ?_
                    rotate_left
                    · simp only [Act.put, List.setIfInBounds_toArray, List.set_cons_zero, List.set_cons_succ, i64_w, i32_w]
                      rfl
                    refine pure_ (i := 8) (N := some 51) (v := undef) (a' := ?_) #[true, true, true, true, true, true, true, true, true, false, false, false] rfl rfl (any_of HT_.out (by kernel_rfl)) (fun _ _ _ h => h) (Or.inr ⟨by rfl, rfl⟩) ?_ ?_
                    rotate_left
                    · simp only [Act.put, List.setIfInBounds_toArray, List.set_cons_zero, List.set_cons_succ, i64_w, i32_w]
                      rfl
                    refine pure_ (i := 9) (N := some 52) (v := undef) (a' := ?_) #[true, true, true, true, true, true, true, true, true, true, false, false] rfl rfl (any_of HT_.out (by kernel_rfl)) (fun _ _ _ h => h) (Or.inr ⟨by rfl, rfl⟩) ?_ ?_
                    rotate_left
                    · simp only [Act.put, List.setIfInBounds_toArray, List.set_cons_zero, List.set_cons_succ, i64_w, i32_w]
                      rfl
                    refine pure_ (i := 10) (N := some 53) (v := undef) (a' := ?_) #[true, true, true, true, true, true, true, true, true, true, true, false] rfl rfl (any_of HT_.out (by kernel_rfl)) (fun _ _ _ h => h) (Or.inr ⟨by rfl, rfl⟩) ?_ ?_
                    rotate_left
                    · simp only [Act.put, List.setIfInBounds_toArray, List.set_cons_zero, List.set_cons_succ, i64_w, i32_w]
                      rfl
                    refine pure_ (i := 11) (N := some 54) (v := ?_) (a' := ?_) #[true, true, true, true, true, true, true, true, true, true, true, true] rfl rfl (any_of HT_.out (by kernel_rfl)) (fun _ _ _ h => h) (Or.inl ⟨by rfl, ?_⟩) ?_ ?_
                    rotate_left
                    · intro w'
                      go_simp
                      with_reducible rfl
                    rotate_left
                    · simp only [Act.put, List.setIfInBounds_toArray, List.set_cons_zero, List.set_cons_succ, i64_w, i32_w]
                      rfl
                    refine done_ (done_of HT_.out (by kernel_rfl)) ?_
                    have p182 : 0 ≤ (x6_1 : Int) := of_decide_eq_true (by first | (with_reducible assumption) | assumption)
                    have q182 : x6_1 < (t173.length : Int) := of_decide_eq_true (by first | (with_reducible assumption) | assumption)
                    obtain ⟨ad182, e182, hx182_0, hx182_1, hx182_2⟩ := at_T24 (Kd.R_reads' HO_4.out).2.2 x6_1 p182 q182
                    obtain rfl : ad181 = ad182 := (by injection e182)
                    replace p182 := eq_true p182
                    replace q182 := eq_true q182
                    have hcz25_0 : w24.cell? ⟨gb178, 0, none⟩ = some (.int .i64 (l0.length : Int)) := (blk_cell BK178.out 0).trans rfl
                    have hcz25_1 : w24.cell? ⟨gb178, 1, none⟩ = some (.int .i64 (wrap64 ((l0.length : Int) - (t173.length : Int)))) := (blk_cell BK178.out 1).trans rfl
                    have hcz25_2 : w24.cell? ⟨gb178, 2, none⟩ = some (.int .i64 ((rd_T24 t173 x6_1).f0)) := (blk_cell BK178.out 2).trans rfl
                    have hcz25_3 : w24.cell? ⟨gb178, 3, none⟩ = some (.int .i64 ((rd_T24 t173 x6_1).f1)) := (blk_cell BK178.out 3).trans rfl
                    have hcz25_4 : w24.cell? ⟨gb178, 4, none⟩ = some (.string ((rd_T24 t173 x6_1).f2)) := (blk_cell BK178.out 4).trans rfl
                    have hcz25_5 : w24.cell? ⟨gb178, 5, none⟩ = some (.int .i64 x179005_1) := (blk_cell BK178.out 5).trans rfl
                    have hcz25_6 : w24.cell? ⟨gb178, 6, none⟩ = some (.int .i64 x179006_1) := (blk_cell BK178.out 6).trans rfl
                    have hcz25_7 : w24.cell? ⟨gb178, 7, none⟩ = some (.string x179007_1) := (blk_cell BK178.out 7).trans rfl
                    have hfz25_0 := blk_frozen BK178.out 0
                    have hfz25_1 := blk_frozen BK178.out 1
                    have hfz25_2 := blk_frozen BK178.out 2
                    have hfz25_3 := blk_frozen BK178.out 3
                    have hfz25_4 := blk_frozen BK178.out 4
                    have hfz25_5 := blk_frozen BK178.out 5
                    have hfz25_6 := blk_frozen BK178.out 6
                    have hfz25_7 := blk_frozen BK178.out 7
                    try go_wp2
                    go_roundg kj9
                    case measure => have := HK1.out; have := HJ9.out; omega
                    case rel => exact ⟨(wrap64 (x6_1 + 1)), ((rd_T24 t173 x6_1).f0), ((rd_T24 t173 x6_1).f1), ((rd_T24 t173 x6_1).f2), ((rd_T24 t173 x6_1).f0), ((rd_T24 t173 x6_1).f1), ((rd_T24 t173 x6_1).f2), (by first | rfl | (simp; done) | (simp [*]; done)), H', ⟨by have := HK1.out; have := HJ9.out; omega⟩, ⟨by (with_reducible repeat (first | apply Kd.R_alloc | apply Kd.R_drewN | apply Kd.R_drew)); exact Kd.R_mono (Kd.R_far (p := ⟨gb178, 7, none⟩) (Kd.R_far (p := ⟨gb178, 6, none⟩) (Kd.R_far (p := ⟨gb178, 5, none⟩) (Kd.R_types HO_4.out BK178.out (by decide)) (fun _ hk => hk.2) (.int .i64 ((rd_T24 t173 x6_1).f0))) (fun _ hk => hk.2) (.int .i64 ((rd_T24 t173 x6_1).f1))) (fun _ hk => hk.2) (.string ((rd_T24 t173 x6_1).f2))) (fun _ hk => trivial)⟩, ⟨by (with_reducible repeat (first | refine blk_drewN ?_ _ | refine blk_drew ?_ | refine blk_alloc ?_ _)); refine blk_far ?_ NB171_178.out _; (with_reducible repeat (first | refine blk_drewN ?_ _ | refine blk_drew ?_ | refine blk_alloc ?_ _)); refine blk_far ?_ NB171_178.out _; (with_reducible repeat (first | refine blk_drewN ?_ _ | refine blk_drew ?_ | refine blk_alloc ?_ _)); refine blk_far ?_ NB171_178.out _; (with_reducible repeat (first | refine blk_drewN ?_ _ | refine blk_drew ?_ | refine blk_alloc ?_ _)); exact BK171.out⟩, ⟨by (with_reducible repeat (first | refine blk_drewN ?_ _ | refine blk_drew ?_ | refine blk_alloc ?_ _)); refine blk_put (cs := #[.int .i64 (l0.length : Int), .int .i64 (wrap64 ((l0.length : Int) - (t173.length : Int))), .int .i64 ((rd_T24 t173 x6_1).f0), .int .i64 ((rd_T24 t173 x6_1).f1), .string ((rd_T24 t173 x6_1).f2), .int .i64 ((rd_T24 t173 x6_1).f0), .int .i64 ((rd_T24 t173 x6_1).f1), .string x179007_1]) ?_ 7 _ rfl; (with_reducible repeat (first | refine blk_drewN ?_ _ | refine blk_drew ?_ | refine blk_alloc ?_ _)); refine blk_put (cs := #[.int .i64 (l0.length : Int), .int .i64 (wrap64 ((l0.length : Int) - (t173.length : Int))), .int .i64 ((rd_T24 t173 x6_1).f0), .int .i64 ((rd_T24 t173 x6_1).f1), .string ((rd_T24 t173 x6_1).f2), .int .i64 ((rd_T24 t173 x6_1).f0), .int .i64 x179006_1, .string x179007_1]) ?_ 6 _ rfl; (with_reducible repeat (first | refine blk_drewN ?_ _ | refine blk_drew ?_ | refine blk_alloc ?_ _)); refine blk_put (cs := #[.int .i64 (l0.length : Int), .int .i64 (wrap64 ((l0.length : Int) - (t173.length : Int))), .int .i64 ((rd_T24 t173 x6_1).f0), .int .i64 ((rd_T24 t173 x6_1).f1), .string ((rd_T24 t173 x6_1).f2), .int .i64 x179005_1, .int .i64 x179006_1, .string x179007_1]) ?_ 5 _ rfl; (with_reducible repeat (first | refine blk_drewN ?_ _ | refine blk_drew ?_ | refine blk_alloc ?_ _)); exact BK178.out⟩, ⟨by repeat (first | (with_reducible first | exact HB.out | apply below_alloc | apply pw_below_drewN | apply below_drew1 | refine below_set ?_ GE171.out | refine below_set ?_ GE178.out) | exact HB.out)⟩⟩
                  · rw [if_neg c20] at H
                    have c20b0 : (x6_1 == 0) = false := beq_eq_false_iff_ne.mpr c20
                    have c20b1 : (x6_1 != 0) = true := bne_iff_ne.mpr c20
                    replace H := Option.bind_eq_some_iff.mp H
                    obtain ⟨t184, A260, H⟩ := H
                    replace H : (if t184 > 0 then (ref11_Zone.l0 kj9 t173 (wrap64 (x6_1 + 1)) (l0.length : Int) (wrap64 ((l0.length : Int) - (t173.length : Int))) ((rd_T24 t173 x6_1).f0) ((rd_T24 t173 x6_1).f1) ((rd_T24 t173 x6_1).f2) ((rd_T24 t173 x6_1).f0) ((rd_T24 t173 x6_1).f1) ((rd_T24 t173 x6_1).f2)) else (ref11_Zone.l0 kj9 t173 (wrap64 (x6_1 + 1)) (l0.length : Int) (wrap64 ((l0.length : Int) - (t173.length : Int))) ((rd_T24 t173 x6_1).f0) ((rd_T24 t173 x6_1).f1) ((rd_T24 t173 x6_1).f2) x179005_1 x179006_1 x179007_1)) = some (r1, r2, r3, r4, r5, r6, r7, r8) := H
                    have A26 := Aside0.mk A260
                    clear A260
                    by_cases c27 : t184 > 0
                    · rw [if_pos c27] at H
                      have c27b0 : decide (0 < t184) = true := decide_eq_true c27
                      clear c27
                      have H' := Aside0.mk H
                      clear H
                      have p181 : 0 ≤ (x6_1 : Int) := of_decide_eq_true (by first | (with_reducible assumption) | assumption)
                      have q181 : x6_1 < (t173.length : Int) := of_decide_eq_true (by first | (with_reducible assumption) | assumption)
                      obtain ⟨ad181, e181, hx181_0, hx181_1, hx181_2⟩ := at_T24 (Kd.R_reads' HO_4.out).2.2 x6_1 p181 q181
                      cases e181
                      replace p181 := eq_true p181
                      replace q181 := eq_true q181
                      have hnb28 := NB178_171.out
                      have hnc28 := NB171_178.out
                      have hcz29_0 : wc.cell? ⟨gb178, 0, none⟩ = some (.int .i64 (l0.length : Int)) := (blk_cell BK178.out 0).trans rfl
                      have hcz29_1 : wc.cell? ⟨gb178, 1, none⟩ = some (.int .i64 (wrap64 ((l0.length : Int) - (t173.length : Int)))) := (blk_cell BK178.out 1).trans rfl
                      have hcz29_2 : wc.cell? ⟨gb178, 2, none⟩ = some (.int .i64 x179002_1) := (blk_cell BK178.out 2).trans rfl
                      have hcz29_3 : wc.cell? ⟨gb178, 3, none⟩ = some (.int .i64 x179003_1) := (blk_cell BK178.out 3).trans rfl
                      have hcz29_4 : wc.cell? ⟨gb178, 4, none⟩ = some (.string x179004_1) := (blk_cell BK178.out 4).trans rfl
                      have hcz29_5 : wc.cell? ⟨gb178, 5, none⟩ = some (.int .i64 x179005_1) := (blk_cell BK178.out 5).trans rfl
                      have hcz29_6 : wc.cell? ⟨gb178, 6, none⟩ = some (.int .i64 x179006_1) := (blk_cell BK178.out 6).trans rfl
                      have hcz29_7 : wc.cell? ⟨gb178, 7, none⟩ = some (.string x179007_1) := (blk_cell BK178.out 7).trans rfl
                      have hfz29_0 := blk_frozen BK178.out 0
                      have hfz29_1 := blk_frozen BK178.out 1
                      have hfz29_2 := blk_frozen BK178.out 2
                      have hfz29_3 := blk_frozen BK178.out 3
                      have hfz29_4 := blk_frozen BK178.out 4
                      have hfz29_5 := blk_frozen BK178.out 5
                      have hfz29_6 := blk_frozen BK178.out 6
                      have hfz29_7 := blk_frozen BK178.out 7
                      try go_wp2
                      have n0_ : Aside0 (Kd.R k24 24 (((wc.setCell ⟨gb178, 2, none⟩ (.int .i64 ((rd_T24 t173 x6_1).f0))).setCell ⟨gb178, 3, none⟩ (.int .i64 ((rd_T24 t173 x6_1).f1))).setCell ⟨gb178, 4, none⟩ (.string ((rd_T24 t173 x6_1).f2))) w.heap.size (fun _ => True) (.slice (some ad181) t173.length co5) t173) := ⟨by (with_reducible repeat (first | apply Kd.R_alloc | apply Kd.R_drewN | apply Kd.R_drew)); exact Kd.R_mono (Kd.R_far (p := ⟨gb178, 4, none⟩) (Kd.R_far (p := ⟨gb178, 3, none⟩) (Kd.R_far (p := ⟨gb178, 2, none⟩) (Kd.R_types HO_4.out BK178.out (by decide)) (fun _ hk => hk.2) (.int .i64 ((rd_T24 t173 x6_1).f0))) (fun _ hk => hk.2) (.int .i64 ((rd_T24 t173 x6_1).f1))) (fun _ hk => hk.2) (.string ((rd_T24 t173 x6_1).f2))) (fun _ hk => trivial)⟩
                      have n1_ : Aside0 ((((wc.setCell ⟨gb178, 2, none⟩ (.int .i64 ((rd_T24 t173 x6_1).f0))).setCell ⟨gb178, 3, none⟩ (.int .i64 ((rd_T24 t173 x6_1).f1))).setCell ⟨gb178, 4, none⟩ (.string ((rd_T24 t173 x6_1).f2))).heap[gb171]? = some (.cells #[.int .i64 0, .int .i64 0, .int .i64 0, .int .i64 0, .string (⟨#[]⟩ : ByteArray), .int .i64 0, .int .i64 0, .string (⟨#[]⟩ : ByteArray)] 30 (0, 0))) := ⟨by (with_reducible repeat (first | refine blk_drewN ?_ _ | refine blk_drew ?_ | refine blk_alloc ?_ _)); refine blk_far ?_ NB171_178.out _; (with_reducible repeat (first | refine blk_drewN ?_ _ | refine blk_drew ?_ | refine blk_alloc ?_ _)); refine blk_far ?_ NB171_178.out _; (with_reducible repeat (first | refine blk_drewN ?_ _ | refine blk_drew ?_ | refine blk_alloc ?_ _)); refine blk_far ?_ NB171_178.out _; (with_reducible repeat (first | refine blk_drewN ?_ _ | refine blk_drew ?_ | refine blk_alloc ?_ _)); exact BK171.out⟩
                      have n2_ : Aside0 ((((wc.setCell ⟨gb178, 2, none⟩ (.int .i64 ((rd_T24 t173 x6_1).f0))).setCell ⟨gb178, 3, none⟩ (.int .i64 ((rd_T24 t173 x6_1).f1))).setCell ⟨gb178, 4, none⟩ (.string ((rd_T24 t173 x6_1).f2))).heap[gb178]? = some (.cells #[.int .i64 (l0.length : Int), .int .i64 (wrap64 ((l0.length : Int) - (t173.length : Int))), .int .i64 ((rd_T24 t173 x6_1).f0), .int .i64 ((rd_T24 t173 x6_1).f1), .string ((rd_T24 t173 x6_1).f2), .int .i64 x179005_1, .int .i64 x179006_1, .string x179007_1] 30 (0, 0))) := ⟨by (with_reducible repeat (first | refine blk_drewN ?_ _ | refine blk_drew ?_ | refine blk_alloc ?_ _)); refine blk_put (cs := #[.int .i64 (l0.length : Int), .int .i64 (wrap64 ((l0.length : Int) - (t173.length : Int))), .int .i64 ((rd_T24 t173 x6_1).f0), .int .i64 ((rd_T24 t173 x6_1).f1), .string x179004_1, .int .i64 x179005_1, .int .i64 x179006_1, .string x179007_1]) ?_ 4 _ rfl; (with_reducible repeat (first | refine blk_drewN ?_ _ | refine blk_drew ?_ | refine blk_alloc ?_ _)); refine blk_put (cs := #[.int .i64 (l0.length : Int), .int .i64 (wrap64 ((l0.length : Int) - (t173.length : Int))), .int .i64 ((rd_T24 t173 x6_1).f0), .int .i64 x179003_1, .string x179004_1, .int .i64 x179005_1, .int .i64 x179006_1, .string x179007_1]) ?_ 3 _ rfl; (with_reducible repeat (first | refine blk_drewN ?_ _ | refine blk_drew ?_ | refine blk_alloc ?_ _)); refine blk_put (cs := #[.int .i64 (l0.length : Int), .int .i64 (wrap64 ((l0.length : Int) - (t173.length : Int))), .int .i64 x179002_1, .int .i64 x179003_1, .string x179004_1, .int .i64 x179005_1, .int .i64 x179006_1, .string x179007_1]) ?_ 2 _ rfl; (with_reducible repeat (first | refine blk_drewN ?_ _ | refine blk_drew ?_ | refine blk_alloc ?_ _)); exact BK178.out⟩
                      have n3_ : Aside0 (Below w.heap.size w (((wc.setCell ⟨gb178, 2, none⟩ (.int .i64 ((rd_T24 t173 x6_1).f0))).setCell ⟨gb178, 3, none⟩ (.int .i64 ((rd_T24 t173 x6_1).f1))).setCell ⟨gb178, 4, none⟩ (.string ((rd_T24 t173 x6_1).f2)))) := ⟨by repeat (first | (with_reducible first | exact HB.out | apply below_alloc | apply pw_below_drewN | apply below_drew1 | refine below_set ?_ GE171.out | refine below_set ?_ GE178.out) | exact HB.out)⟩
                      (try clear HO_4)
                      (try clear BK171)
                      (try clear BK178)
                      (try clear HB)
                      generalize (((wc.setCell ⟨gb178, 2, none⟩ (.int .i64 ((rd_T24 t173 x6_1).f0))).setCell ⟨gb178, 3, none⟩ (.int .i64 ((rd_T24 t173 x6_1).f1))).setCell ⟨gb178, 4, none⟩ (.string ((rd_T24 t173 x6_1).f2))) = w30 at n0_ n1_ n2_ n3_ ⊢
                      have HO_4 := n0_
                      have BK171 := n1_
                      have BK178 := n2_
                      have HB := n3_
                      clear n0_ n1_ n2_ n3_
                      have n0_ := Aside0.mk (Kd.R_drew HO_4.out)
                      have n1_ := Aside0.mk (blk_drew BK171.out)
                      have n2_ := Aside0.mk (blk_drew BK178.out)
                      have n3_ := Aside0.mk (below_drew1 HB.out)
                      clear HO_4
                      clear BK171
                      clear BK178
                      clear HB
                      have HO_4 := n0_
                      have BK171 := n1_
                      have BK178 := n2_
                      have HB := n3_
                      clear n0_ n1_ n2_ n3_
                      have p183 : 0 ≤ (x6_1 : Int) := of_decide_eq_true (by first | (with_reducible assumption) | assumption)
                      have q183 : x6_1 < (t173.length : Int) := of_decide_eq_true (by first | (with_reducible assumption) | assumption)
                      obtain ⟨ad183, e183, hx183_0, hx183_1, hx183_2⟩ := at_T24 (Kd.R_reads' HO_4.out).2.2 x6_1 p183 q183
                      obtain rfl : ad181 = ad183 := (by injection e183)
                      replace p183 := eq_true p183
                      replace q183 := eq_true q183
                      refine start_ (n := 12) (S := fun w' => w'.cell? ⟨gb178, 0, none⟩ = some (.int .i64 (l0.length : Int)) ∧ w'.cell? ⟨gb178, 1, none⟩ = some (.int .i64 (wrap64 ((l0.length : Int) - (t173.length : Int)))) ∧ w'.cell? ⟨gb178, 2, none⟩ = some (.int .i64 ((rd_T24 t173 x6_1).f0)) ∧ w'.cell? ⟨gb178, 3, none⟩ = some (.int .i64 ((rd_T24 t173 x6_1).f1)) ∧ w'.cell? ⟨gb178, 4, none⟩ = some (.string ((rd_T24 t173 x6_1).f2)) ∧ w'.cell? ⟨gb178, 5, none⟩ = some (.int .i64 x179005_1) ∧ w'.cell? ⟨gb178, 6, none⟩ = some (.int .i64 x179006_1) ∧ w'.cell? ⟨gb178, 7, none⟩ = some (.string x179007_1) ∧ w'.cell? (ad181.add ((x6_1).toNat * 3)) = some (.int .i64 ((rd_T24 t173 x6_1).f0)) ∧ w'.cell? ⟨(ad181.add ((x6_1).toNat * 3)).block, (ad181.add ((x6_1).toNat * 3)).off + 1, none⟩ = some (.int .i64 ((rd_T24 t173 x6_1).f1)) ∧ w'.cell? ⟨(ad181.add ((x6_1).toNat * 3)).block, (ad181.add ((x6_1).toNat * 3)).off + 2, none⟩ = some (.string ((rd_T24 t173 x6_1).f2))) (ds := []) #[false, false, false, false, false, false, false, false, false, false, false, false] (by kernel_rfl) rfl rfl ⟨(blk_cell BK178.out 0).trans rfl, (blk_cell BK178.out 1).trans rfl, (blk_cell BK178.out 2).trans rfl, (blk_cell BK178.out 3).trans rfl, (blk_cell BK178.out 4).trans rfl, (blk_cell BK178.out 5).trans rfl, (blk_cell BK178.out 6).trans rfl, (blk_cell BK178.out 7).trans rfl, hx183_0, hx183_1, hx183_2⟩ (fun hHeld => ?_); refine with_tabW ref11_Zone.tab8 ref11_Zone.bits8 (fun HT_ HW_ => ?_)
                      generalize w30.drew = w31 at HO_4 BK171 BK178 HB hx183_0 hx183_1 hx183_2 hHeld ⊢
                      refine pure_ (i := 0) (N := some 43) (v := ?_) (a' := ?_) #[true, false, false, false, false, false, false, false, false, false, false, false] rfl rfl (any_of HT_.out (by kernel_rfl)) (fun _ _ _ h => h) (Or.inl ⟨by rfl, ?_⟩) ?_ ?_
                      rotate_left
                      · intro w'
                        go_simp
                        with_reducible rfl
                      rotate_left
                      · simp only [Act.put, List.setIfInBounds_toArray, List.set_cons_zero, List.set_cons_succ, i64_w, i32_w]
                        rfl
                      refine pure_ (i := 1) (N := some 44) (v := ?_) (a' := ?_) #[true, true, false, false, false, false, false, false, false, false, false, false] rfl rfl (any_of HT_.out (by kernel_rfl)) (fun _ _ _ h => h) (Or.inl ⟨by rfl, ?_⟩) ?_ ?_
                      rotate_left
                      · intro w'
                        go_simp
                        with_reducible rfl
                      rotate_left
                      · simp only [Act.put, List.setIfInBounds_toArray, List.set_cons_zero, List.set_cons_succ, i64_w, i32_w]
                        rfl
                      refine pure_ (i := 2) (N := some 45) (v := ?_) (a' := ?_) #[true, true, true, false, false, false, false, false, false, false, false, false] rfl rfl (any_of HT_.out (by kernel_rfl)) (fun _ _ _ h => h) (Or.inl ⟨by rfl, ?_⟩) ?_ ?_
                      rotate_left
                      · intro w'
                        go_simp
                        with_reducible rfl
                      rotate_left
                      · simp only [Act.put, List.setIfInBounds_toArray, List.set_cons_zero, List.set_cons_succ, i64_w, i32_w]
                        rfl
                      refine pure_ (i := 3) (N := some 46) (v := ?_) (a' := ?_) #[true, true, true, true, false, false, false, false, false, false, false, false] rfl rfl (any_of HT_.out (by kernel_rfl)) (fun _ _ _ h => h) (Or.inl ⟨by rfl, ?_⟩) ?_ ?_
                      rotate_left
                      · intro w'
                        go_simp
                        with_reducible rfl
                      rotate_left
                      · simp only [Act.put, List.setIfInBounds_toArray, List.set_cons_zero, List.set_cons_succ, i64_w, i32_w]
                        rfl
                      refine pure_ (i := 4) (N := some 47) (v := ?_) (a' := ?_) #[true, true, true, true, true, false, false, false, false, false, false, false] rfl rfl (any_of HT_.out (by kernel_rfl)) (fun _ _ _ h => h) (Or.inl ⟨by rfl, ?_⟩) ?_ ?_
                      rotate_left
                      · intro w'
                        go_simp
                        with_reducible rfl
                      rotate_left
                      · simp only [Act.put, List.setIfInBounds_toArray, List.set_cons_zero, List.set_cons_succ, i64_w, i32_w]
                        rfl
                      refine pure_ (i := 5) (N := some 48) (v := ?_) (a' := ?_) #[true, true, true, true, true, true, false, false, false, false, false, false] rfl rfl (any_of HT_.out (by kernel_rfl)) (fun _ _ _ h => h) (Or.inl ⟨by rfl, ?_⟩) ?_ ?_
                      rotate_left
                      · intro w'
                        go_simp
                        with_reducible rfl
                      rotate_left
                      · simp only [Act.put, List.setIfInBounds_toArray, List.set_cons_zero, List.set_cons_succ, i64_w, i32_w]
                        rfl
                      refine pure_ (i := 7) (N := some 50) (v := ?_) (a' := ?_) #[true, true, true, true, true, true, false, true, false, false, false, false] rfl rfl (any_of HT_.out (by kernel_rfl)) (fun _ _ _ h => h) (Or.inl ⟨by rfl, ?_⟩) ?_ ?_
                      rotate_left
                      · intro w'
                        go_simp
                        with_reducible rfl
                      rotate_left
                      · simp only [Act.put, List.setIfInBounds_toArray, List.set_cons_zero, List.set_cons_succ, i64_w, i32_w]
                        rfl
                      refine take_ (i := 6) (N := some 49) (v := ?_) (a' := ?_) #[true, true, true, true, true, true, true, true, false, false, false, false] rfl rfl (take_ofW HT_.out HW_.out (by kernel_rfl)) (fun _ _ _ h => h) (Or.inl ⟨by rfl, ?_⟩) hHeld ?_ ?_
                      rotate_left
                      · rintro w' ⟨s0, s1, s2, s3, s4, s5, s6, s7, s8, s9, s10⟩
                        go_simp
                        with_reducible rfl
                      rotate_left
                      · simp only [Act.put, List.setIfInBounds_toArray, List.set_cons_zero, List.set_cons_succ, i64_w, i32_w]
                        rfl
                      refine take_ (i := 8) (N := some 51) (v := ?_) (a' := ?_) #[true, true, true, true, true, true, true, true, true, false, false, false] rfl rfl (take_ofW HT_.out HW_.out (by kernel_rfl)) (fun _ _ _ h => h) (Or.inl ⟨by rfl, ?_⟩) hHeld ?_ ?_
                      rotate_left
                      · rintro w' ⟨s0, s1, s2, s3, s4, s5, s6, s7, s8, s9, s10⟩
                        go_simp
                        with_reducible rfl
                      rotate_left
                      · simp only [Act.put, List.setIfInBounds_toArray, List.set_cons_zero, List.set_cons_succ, i64_w, i32_w]
                        rfl
                      refine one_ (i := 9) (N := some 52) #[true, true, true, true, true, true, true, true, true, true, false, false] rfl rfl (one_of HT_.out (by kernel_rfl)) (by decide) (fun K hK => ?_)
                      refine goes_ Try.func18 (by kernel_rfl) rfl #[.agg #[.int .i64 ((rd_T24 t173 x6_1).f0), .int .i64 ((rd_T24 t173 x6_1).f1), .string ((rd_T24 t173 x6_1).f2)], .agg #[.int .i64 x179005_1, .int .i64 x179006_1, .string x179007_1]] (by rfl) rfl rfl (by (try simp only [List.map_toArray, List.map_cons, List.map_nil]); first | done | rfl | (simp only [List.length_drop, List.length_take]; rfl)) ?_
                      with_reducible refine (ref05_Compare.calls kj9 ((rd_T24 t173 x6_1).f0) ((rd_T24 t173 x6_1).f1) ((rd_T24 t173 x6_1).f2) x179005_1 x179006_1 x179007_1 t184 _ A26.out).mono ?_
                      rintro e w32 ⟨rfl, hb⟩
                      have HS8_ := (hb.cell (World.block_lt_of_cell? _ _ (hHeld.2.2.2.2.2.2.2.2.1))).trans (hHeld.2.2.2.2.2.2.2.2.1)
                      have HS9_ := (hb.cell (World.block_lt_of_cell? _ _ (hHeld.2.2.2.2.2.2.2.2.2.1))).trans (hHeld.2.2.2.2.2.2.2.2.2.1)
                      have HS10_ := (hb.cell (World.block_lt_of_cell? _ _ (hHeld.2.2.2.2.2.2.2.2.2.2))).trans (hHeld.2.2.2.2.2.2.2.2.2.2)
                      refine ⟨_, rfl, ?_⟩
                      have n0_ := Aside0.mk (Kd.R_below (by (with_reducible repeat (first | apply Kd.R_alloc | apply Kd.R_drewN | apply Kd.R_drew)); exact HO_4.out) hb)
                      have n1_ := Aside0.mk (blk_below (g := gb171) (o := .cells #[.int .i64 0, .int .i64 0, .int .i64 0, .int .i64 0, .string (⟨#[]⟩ : ByteArray), .int .i64 0, .int .i64 0, .string (⟨#[]⟩ : ByteArray)] 30 (0, 0)) (by (with_reducible repeat (first | refine blk_drewN ?_ _ | refine blk_drew ?_ | refine blk_alloc ?_ _)); exact BK171.out) hb)
                      have n2_ := Aside0.mk (blk_below (g := gb178) (o := .cells #[.int .i64 (l0.length : Int), .int .i64 (wrap64 ((l0.length : Int) - (t173.length : Int))), .int .i64 ((rd_T24 t173 x6_1).f0), .int .i64 ((rd_T24 t173 x6_1).f1), .string ((rd_T24 t173 x6_1).f2), .int .i64 x179005_1, .int .i64 x179006_1, .string x179007_1] 30 (0, 0)) (by (with_reducible repeat (first | refine blk_drewN ?_ _ | refine blk_drew ?_ | refine blk_alloc ?_ _)); exact BK178.out) hb)
                      have n3_ := Aside0.mk (below_step (by repeat (first | (with_reducible first | exact HB.out | apply below_alloc | apply pw_below_drewN | apply below_drew1 | refine below_set ?_ GE171.out | refine below_set ?_ GE178.out) | exact HB.out)) hb)
                      clear HO_4
                      clear BK171
                      clear BK178
                      clear HB
                      have HO_4 := n0_
                      have BK171 := n1_
                      have BK178 := n2_
                      have HB := n3_
                      clear n0_ n1_ n2_ n3_
                      (try clear hb)
                      (try clear hb2)
                      (try clear hk)
                      (try clear hi)
                      refine hK.out _ _ ⟨(blk_cell BK178.out 0).trans rfl, (blk_cell BK178.out 1).trans rfl, (blk_cell BK178.out 2).trans rfl, (blk_cell BK178.out 3).trans rfl, (blk_cell BK178.out 4).trans rfl, (blk_cell BK178.out 5).trans rfl, (blk_cell BK178.out 6).trans rfl, (blk_cell BK178.out 7).trans rfl, HS8_, HS9_, HS10_⟩ (fun hHeld => ?_)
                      clear hK K
                      refine norm_ (a' := ?_) ?_ ?_
                      rotate_left
                      · show Act.put _ (some 52) _ = _
                        simp only [Act.put, List.setIfInBounds_toArray, List.set_cons_zero, List.set_cons_succ, i64_w, i32_w]
                        rfl
                      refine pure_ (i := 10) (N := some 53) (v := ?_) (a' := ?_) #[true, true, true, true, true, true, true, true, true, true, true, false] rfl rfl (any_of HT_.out (by kernel_rfl)) (fun _ _ _ h => h) (Or.inl ⟨by rfl, ?_⟩) ?_ ?_
                      rotate_left
                      · intro w'
                        go_simp
                        with_reducible rfl
                      rotate_left
                      · simp only [Act.put, List.setIfInBounds_toArray, List.set_cons_zero, List.set_cons_succ, i64_w, i32_w]
                        rfl
                      refine pure_ (i := 11) (N := some 54) (v := ?_) (a' := ?_) #[true, true, true, true, true, true, true, true, true, true, true, true] rfl rfl (any_of HT_.out (by kernel_rfl)) (fun _ _ _ h => h) (Or.inl ⟨by rfl, ?_⟩) ?_ ?_
                      rotate_left
                      · intro w'
                        go_simp
                        with_reducible rfl
                      rotate_left
                      · simp only [Act.put, List.setIfInBounds_toArray, List.set_cons_zero, List.set_cons_succ, i64_w, i32_w]
                        rfl
                      refine done_ (done_of HT_.out (by kernel_rfl)) ?_
                      have p185 : 0 ≤ (x6_1 : Int) := of_decide_eq_true (by first | (with_reducible assumption) | assumption)
                      have q185 : x6_1 < (t173.length : Int) := of_decide_eq_true (by first | (with_reducible assumption) | assumption)
                      obtain ⟨ad185, e185, hx185_0, hx185_1, hx185_2⟩ := at_T24 (Kd.R_reads' HO_4.out).2.2 x6_1 p185 q185
                      obtain rfl : ad181 = ad185 := (by injection e185)
                      replace p185 := eq_true p185
                      replace q185 := eq_true q185
                      have hcz33_0 : w32.cell? ⟨gb178, 0, none⟩ = some (.int .i64 (l0.length : Int)) := (blk_cell BK178.out 0).trans rfl
                      have hcz33_1 : w32.cell? ⟨gb178, 1, none⟩ = some (.int .i64 (wrap64 ((l0.length : Int) - (t173.length : Int)))) := (blk_cell BK178.out 1).trans rfl
                      have hcz33_2 : w32.cell? ⟨gb178, 2, none⟩ = some (.int .i64 ((rd_T24 t173 x6_1).f0)) := (blk_cell BK178.out 2).trans rfl
                      have hcz33_3 : w32.cell? ⟨gb178, 3, none⟩ = some (.int .i64 ((rd_T24 t173 x6_1).f1)) := (blk_cell BK178.out 3).trans rfl
                      have hcz33_4 : w32.cell? ⟨gb178, 4, none⟩ = some (.string ((rd_T24 t173 x6_1).f2)) := (blk_cell BK178.out 4).trans rfl
                      have hcz33_5 : w32.cell? ⟨gb178, 5, none⟩ = some (.int .i64 x179005_1) := (blk_cell BK178.out 5).trans rfl
                      have hcz33_6 : w32.cell? ⟨gb178, 6, none⟩ = some (.int .i64 x179006_1) := (blk_cell BK178.out 6).trans rfl
                      have hcz33_7 : w32.cell? ⟨gb178, 7, none⟩ = some (.string x179007_1) := (blk_cell BK178.out 7).trans rfl
                      have hfz33_0 := blk_frozen BK178.out 0
                      have hfz33_1 := blk_frozen BK178.out 1
                      have hfz33_2 := blk_frozen BK178.out 2
                      have hfz33_3 := blk_frozen BK178.out 3
                      have hfz33_4 := blk_frozen BK178.out 4
                      have hfz33_5 := blk_frozen BK178.out 5
                      have hfz33_6 := blk_frozen BK178.out 6
                      have hfz33_7 := blk_frozen BK178.out 7
                      try go_wp2
                      go_roundg kj9
                      case measure => have := HK1.out; have := HJ9.out; omega
                      case rel => exact ⟨(wrap64 (x6_1 + 1)), ((rd_T24 t173 x6_1).f0), ((rd_T24 t173 x6_1).f1), ((rd_T24 t173 x6_1).f2), ((rd_T24 t173 x6_1).f0), ((rd_T24 t173 x6_1).f1), ((rd_T24 t173 x6_1).f2), (by first | rfl | (simp; done) | (simp [*]; done)), H', ⟨by have := HK1.out; have := HJ9.out; omega⟩, ⟨by (with_reducible repeat (first | apply Kd.R_alloc | apply Kd.R_drewN | apply Kd.R_drew)); exact Kd.R_mono (Kd.R_far (p := ⟨gb178, 7, none⟩) (Kd.R_far (p := ⟨gb178, 6, none⟩) (Kd.R_far (p := ⟨gb178, 5, none⟩) (Kd.R_types HO_4.out BK178.out (by decide)) (fun _ hk => hk.2) (.int .i64 ((rd_T24 t173 x6_1).f0))) (fun _ hk => hk.2) (.int .i64 ((rd_T24 t173 x6_1).f1))) (fun _ hk => hk.2) (.string ((rd_T24 t173 x6_1).f2))) (fun _ hk => trivial)⟩, ⟨by (with_reducible repeat (first | refine blk_drewN ?_ _ | refine blk_drew ?_ | refine blk_alloc ?_ _)); refine blk_far ?_ NB171_178.out _; (with_reducible repeat (first | refine blk_drewN ?_ _ | refine blk_drew ?_ | refine blk_alloc ?_ _)); refine blk_far ?_ NB171_178.out _; (with_reducible repeat (first | refine blk_drewN ?_ _ | refine blk_drew ?_ | refine blk_alloc ?_ _)); refine blk_far ?_ NB171_178.out _; (with_reducible repeat (first | refine blk_drewN ?_ _ | refine blk_drew ?_ | refine blk_alloc ?_ _)); exact BK171.out⟩, ⟨by (with_reducible repeat (first | refine blk_drewN ?_ _ | refine blk_drew ?_ | refine blk_alloc ?_ _)); refine blk_put (cs := #[.int .i64 (l0.length : Int), .int .i64 (wrap64 ((l0.length : Int) - (t173.length : Int))), .int .i64 ((rd_T24 t173 x6_1).f0), .int .i64 ((rd_T24 t173 x6_1).f1), .string ((rd_T24 t173 x6_1).f2), .int .i64 ((rd_T24 t173 x6_1).f0), .int .i64 ((rd_T24 t173 x6_1).f1), .string x179007_1]) ?_ 7 _ rfl; (with_reducible repeat (first | refine blk_drewN ?_ _ | refine blk_drew ?_ | refine blk_alloc ?_ _)); refine blk_put (cs := #[.int .i64 (l0.length : Int), .int .i64 (wrap64 ((l0.length : Int) - (t173.length : Int))), .int .i64 ((rd_T24 t173 x6_1).f0), .int .i64 ((rd_T24 t173 x6_1).f1), .string ((rd_T24 t173 x6_1).f2), .int .i64 ((rd_T24 t173 x6_1).f0), .int .i64 x179006_1, .string x179007_1]) ?_ 6 _ rfl; (with_reducible repeat (first | refine blk_drewN ?_ _ | refine blk_drew ?_ | refine blk_alloc ?_ _)); refine blk_put (cs := #[.int .i64 (l0.length : Int), .int .i64 (wrap64 ((l0.length : Int) - (t173.length : Int))), .int .i64 ((rd_T24 t173 x6_1).f0), .int .i64 ((rd_T24 t173 x6_1).f1), .string ((rd_T24 t173 x6_1).f2), .int .i64 x179005_1, .int .i64 x179006_1, .string x179007_1]) ?_ 5 _ rfl; (with_reducible repeat (first | refine blk_drewN ?_ _ | refine blk_drew ?_ | refine blk_alloc ?_ _)); exact BK178.out⟩, ⟨by repeat (first | (with_reducible first | exact HB.out | apply below_alloc | apply pw_below_drewN | apply below_drew1 | refine below_set ?_ GE171.out | refine below_set ?_ GE178.out) | exact HB.out)⟩⟩
                    · rw [if_neg c27] at H
                      have c27b0 : decide (0 < t184) = false := decide_eq_false c27
                      clear c27
                      have H' := Aside0.mk H
                      clear H
                      have p181 : 0 ≤ (x6_1 : Int) := of_decide_eq_true (by first | (with_reducible assumption) | assumption)
                      have q181 : x6_1 < (t173.length : Int) := of_decide_eq_true (by first | (with_reducible assumption) | assumption)
                      obtain ⟨ad181, e181, hx181_0, hx181_1, hx181_2⟩ := at_T24 (Kd.R_reads' HO_4.out).2.2 x6_1 p181 q181
                      cases e181
                      replace p181 := eq_true p181
                      replace q181 := eq_true q181
                      have hnb34 := NB178_171.out
                      have hnc34 := NB171_178.out
                      have hcz35_0 : wc.cell? ⟨gb178, 0, none⟩ = some (.int .i64 (l0.length : Int)) := (blk_cell BK178.out 0).trans rfl
                      have hcz35_1 : wc.cell? ⟨gb178, 1, none⟩ = some (.int .i64 (wrap64 ((l0.length : Int) - (t173.length : Int)))) := (blk_cell BK178.out 1).trans rfl
                      have hcz35_2 : wc.cell? ⟨gb178, 2, none⟩ = some (.int .i64 x179002_1) := (blk_cell BK178.out 2).trans rfl
                      have hcz35_3 : wc.cell? ⟨gb178, 3, none⟩ = some (.int .i64 x179003_1) := (blk_cell BK178.out 3).trans rfl
                      have hcz35_4 : wc.cell? ⟨gb178, 4, none⟩ = some (.string x179004_1) := (blk_cell BK178.out 4).trans rfl
                      have hcz35_5 : wc.cell? ⟨gb178, 5, none⟩ = some (.int .i64 x179005_1) := (blk_cell BK178.out 5).trans rfl
                      have hcz35_6 : wc.cell? ⟨gb178, 6, none⟩ = some (.int .i64 x179006_1) := (blk_cell BK178.out 6).trans rfl
                      have hcz35_7 : wc.cell? ⟨gb178, 7, none⟩ = some (.string x179007_1) := (blk_cell BK178.out 7).trans rfl
                      have hfz35_0 := blk_frozen BK178.out 0
                      have hfz35_1 := blk_frozen BK178.out 1
                      have hfz35_2 := blk_frozen BK178.out 2
                      have hfz35_3 := blk_frozen BK178.out 3
                      have hfz35_4 := blk_frozen BK178.out 4
                      have hfz35_5 := blk_frozen BK178.out 5
                      have hfz35_6 := blk_frozen BK178.out 6
                      have hfz35_7 := blk_frozen BK178.out 7
                      try go_wp2
                      have n0_ : Aside0 (Kd.R k24 24 (((wc.setCell ⟨gb178, 2, none⟩ (.int .i64 ((rd_T24 t173 x6_1).f0))).setCell ⟨gb178, 3, none⟩ (.int .i64 ((rd_T24 t173 x6_1).f1))).setCell ⟨gb178, 4, none⟩ (.string ((rd_T24 t173 x6_1).f2))) w.heap.size (fun _ => True) (.slice (some ad181) t173.length co5) t173) := ⟨by (with_reducible repeat (first | apply Kd.R_alloc | apply Kd.R_drewN | apply Kd.R_drew)); exact Kd.R_mono (Kd.R_far (p := ⟨gb178, 4, none⟩) (Kd.R_far (p := ⟨gb178, 3, none⟩) (Kd.R_far (p := ⟨gb178, 2, none⟩) (Kd.R_types HO_4.out BK178.out (by decide)) (fun _ hk => hk.2) (.int .i64 ((rd_T24 t173 x6_1).f0))) (fun _ hk => hk.2) (.int .i64 ((rd_T24 t173 x6_1).f1))) (fun _ hk => hk.2) (.string ((rd_T24 t173 x6_1).f2))) (fun _ hk => trivial)⟩
                      have n1_ : Aside0 ((((wc.setCell ⟨gb178, 2, none⟩ (.int .i64 ((rd_T24 t173 x6_1).f0))).setCell ⟨gb178, 3, none⟩ (.int .i64 ((rd_T24 t173 x6_1).f1))).setCell ⟨gb178, 4, none⟩ (.string ((rd_T24 t173 x6_1).f2))).heap[gb171]? = some (.cells #[.int .i64 0, .int .i64 0, .int .i64 0, .int .i64 0, .string (⟨#[]⟩ : ByteArray), .int .i64 0, .int .i64 0, .string (⟨#[]⟩ : ByteArray)] 30 (0, 0))) := ⟨by (with_reducible repeat (first | refine blk_drewN ?_ _ | refine blk_drew ?_ | refine blk_alloc ?_ _)); refine blk_far ?_ NB171_178.out _; (with_reducible repeat (first | refine blk_drewN ?_ _ | refine blk_drew ?_ | refine blk_alloc ?_ _)); refine blk_far ?_ NB171_178.out _; (with_reducible repeat (first | refine blk_drewN ?_ _ | refine blk_drew ?_ | refine blk_alloc ?_ _)); refine blk_far ?_ NB171_178.out _; (with_reducible repeat (first | refine blk_drewN ?_ _ | refine blk_drew ?_ | refine blk_alloc ?_ _)); exact BK171.out⟩
                      have n2_ : Aside0 ((((wc.setCell ⟨gb178, 2, none⟩ (.int .i64 ((rd_T24 t173 x6_1).f0))).setCell ⟨gb178, 3, none⟩ (.int .i64 ((rd_T24 t173 x6_1).f1))).setCell ⟨gb178, 4, none⟩ (.string ((rd_T24 t173 x6_1).f2))).heap[gb178]? = some (.cells #[.int .i64 (l0.length : Int), .int .i64 (wrap64 ((l0.length : Int) - (t173.length : Int))), .int .i64 ((rd_T24 t173 x6_1).f0), .int .i64 ((rd_T24 t173 x6_1).f1), .string ((rd_T24 t173 x6_1).f2), .int .i64 x179005_1, .int .i64 x179006_1, .string x179007_1] 30 (0, 0))) := ⟨by (with_reducible repeat (first | refine blk_drewN ?_ _ | refine blk_drew ?_ | refine blk_alloc ?_ _)); refine blk_put (cs := #[.int .i64 (l0.length : Int), .int .i64 (wrap64 ((l0.length : Int) - (t173.length : Int))), .int .i64 ((rd_T24 t173 x6_1).f0), .int .i64 ((rd_T24 t173 x6_1).f1), .string x179004_1, .int .i64 x179005_1, .int .i64 x179006_1, .string x179007_1]) ?_ 4 _ rfl; (with_reducible repeat (first | refine blk_drewN ?_ _ | refine blk_drew ?_ | refine blk_alloc ?_ _)); refine blk_put (cs := #[.int .i64 (l0.length : Int), .int .i64 (wrap64 ((l0.length : Int) - (t173.length : Int))), .int .i64 ((rd_T24 t173 x6_1).f0), .int .i64 x179003_1, .string x179004_1, .int .i64 x179005_1, .int .i64 x179006_1, .string x179007_1]) ?_ 3 _ rfl; (with_reducible repeat (first | refine blk_drewN ?_ _ | refine blk_drew ?_ | refine blk_alloc ?_ _)); refine blk_put (cs := #[.int .i64 (l0.length : Int), .int .i64 (wrap64 ((l0.length : Int) - (t173.length : Int))), .int .i64 x179002_1, .int .i64 x179003_1, .string x179004_1, .int .i64 x179005_1, .int .i64 x179006_1, .string x179007_1]) ?_ 2 _ rfl; (with_reducible repeat (first | refine blk_drewN ?_ _ | refine blk_drew ?_ | refine blk_alloc ?_ _)); exact BK178.out⟩
                      have n3_ : Aside0 (Below w.heap.size w (((wc.setCell ⟨gb178, 2, none⟩ (.int .i64 ((rd_T24 t173 x6_1).f0))).setCell ⟨gb178, 3, none⟩ (.int .i64 ((rd_T24 t173 x6_1).f1))).setCell ⟨gb178, 4, none⟩ (.string ((rd_T24 t173 x6_1).f2)))) := ⟨by repeat (first | (with_reducible first | exact HB.out | apply below_alloc | apply pw_below_drewN | apply below_drew1 | refine below_set ?_ GE171.out | refine below_set ?_ GE178.out) | exact HB.out)⟩
                      (try clear HO_4)
                      (try clear BK171)
                      (try clear BK178)
                      (try clear HB)
                      generalize (((wc.setCell ⟨gb178, 2, none⟩ (.int .i64 ((rd_T24 t173 x6_1).f0))).setCell ⟨gb178, 3, none⟩ (.int .i64 ((rd_T24 t173 x6_1).f1))).setCell ⟨gb178, 4, none⟩ (.string ((rd_T24 t173 x6_1).f2))) = w36 at n0_ n1_ n2_ n3_ ⊢
                      have HO_4 := n0_
                      have BK171 := n1_
                      have BK178 := n2_
                      have HB := n3_
                      clear n0_ n1_ n2_ n3_
                      have n0_ := Aside0.mk (Kd.R_drew HO_4.out)
                      have n1_ := Aside0.mk (blk_drew BK171.out)
                      have n2_ := Aside0.mk (blk_drew BK178.out)
                      have n3_ := Aside0.mk (below_drew1 HB.out)
                      clear HO_4
                      clear BK171
                      clear BK178
                      clear HB
                      have HO_4 := n0_
                      have BK171 := n1_
                      have BK178 := n2_
                      have HB := n3_
                      clear n0_ n1_ n2_ n3_
                      have p183 : 0 ≤ (x6_1 : Int) := of_decide_eq_true (by first | (with_reducible assumption) | assumption)
                      have q183 : x6_1 < (t173.length : Int) := of_decide_eq_true (by first | (with_reducible assumption) | assumption)
                      obtain ⟨ad183, e183, hx183_0, hx183_1, hx183_2⟩ := at_T24 (Kd.R_reads' HO_4.out).2.2 x6_1 p183 q183
                      obtain rfl : ad181 = ad183 := (by injection e183)
                      replace p183 := eq_true p183
                      replace q183 := eq_true q183
                      refine start_ (n := 12) (S := fun w' => w'.cell? ⟨gb178, 0, none⟩ = some (.int .i64 (l0.length : Int)) ∧ w'.cell? ⟨gb178, 1, none⟩ = some (.int .i64 (wrap64 ((l0.length : Int) - (t173.length : Int)))) ∧ w'.cell? ⟨gb178, 2, none⟩ = some (.int .i64 ((rd_T24 t173 x6_1).f0)) ∧ w'.cell? ⟨gb178, 3, none⟩ = some (.int .i64 ((rd_T24 t173 x6_1).f1)) ∧ w'.cell? ⟨gb178, 4, none⟩ = some (.string ((rd_T24 t173 x6_1).f2)) ∧ w'.cell? ⟨gb178, 5, none⟩ = some (.int .i64 x179005_1) ∧ w'.cell? ⟨gb178, 6, none⟩ = some (.int .i64 x179006_1) ∧ w'.cell? ⟨gb178, 7, none⟩ = some (.string x179007_1) ∧ w'.cell? (ad181.add ((x6_1).toNat * 3)) = some (.int .i64 ((rd_T24 t173 x6_1).f0)) ∧ w'.cell? ⟨(ad181.add ((x6_1).toNat * 3)).block, (ad181.add ((x6_1).toNat * 3)).off + 1, none⟩ = some (.int .i64 ((rd_T24 t173 x6_1).f1)) ∧ w'.cell? ⟨(ad181.add ((x6_1).toNat * 3)).block, (ad181.add ((x6_1).toNat * 3)).off + 2, none⟩ = some (.string ((rd_T24 t173 x6_1).f2))) (ds := []) #[false, false, false, false, false, false, false, false, false, false, false, false] (by kernel_rfl) rfl rfl ⟨(blk_cell BK178.out 0).trans rfl, (blk_cell BK178.out 1).trans rfl, (blk_cell BK178.out 2).trans rfl, (blk_cell BK178.out 3).trans rfl, (blk_cell BK178.out 4).trans rfl, (blk_cell BK178.out 5).trans rfl, (blk_cell BK178.out 6).trans rfl, (blk_cell BK178.out 7).trans rfl, hx183_0, hx183_1, hx183_2⟩ (fun hHeld => ?_); refine with_tabW ref11_Zone.tab8 ref11_Zone.bits8 (fun HT_ HW_ => ?_)
                      generalize w36.drew = w37 at HO_4 BK171 BK178 HB hx183_0 hx183_1 hx183_2 hHeld ⊢
                      refine pure_ (i := 0) (N := some 43) (v := ?_) (a' := ?_) #[true, false, false, false, false, false, false, false, false, false, false, false] rfl rfl (any_of HT_.out (by kernel_rfl)) (fun _ _ _ h => h) (Or.inl ⟨by rfl, ?_⟩) ?_ ?_
                      rotate_left
                      · intro w'
                        go_simp
                        with_reducible rfl
                      rotate_left
                      · simp only [Act.put, List.setIfInBounds_toArray, List.set_cons_zero, List.set_cons_succ, i64_w, i32_w]
                        rfl
                      refine pure_ (i := 1) (N := some 44) (v := ?_) (a' := ?_) #[true, true, false, false, false, false, false, false, false, false, false, false] rfl rfl (any_of HT_.out (by kernel_rfl)) (fun _ _ _ h => h) (Or.inl ⟨by rfl, ?_⟩) ?_ ?_
                      rotate_left
                      · intro w'
                        go_simp
                        with_reducible rfl
                      rotate_left
                      · simp only [Act.put, List.setIfInBounds_toArray, List.set_cons_zero, List.set_cons_succ, i64_w, i32_w]
                        rfl
                      refine pure_ (i := 2) (N := some 45) (v := ?_) (a' := ?_) #[true, true, true, false, false, false, false, false, false, false, false, false] rfl rfl (any_of HT_.out (by kernel_rfl)) (fun _ _ _ h => h) (Or.inl ⟨by rfl, ?_⟩) ?_ ?_
                      rotate_left
                      · intro w'
                        go_simp
                        with_reducible rfl
                      rotate_left
                      · simp only [Act.put, List.setIfInBounds_toArray, List.set_cons_zero, List.set_cons_succ, i64_w, i32_w]
                        rfl
                      refine pure_ (i := 3) (N := some 46) (v := ?_) (a' := ?_) #[true, true, true, true, false, false, false, false, false, false, false, false] rfl rfl (any_of HT_.out (by kernel_rfl)) (fun _ _ _ h => h) (Or.inl ⟨by rfl, ?_⟩) ?_ ?_
                      rotate_left
                      · intro w'
                        go_simp
                        with_reducible rfl
                      rotate_left
                      · simp only [Act.put, List.setIfInBounds_toArray, List.set_cons_zero, List.set_cons_succ, i64_w, i32_w]
                        rfl
                      refine pure_ (i := 4) (N := some 47) (v := ?_) (a' := ?_) #[true, true, true, true, true, false, false, false, false, false, false, false] rfl rfl (any_of HT_.out (by kernel_rfl)) (fun _ _ _ h => h) (Or.inl ⟨by rfl, ?_⟩) ?_ ?_
                      rotate_left
                      · intro w'
                        go_simp
                        with_reducible rfl
                      rotate_left
                      · simp only [Act.put, List.setIfInBounds_toArray, List.set_cons_zero, List.set_cons_succ, i64_w, i32_w]
                        rfl
                      refine pure_ (i := 5) (N := some 48) (v := ?_) (a' := ?_) #[true, true, true, true, true, true, false, false, false, false, false, false] rfl rfl (any_of HT_.out (by kernel_rfl)) (fun _ _ _ h => h) (Or.inl ⟨by rfl, ?_⟩) ?_ ?_
                      rotate_left
                      · intro w'
                        go_simp
                        with_reducible rfl
                      rotate_left
                      · simp only [Act.put, List.setIfInBounds_toArray, List.set_cons_zero, List.set_cons_succ, i64_w, i32_w]
                        rfl
                      refine pure_ (i := 7) (N := some 50) (v := ?_) (a' := ?_) #[true, true, true, true, true, true, false, true, false, false, false, false] rfl rfl (any_of HT_.out (by kernel_rfl)) (fun _ _ _ h => h) (Or.inl ⟨by rfl, ?_⟩) ?_ ?_
                      rotate_left
                      · intro w'
                        go_simp
                        with_reducible rfl
                      rotate_left
                      · simp only [Act.put, List.setIfInBounds_toArray, List.set_cons_zero, List.set_cons_succ, i64_w, i32_w]
                        rfl
                      refine take_ (i := 6) (N := some 49) (v := ?_) (a' := ?_) #[true, true, true, true, true, true, true, true, false, false, false, false] rfl rfl (take_ofW HT_.out HW_.out (by kernel_rfl)) (fun _ _ _ h => h) (Or.inl ⟨by rfl, ?_⟩) hHeld ?_ ?_
                      rotate_left
                      · rintro w' ⟨s0, s1, s2, s3, s4, s5, s6, s7, s8, s9, s10⟩
                        go_simp
                        with_reducible rfl
                      rotate_left
                      · simp only [Act.put, List.setIfInBounds_toArray, List.set_cons_zero, List.set_cons_succ, i64_w, i32_w]
                        rfl
                      refine take_ (i := 8) (N := some 51) (v := ?_) (a' := ?_) #[true, true, true, true, true, true, true, true, true, false, false, false] rfl rfl (take_ofW HT_.out HW_.out (by kernel_rfl)) (fun _ _ _ h => h) (Or.inl ⟨by rfl, ?_⟩) hHeld ?_ ?_
                      rotate_left
                      · rintro w' ⟨s0, s1, s2, s3, s4, s5, s6, s7, s8, s9, s10⟩
                        go_simp
                        with_reducible rfl
                      rotate_left
                      · simp only [Act.put, List.setIfInBounds_toArray, List.set_cons_zero, List.set_cons_succ, i64_w, i32_w]
                        rfl
                      refine one_ (i := 9) (N := some 52) #[true, true, true, true, true, true, true, true, true, true, false, false] rfl rfl (one_of HT_.out (by kernel_rfl)) (by decide) (fun K hK => ?_)
                      refine goes_ Try.func18 (by kernel_rfl) rfl #[.agg #[.int .i64 ((rd_T24 t173 x6_1).f0), .int .i64 ((rd_T24 t173 x6_1).f1), .string ((rd_T24 t173 x6_1).f2)], .agg #[.int .i64 x179005_1, .int .i64 x179006_1, .string x179007_1]] (by rfl) rfl rfl (by (try simp only [List.map_toArray, List.map_cons, List.map_nil]); first | done | rfl | (simp only [List.length_drop, List.length_take]; rfl)) ?_
                      with_reducible refine (ref05_Compare.calls kj9 ((rd_T24 t173 x6_1).f0) ((rd_T24 t173 x6_1).f1) ((rd_T24 t173 x6_1).f2) x179005_1 x179006_1 x179007_1 t184 _ A26.out).mono ?_
                      rintro e w38 ⟨rfl, hb⟩
                      have HS8_ := (hb.cell (World.block_lt_of_cell? _ _ (hHeld.2.2.2.2.2.2.2.2.1))).trans (hHeld.2.2.2.2.2.2.2.2.1)
                      have HS9_ := (hb.cell (World.block_lt_of_cell? _ _ (hHeld.2.2.2.2.2.2.2.2.2.1))).trans (hHeld.2.2.2.2.2.2.2.2.2.1)
                      have HS10_ := (hb.cell (World.block_lt_of_cell? _ _ (hHeld.2.2.2.2.2.2.2.2.2.2))).trans (hHeld.2.2.2.2.2.2.2.2.2.2)
                      refine ⟨_, rfl, ?_⟩
                      have n0_ := Aside0.mk (Kd.R_below (by (with_reducible repeat (first | apply Kd.R_alloc | apply Kd.R_drewN | apply Kd.R_drew)); exact HO_4.out) hb)
                      have n1_ := Aside0.mk (blk_below (g := gb171) (o := .cells #[.int .i64 0, .int .i64 0, .int .i64 0, .int .i64 0, .string (⟨#[]⟩ : ByteArray), .int .i64 0, .int .i64 0, .string (⟨#[]⟩ : ByteArray)] 30 (0, 0)) (by (with_reducible repeat (first | refine blk_drewN ?_ _ | refine blk_drew ?_ | refine blk_alloc ?_ _)); exact BK171.out) hb)
                      have n2_ := Aside0.mk (blk_below (g := gb178) (o := .cells #[.int .i64 (l0.length : Int), .int .i64 (wrap64 ((l0.length : Int) - (t173.length : Int))), .int .i64 ((rd_T24 t173 x6_1).f0), .int .i64 ((rd_T24 t173 x6_1).f1), .string ((rd_T24 t173 x6_1).f2), .int .i64 x179005_1, .int .i64 x179006_1, .string x179007_1] 30 (0, 0)) (by (with_reducible repeat (first | refine blk_drewN ?_ _ | refine blk_drew ?_ | refine blk_alloc ?_ _)); exact BK178.out) hb)
                      have n3_ := Aside0.mk (below_step (by repeat (first | (with_reducible first | exact HB.out | apply below_alloc | apply pw_below_drewN | apply below_drew1 | refine below_set ?_ GE171.out | refine below_set ?_ GE178.out) | exact HB.out)) hb)
                      clear HO_4
                      clear BK171
                      clear BK178
                      clear HB
                      have HO_4 := n0_
                      have BK171 := n1_
                      have BK178 := n2_
                      have HB := n3_
                      clear n0_ n1_ n2_ n3_
                      (try clear hb)
                      (try clear hb2)
                      (try clear hk)
                      (try clear hi)
                      refine hK.out _ _ ⟨(blk_cell BK178.out 0).trans rfl, (blk_cell BK178.out 1).trans rfl, (blk_cell BK178.out 2).trans rfl, (blk_cell BK178.out 3).trans rfl, (blk_cell BK178.out 4).trans rfl, (blk_cell BK178.out 5).trans rfl, (blk_cell BK178.out 6).trans rfl, (blk_cell BK178.out 7).trans rfl, HS8_, HS9_, HS10_⟩ (fun hHeld => ?_)
                      clear hK K
                      refine norm_ (a' := ?_) ?_ ?_
                      rotate_left
                      · show Act.put _ (some 52) _ = _
                        simp only [Act.put, List.setIfInBounds_toArray, List.set_cons_zero, List.set_cons_succ, i64_w, i32_w]
                        rfl
                      refine pure_ (i := 10) (N := some 53) (v := ?_) (a' := ?_) #[true, true, true, true, true, true, true, true, true, true, true, false] rfl rfl (any_of HT_.out (by kernel_rfl)) (fun _ _ _ h => h) (Or.inl ⟨by rfl, ?_⟩) ?_ ?_
                      rotate_left
                      · intro w'
                        go_simp
                        with_reducible rfl
                      rotate_left
                      · simp only [Act.put, List.setIfInBounds_toArray, List.set_cons_zero, List.set_cons_succ, i64_w, i32_w]
                        rfl
                      refine pure_ (i := 11) (N := some 54) (v := ?_) (a' := ?_) #[true, true, true, true, true, true, true, true, true, true, true, true] rfl rfl (any_of HT_.out (by kernel_rfl)) (fun _ _ _ h => h) (Or.inl ⟨by rfl, ?_⟩) ?_ ?_
                      rotate_left
                      · intro w'
                        go_simp
                        with_reducible rfl
                      rotate_left
                      · simp only [Act.put, List.setIfInBounds_toArray, List.set_cons_zero, List.set_cons_succ, i64_w, i32_w]
                        rfl
                      refine done_ (done_of HT_.out (by kernel_rfl)) ?_
                      try go_wp2
                      go_roundg kj9
                      case measure => have := HK1.out; have := HJ9.out; omega
                      case rel => exact ⟨(wrap64 (x6_1 + 1)), ((rd_T24 t173 x6_1).f0), ((rd_T24 t173 x6_1).f1), ((rd_T24 t173 x6_1).f2), (x179005_1), (x179006_1), (x179007_1), (by first | rfl | (simp; done) | (simp [*]; done)), H', ⟨by have := HK1.out; have := HJ9.out; omega⟩, ⟨by (with_reducible repeat (first | apply Kd.R_alloc | apply Kd.R_drewN | apply Kd.R_drew)); exact HO_4.out⟩, ⟨by (with_reducible repeat (first | refine blk_drewN ?_ _ | refine blk_drew ?_ | refine blk_alloc ?_ _)); exact BK171.out⟩, ⟨by (with_reducible repeat (first | refine blk_drewN ?_ _ | refine blk_drew ?_ | refine blk_alloc ?_ _)); exact BK178.out⟩, ⟨by repeat (first | (with_reducible first | exact HB.out | apply below_alloc | apply pw_below_drewN | apply below_drew1 | refine below_set ?_ GE171.out | refine below_set ?_ GE178.out) | exact HB.out)⟩⟩
                · rw [if_neg c19] at H
                  exact absurd H (by simp)
              · rw [if_neg c18] at H
                exact absurd H (by simp)
            · replace c17 := Bool.eq_false_iff.mpr c17
              subst c17
              have H1 : (if x6_1 = 0 then (if 0 ≤ x6_1 then (if x6_1 < (t173.length : Int) then (ref11_Zone.l0 kj9 t173 (wrap64 (x6_1 + 1)) (l0.length : Int) (wrap64 ((l0.length : Int) - (t173.length : Int))) x179002_1 x179003_1 x179004_1 ((rd_T24 t173 x6_1).f0) ((rd_T24 t173 x6_1).f1) ((rd_T24 t173 x6_1).f2)) else (none)) else (none)) else (if 0 ≤ x6_1 then (if x6_1 < (t173.length : Int) then ((ref05_Compare.f kj9 ((rd_T24 t173 x6_1).f0) ((rd_T24 t173 x6_1).f1) ((rd_T24 t173 x6_1).f2) x179005_1 x179006_1 x179007_1).bind fun t188 => (if t188 > 0 then (ref11_Zone.l0 kj9 t173 (wrap64 (x6_1 + 1)) (l0.length : Int) (wrap64 ((l0.length : Int) - (t173.length : Int))) x179002_1 x179003_1 x179004_1 ((rd_T24 t173 x6_1).f0) ((rd_T24 t173 x6_1).f1) ((rd_T24 t173 x6_1).f2)) else (ref11_Zone.l0 kj9 t173 (wrap64 (x6_1 + 1)) (l0.length : Int) (wrap64 ((l0.length : Int) - (t173.length : Int))) x179002_1 x179003_1 x179004_1 x179005_1 x179006_1 x179007_1))) else (none)) else (none))) = some (r1, r2, r3, r4, r5, r6, r7, r8) := by rw [if_neg (show ¬ (false = true) by decide)] at H; exact H
              clear H
              have H := H1
              clear H1
              by_cases c39 : x6_1 = 0
              · rw [if_pos c39] at H
                have c39b0 : (x6_1 == 0) = true := beq_iff_eq.mpr c39
                have c39b1 : (x6_1 != 0) = false := bne_eq_false_iff_eq.mpr c39
                clear c39
                by_cases c40 : 0 ≤ x6_1
                · rw [if_pos c40] at H
                  have c40b0 : decide (0 ≤ x6_1) = true := decide_eq_true c40
                  clear c40
                  by_cases c41 : x6_1 < (t173.length : Int)
                  · rw [if_pos c41] at H
                    have c41b0 : decide (x6_1 < (t173.length : Int)) = true := decide_eq_true c41
                    clear c41
                    have H' := Aside0.mk H
                    clear H
                    try go_wp2
                    have n0_ := Aside0.mk (Kd.R_drew HO_4.out)
                    have n1_ := Aside0.mk (blk_drew BK171.out)
                    have n2_ := Aside0.mk (blk_drew BK178.out)
                    have n3_ := Aside0.mk (below_drew1 HB.out)
                    clear HO_4
                    clear BK171
                    clear BK178
                    clear HB
                    have HO_4 := n0_
                    have BK171 := n1_
                    have BK178 := n2_
                    have HB := n3_
                    clear n0_ n1_ n2_ n3_
                    refine start_ (n := 12) (S := fun w' => True) (ds := []) #[false, false, false, false, false, false, false, false, false, false, false, false] (by kernel_rfl) rfl rfl trivial (fun hHeld => ?_); refine with_tabW ref11_Zone.tab8 ref11_Zone.bits8 (fun HT_ HW_ => ?_)
                    generalize wc.drew = w42 at HO_4 BK171 BK178 HB hHeld ⊢
                    refine pure_ (i := 0) (N := some 43) (v := ?_) (a' := ?_) #[true, false, false, false, false, false, false, false, false, false, false, false] rfl rfl (any_of HT_.out (by kernel_rfl)) (fun _ _ _ h => h) (Or.inl ⟨by rfl, ?_⟩) ?_ ?_
                    rotate_left
                    · intro w'
                      go_simp
                      with_reducible rfl
                    rotate_left
                    · simp only [Act.put, List.setIfInBounds_toArray, List.set_cons_zero, List.set_cons_succ, i64_w, i32_w]
                      rfl
                    refine pure_ (i := 1) (N := some 44) (v := ?_) (a' := ?_) #[true, true, false, false, false, false, false, false, false, false, false, false] rfl rfl (any_of HT_.out (by kernel_rfl)) (fun _ _ _ h => h) (Or.inl ⟨by rfl, ?_⟩) ?_ ?_
                    rotate_left
                    · intro w'
                      go_simp
                      with_reducible rfl
                    rotate_left
                    · simp only [Act.put, List.setIfInBounds_toArray, List.set_cons_zero, List.set_cons_succ, i64_w, i32_w]
                      rfl
                    refine pure_ (i := 2) (N := some 45) (v := ?_) (a' := ?_) #[true, true, true, false, false, false, false, false, false, false, false, false] rfl rfl (any_of HT_.out (by kernel_rfl)) (fun _ _ _ h => h) (Or.inl ⟨by rfl, ?_⟩) ?_ ?_
                    rotate_left
                    · intro w'
                      go_simp
                      with_reducible rfl
                    rotate_left
                    · simp only [Act.put, List.setIfInBounds_toArray, List.set_cons_zero, List.set_cons_succ, i64_w, i32_w]
                      rfl
                    refine pure_ (i := 3) (N := some 46) (v := undef) (a' := ?_) #[true, true, true, true, false, false, false, false, false, false, false, false] rfl rfl (any_of HT_.out (by kernel_rfl)) (fun _ _ _ h => h) (Or.inr ⟨by rfl, rfl⟩) ?_ ?_
                    rotate_left
                    · simp only [Act.put, List.setIfInBounds_toArray, List.set_cons_zero, List.set_cons_succ, i64_w, i32_w]
                      rfl
                    refine pure_ (i := 4) (N := some 47) (v := undef) (a' := ?_) #[true, true, true, true, true, false, false, false, false, false, false, false] rfl rfl (any_of HT_.out (by kernel_rfl)) (fun _ _ _ h => h) (Or.inr ⟨by rfl, rfl⟩) ?_ ?_
                    rotate_left
                    · simp only [Act.put, List.setIfInBounds_toArray, List.set_cons_zero, List.set_cons_succ, i64_w, i32_w]
                      rfl
                    refine pure_ (i := 5) (N := some 48) (v := undef) (a' := ?_) #[true, true, true, true, true, true, false, false, false, false, false, false] rfl rfl (any_of HT_.out (by kernel_rfl)) (fun _ _ _ h => h) (Or.inr ⟨by rfl, rfl⟩) ?_ ?_
                    rotate_left
                    · simp only [Act.put, List.setIfInBounds_toArray, List.set_cons_zero, List.set_cons_succ, i64_w, i32_w]
                      rfl
                    refine pure_ (i := 6) (N := some 49) (v := undef) (a' := ?_) #[true, true, true, true, true, true, true, false, false, false, false, false] rfl rfl (any_of HT_.out (by kernel_rfl)) (fun _ _ _ h => h) (Or.inr ⟨by rfl, rfl⟩) ?_ ?_
                    rotate_left
                    · simp only [Act.put, List.setIfInBounds_toArray, List.set_cons_zero, List.set_cons_succ, i64_w, i32_w]
                      rfl
                    refine pure_ (i := 7) (N := some 50) (v := undef) (a' := ?_) #[true, true, true, true, true, true, true, true, false, false, false, false] rfl rfl (any_of HT_.out (by kernel_rfl)) (fun _ _ _ h => h) (Or.inr ⟨by rfl, rfl⟩) ?_ ?_
                    rotate_left
                    · simp only [Act.put, List.setIfInBounds_toArray, List.set_cons_zero, List.set_cons_succ, i64_w, i32_w]
                      rfl
                    refine pure_ (i := 8) (N := some 51) (v := undef) (a' := ?_) #[true, true, true, true, true, true, true, true, true, false, false, false] rfl rfl (any_of HT_.out (by kernel_rfl)) (fun _ _ _ h => h) (Or.inr ⟨by rfl, rfl⟩) ?_ ?_
                    rotate_left
                    · simp only [Act.put, List.setIfInBounds_toArray, List.set_cons_zero, List.set_cons_succ, i64_w, i32_w]
                      rfl
                    refine pure_ (i := 9) (N := some 52) (v := undef) (a' := ?_) #[true, true, true, true, true, true, true, true, true, true, false, false] rfl rfl (any_of HT_.out (by kernel_rfl)) (fun _ _ _ h => h) (Or.inr ⟨by rfl, rfl⟩) ?_ ?_
                    rotate_left
                    · simp only [Act.put, List.setIfInBounds_toArray, List.set_cons_zero, List.set_cons_succ, i64_w, i32_w]
                      rfl
                    refine pure_ (i := 10) (N := some 53) (v := undef) (a' := ?_) #[true, true, true, true, true, true, true, true, true, true, true, false] rfl rfl (any_of HT_.out (by kernel_rfl)) (fun _ _ _ h => h) (Or.inr ⟨by rfl, rfl⟩) ?_ ?_
                    rotate_left
                    · simp only [Act.put, List.setIfInBounds_toArray, List.set_cons_zero, List.set_cons_succ, i64_w, i32_w]
                      rfl
                    refine pure_ (i := 11) (N := some 54) (v := ?_) (a' := ?_) #[true, true, true, true, true, true, true, true, true, true, true, true] rfl rfl (any_of HT_.out (by kernel_rfl)) (fun _ _ _ h => h) (Or.inl ⟨by rfl, ?_⟩) ?_ ?_
                    rotate_left
                    · intro w'
                      go_simp
                      with_reducible rfl
                    rotate_left
                    · simp only [Act.put, List.setIfInBounds_toArray, List.set_cons_zero, List.set_cons_succ, i64_w, i32_w]
                      rfl
                    refine done_ (done_of HT_.out (by kernel_rfl)) ?_
                    have p186 : 0 ≤ (x6_1 : Int) := of_decide_eq_true (by first | (with_reducible assumption) | assumption)
                    have q186 : x6_1 < (t173.length : Int) := of_decide_eq_true (by first | (with_reducible assumption) | assumption)
                    obtain ⟨ad186, e186, hx186_0, hx186_1, hx186_2⟩ := at_T24 (Kd.R_reads' HO_4.out).2.2 x6_1 p186 q186
                    cases e186
                    replace p186 := eq_true p186
                    replace q186 := eq_true q186
                    have hnb43 := NB178_171.out
                    have hnc43 := NB171_178.out
                    have hcz44_0 : w42.cell? ⟨gb178, 0, none⟩ = some (.int .i64 (l0.length : Int)) := (blk_cell BK178.out 0).trans rfl
                    have hcz44_1 : w42.cell? ⟨gb178, 1, none⟩ = some (.int .i64 (wrap64 ((l0.length : Int) - (t173.length : Int)))) := (blk_cell BK178.out 1).trans rfl
                    have hcz44_2 : w42.cell? ⟨gb178, 2, none⟩ = some (.int .i64 x179002_1) := (blk_cell BK178.out 2).trans rfl
                    have hcz44_3 : w42.cell? ⟨gb178, 3, none⟩ = some (.int .i64 x179003_1) := (blk_cell BK178.out 3).trans rfl
                    have hcz44_4 : w42.cell? ⟨gb178, 4, none⟩ = some (.string x179004_1) := (blk_cell BK178.out 4).trans rfl
                    have hcz44_5 : w42.cell? ⟨gb178, 5, none⟩ = some (.int .i64 x179005_1) := (blk_cell BK178.out 5).trans rfl
                    have hcz44_6 : w42.cell? ⟨gb178, 6, none⟩ = some (.int .i64 x179006_1) := (blk_cell BK178.out 6).trans rfl
                    have hcz44_7 : w42.cell? ⟨gb178, 7, none⟩ = some (.string x179007_1) := (blk_cell BK178.out 7).trans rfl
                    have hfz44_0 := blk_frozen BK178.out 0
                    have hfz44_1 := blk_frozen BK178.out 1
                    have hfz44_2 := blk_frozen BK178.out 2
                    have hfz44_3 := blk_frozen BK178.out 3
                    have hfz44_4 := blk_frozen BK178.out 4
                    have hfz44_5 := blk_frozen BK178.out 5
                    have hfz44_6 := blk_frozen BK178.out 6
                    have hfz44_7 := blk_frozen BK178.out 7
                    try go_wp2
                    go_roundg kj9
                    case measure => have := HK1.out; have := HJ9.out; omega
                    case rel => exact ⟨(wrap64 (x6_1 + 1)), (x179002_1), (x179003_1), (x179004_1), ((rd_T24 t173 x6_1).f0), ((rd_T24 t173 x6_1).f1), ((rd_T24 t173 x6_1).f2), (by first | rfl | (simp; done) | (simp [*]; done)), H', ⟨by have := HK1.out; have := HJ9.out; omega⟩, ⟨by (with_reducible repeat (first | apply Kd.R_alloc | apply Kd.R_drewN | apply Kd.R_drew)); exact Kd.R_mono (Kd.R_far (p := ⟨gb178, 7, none⟩) (Kd.R_far (p := ⟨gb178, 6, none⟩) (Kd.R_far (p := ⟨gb178, 5, none⟩) (Kd.R_types HO_4.out BK178.out (by decide)) (fun _ hk => hk.2) (.int .i64 ((rd_T24 t173 x6_1).f0))) (fun _ hk => hk.2) (.int .i64 ((rd_T24 t173 x6_1).f1))) (fun _ hk => hk.2) (.string ((rd_T24 t173 x6_1).f2))) (fun _ hk => trivial)⟩, ⟨by (with_reducible repeat (first | refine blk_drewN ?_ _ | refine blk_drew ?_ | refine blk_alloc ?_ _)); refine blk_far ?_ NB171_178.out _; (with_reducible repeat (first | refine blk_drewN ?_ _ | refine blk_drew ?_ | refine blk_alloc ?_ _)); refine blk_far ?_ NB171_178.out _; (with_reducible repeat (first | refine blk_drewN ?_ _ | refine blk_drew ?_ | refine blk_alloc ?_ _)); refine blk_far ?_ NB171_178.out _; (with_reducible repeat (first | refine blk_drewN ?_ _ | refine blk_drew ?_ | refine blk_alloc ?_ _)); exact BK171.out⟩, ⟨by (with_reducible repeat (first | refine blk_drewN ?_ _ | refine blk_drew ?_ | refine blk_alloc ?_ _)); refine blk_put (cs := #[.int .i64 (l0.length : Int), .int .i64 (wrap64 ((l0.length : Int) - (t173.length : Int))), .int .i64 x179002_1, .int .i64 x179003_1, .string x179004_1, .int .i64 ((rd_T24 t173 x6_1).f0), .int .i64 ((rd_T24 t173 x6_1).f1), .string x179007_1]) ?_ 7 _ rfl; (with_reducible repeat (first | refine blk_drewN ?_ _ | refine blk_drew ?_ | refine blk_alloc ?_ _)); refine blk_put (cs := #[.int .i64 (l0.length : Int), .int .i64 (wrap64 ((l0.length : Int) - (t173.length : Int))), .int .i64 x179002_1, .int .i64 x179003_1, .string x179004_1, .int .i64 ((rd_T24 t173 x6_1).f0), .int .i64 x179006_1, .string x179007_1]) ?_ 6 _ rfl; (with_reducible repeat (first | refine blk_drewN ?_ _ | refine blk_drew ?_ | refine blk_alloc ?_ _)); refine blk_put (cs := #[.int .i64 (l0.length : Int), .int .i64 (wrap64 ((l0.length : Int) - (t173.length : Int))), .int .i64 x179002_1, .int .i64 x179003_1, .string x179004_1, .int .i64 x179005_1, .int .i64 x179006_1, .string x179007_1]) ?_ 5 _ rfl; (with_reducible repeat (first | refine blk_drewN ?_ _ | refine blk_drew ?_ | refine blk_alloc ?_ _)); exact BK178.out⟩, ⟨by repeat (first | (with_reducible first | exact HB.out | apply below_alloc | apply pw_below_drewN | apply below_drew1 | refine below_set ?_ GE171.out | refine below_set ?_ GE178.out) | exact HB.out)⟩⟩
                  · rw [if_neg c41] at H
                    exact absurd H (by simp)
                · rw [if_neg c40] at H
                  exact absurd H (by simp)
              · rw [if_neg c39] at H
                have c39b0 : (x6_1 == 0) = false := beq_eq_false_iff_ne.mpr c39
                have c39b1 : (x6_1 != 0) = true := bne_iff_ne.mpr c39
                by_cases c45 : 0 ≤ x6_1
                · rw [if_pos c45] at H
                  have c45b0 : decide (0 ≤ x6_1) = true := decide_eq_true c45
                  clear c45
                  by_cases c46 : x6_1 < (t173.length : Int)
                  · rw [if_pos c46] at H
                    have c46b0 : decide (x6_1 < (t173.length : Int)) = true := decide_eq_true c46
                    clear c46
                    replace H := Option.bind_eq_some_iff.mp H
                    obtain ⟨t188, A470, H⟩ := H
                    replace H : (if t188 > 0 then (ref11_Zone.l0 kj9 t173 (wrap64 (x6_1 + 1)) (l0.length : Int) (wrap64 ((l0.length : Int) - (t173.length : Int))) x179002_1 x179003_1 x179004_1 ((rd_T24 t173 x6_1).f0) ((rd_T24 t173 x6_1).f1) ((rd_T24 t173 x6_1).f2)) else (ref11_Zone.l0 kj9 t173 (wrap64 (x6_1 + 1)) (l0.length : Int) (wrap64 ((l0.length : Int) - (t173.length : Int))) x179002_1 x179003_1 x179004_1 x179005_1 x179006_1 x179007_1)) = some (r1, r2, r3, r4, r5, r6, r7, r8) := H
                    have A47 := Aside0.mk A470
                    clear A470
                    by_cases c48 : t188 > 0
                    · rw [if_pos c48] at H
                      have c48b0 : decide (0 < t188) = true := decide_eq_true c48
                      clear c48
                      have H' := Aside0.mk H
                      clear H
                      try go_wp2
                      have n0_ := Aside0.mk (Kd.R_drew HO_4.out)
                      have n1_ := Aside0.mk (blk_drew BK171.out)
                      have n2_ := Aside0.mk (blk_drew BK178.out)
                      have n3_ := Aside0.mk (below_drew1 HB.out)
                      clear HO_4
                      clear BK171
                      clear BK178
                      clear HB
                      have HO_4 := n0_
                      have BK171 := n1_
                      have BK178 := n2_
                      have HB := n3_
                      clear n0_ n1_ n2_ n3_
                      have p187 : 0 ≤ (x6_1 : Int) := of_decide_eq_true (by first | (with_reducible assumption) | assumption)
                      have q187 : x6_1 < (t173.length : Int) := of_decide_eq_true (by first | (with_reducible assumption) | assumption)
                      obtain ⟨ad187, e187, hx187_0, hx187_1, hx187_2⟩ := at_T24 (Kd.R_reads' HO_4.out).2.2 x6_1 p187 q187
                      cases e187
                      replace p187 := eq_true p187
                      replace q187 := eq_true q187
                      refine start_ (n := 12) (S := fun w' => w'.cell? ⟨gb178, 0, none⟩ = some (.int .i64 (l0.length : Int)) ∧ w'.cell? ⟨gb178, 1, none⟩ = some (.int .i64 (wrap64 ((l0.length : Int) - (t173.length : Int)))) ∧ w'.cell? ⟨gb178, 2, none⟩ = some (.int .i64 x179002_1) ∧ w'.cell? ⟨gb178, 3, none⟩ = some (.int .i64 x179003_1) ∧ w'.cell? ⟨gb178, 4, none⟩ = some (.string x179004_1) ∧ w'.cell? ⟨gb178, 5, none⟩ = some (.int .i64 x179005_1) ∧ w'.cell? ⟨gb178, 6, none⟩ = some (.int .i64 x179006_1) ∧ w'.cell? ⟨gb178, 7, none⟩ = some (.string x179007_1) ∧ w'.cell? (ad187.add ((x6_1).toNat * 3)) = some (.int .i64 ((rd_T24 t173 x6_1).f0)) ∧ w'.cell? ⟨(ad187.add ((x6_1).toNat * 3)).block, (ad187.add ((x6_1).toNat * 3)).off + 1, none⟩ = some (.int .i64 ((rd_T24 t173 x6_1).f1)) ∧ w'.cell? ⟨(ad187.add ((x6_1).toNat * 3)).block, (ad187.add ((x6_1).toNat * 3)).off + 2, none⟩ = some (.string ((rd_T24 t173 x6_1).f2))) (ds := []) #[false, false, false, false, false, false, false, false, false, false, false, false] (by kernel_rfl) rfl rfl ⟨(blk_cell BK178.out 0).trans rfl, (blk_cell BK178.out 1).trans rfl, (blk_cell BK178.out 2).trans rfl, (blk_cell BK178.out 3).trans rfl, (blk_cell BK178.out 4).trans rfl, (blk_cell BK178.out 5).trans rfl, (blk_cell BK178.out 6).trans rfl, (blk_cell BK178.out 7).trans rfl, hx187_0, hx187_1, hx187_2⟩ (fun hHeld => ?_); refine with_tabW ref11_Zone.tab8 ref11_Zone.bits8 (fun HT_ HW_ => ?_)
                      generalize wc.drew = w49 at HO_4 BK171 BK178 HB hx187_0 hx187_1 hx187_2 hHeld ⊢
                      refine pure_ (i := 0) (N := some 43) (v := ?_) (a' := ?_) #[true, false, false, false, false, false, false, false, false, false, false, false] rfl rfl (any_of HT_.out (by kernel_rfl)) (fun _ _ _ h => h) (Or.inl ⟨by rfl, ?_⟩) ?_ ?_
                      rotate_left
                      · intro w'
                        go_simp
                        with_reducible rfl
                      rotate_left
                      · simp only [Act.put, List.setIfInBounds_toArray, List.set_cons_zero, List.set_cons_succ, i64_w, i32_w]
                        rfl
                      refine pure_ (i := 1) (N := some 44) (v := ?_) (a' := ?_) #[true, true, false, false, false, false, false, false, false, false, false, false] rfl rfl (any_of HT_.out (by kernel_rfl)) (fun _ _ _ h => h) (Or.inl ⟨by rfl, ?_⟩) ?_ ?_
                      rotate_left
                      · intro w'
                        go_simp
                        with_reducible rfl
                      rotate_left
                      · simp only [Act.put, List.setIfInBounds_toArray, List.set_cons_zero, List.set_cons_succ, i64_w, i32_w]
                        rfl
                      refine pure_ (i := 2) (N := some 45) (v := ?_) (a' := ?_) #[true, true, true, false, false, false, false, false, false, false, false, false] rfl rfl (any_of HT_.out (by kernel_rfl)) (fun _ _ _ h => h) (Or.inl ⟨by rfl, ?_⟩) ?_ ?_
                      rotate_left
                      · intro w'
                        go_simp
                        with_reducible rfl
                      rotate_left
                      · simp only [Act.put, List.setIfInBounds_toArray, List.set_cons_zero, List.set_cons_succ, i64_w, i32_w]
                        rfl
                      refine pure_ (i := 3) (N := some 46) (v := ?_) (a' := ?_) #[true, true, true, true, false, false, false, false, false, false, false, false] rfl rfl (any_of HT_.out (by kernel_rfl)) (fun _ _ _ h => h) (Or.inl ⟨by rfl, ?_⟩) ?_ ?_
                      rotate_left
                      · intro w'
                        go_simp
                        with_reducible rfl
                      rotate_left
                      · simp only [Act.put, List.setIfInBounds_toArray, List.set_cons_zero, List.set_cons_succ, i64_w, i32_w]
                        rfl
                      refine pure_ (i := 4) (N := some 47) (v := ?_) (a' := ?_) #[true, true, true, true, true, false, false, false, false, false, false, false] rfl rfl (any_of HT_.out (by kernel_rfl)) (fun _ _ _ h => h) (Or.inl ⟨by rfl, ?_⟩) ?_ ?_
                      rotate_left
                      · intro w'
                        go_simp
                        with_reducible rfl
                      rotate_left
                      · simp only [Act.put, List.setIfInBounds_toArray, List.set_cons_zero, List.set_cons_succ, i64_w, i32_w]
                        rfl
                      refine pure_ (i := 5) (N := some 48) (v := ?_) (a' := ?_) #[true, true, true, true, true, true, false, false, false, false, false, false] rfl rfl (any_of HT_.out (by kernel_rfl)) (fun _ _ _ h => h) (Or.inl ⟨by rfl, ?_⟩) ?_ ?_
                      rotate_left
                      · intro w'
                        go_simp
                        with_reducible rfl
                      rotate_left
                      · simp only [Act.put, List.setIfInBounds_toArray, List.set_cons_zero, List.set_cons_succ, i64_w, i32_w]
                        rfl
                      refine pure_ (i := 7) (N := some 50) (v := ?_) (a' := ?_) #[true, true, true, true, true, true, false, true, false, false, false, false] rfl rfl (any_of HT_.out (by kernel_rfl)) (fun _ _ _ h => h) (Or.inl ⟨by rfl, ?_⟩) ?_ ?_
                      rotate_left
                      · intro w'
                        go_simp
                        with_reducible rfl
                      rotate_left
                      · simp only [Act.put, List.setIfInBounds_toArray, List.set_cons_zero, List.set_cons_succ, i64_w, i32_w]
                        rfl
                      refine take_ (i := 6) (N := some 49) (v := ?_) (a' := ?_) #[true, true, true, true, true, true, true, true, false, false, false, false] rfl rfl (take_ofW HT_.out HW_.out (by kernel_rfl)) (fun _ _ _ h => h) (Or.inl ⟨by rfl, ?_⟩) hHeld ?_ ?_
                      rotate_left
                      · rintro w' ⟨s0, s1, s2, s3, s4, s5, s6, s7, s8, s9, s10⟩
                        go_simp
                        with_reducible rfl
                      rotate_left
                      · simp only [Act.put, List.setIfInBounds_toArray, List.set_cons_zero, List.set_cons_succ, i64_w, i32_w]
                        rfl
                      refine take_ (i := 8) (N := some 51) (v := ?_) (a' := ?_) #[true, true, true, true, true, true, true, true, true, false, false, false] rfl rfl (take_ofW HT_.out HW_.out (by kernel_rfl)) (fun _ _ _ h => h) (Or.inl ⟨by rfl, ?_⟩) hHeld ?_ ?_
                      rotate_left
                      · rintro w' ⟨s0, s1, s2, s3, s4, s5, s6, s7, s8, s9, s10⟩
                        go_simp
                        with_reducible rfl
                      rotate_left
                      · simp only [Act.put, List.setIfInBounds_toArray, List.set_cons_zero, List.set_cons_succ, i64_w, i32_w]
                        rfl
                      refine one_ (i := 9) (N := some 52) #[true, true, true, true, true, true, true, true, true, true, false, false] rfl rfl (one_of HT_.out (by kernel_rfl)) (by decide) (fun K hK => ?_)
                      refine goes_ Try.func18 (by kernel_rfl) rfl #[.agg #[.int .i64 ((rd_T24 t173 x6_1).f0), .int .i64 ((rd_T24 t173 x6_1).f1), .string ((rd_T24 t173 x6_1).f2)], .agg #[.int .i64 x179005_1, .int .i64 x179006_1, .string x179007_1]] (by rfl) rfl rfl (by (try simp only [List.map_toArray, List.map_cons, List.map_nil]); first | done | rfl | (simp only [List.length_drop, List.length_take]; rfl)) ?_
                      with_reducible refine (ref05_Compare.calls kj9 ((rd_T24 t173 x6_1).f0) ((rd_T24 t173 x6_1).f1) ((rd_T24 t173 x6_1).f2) x179005_1 x179006_1 x179007_1 t188 _ A47.out).mono ?_
                      rintro e w50 ⟨rfl, hb⟩
                      have HS8_ := (hb.cell (World.block_lt_of_cell? _ _ (hHeld.2.2.2.2.2.2.2.2.1))).trans (hHeld.2.2.2.2.2.2.2.2.1)
                      have HS9_ := (hb.cell (World.block_lt_of_cell? _ _ (hHeld.2.2.2.2.2.2.2.2.2.1))).trans (hHeld.2.2.2.2.2.2.2.2.2.1)
                      have HS10_ := (hb.cell (World.block_lt_of_cell? _ _ (hHeld.2.2.2.2.2.2.2.2.2.2))).trans (hHeld.2.2.2.2.2.2.2.2.2.2)
                      refine ⟨_, rfl, ?_⟩
                      have n0_ := Aside0.mk (Kd.R_below (by (with_reducible repeat (first | apply Kd.R_alloc | apply Kd.R_drewN | apply Kd.R_drew)); exact HO_4.out) hb)
                      have n1_ := Aside0.mk (blk_below (g := gb171) (o := .cells #[.int .i64 0, .int .i64 0, .int .i64 0, .int .i64 0, .string (⟨#[]⟩ : ByteArray), .int .i64 0, .int .i64 0, .string (⟨#[]⟩ : ByteArray)] 30 (0, 0)) (by (with_reducible repeat (first | refine blk_drewN ?_ _ | refine blk_drew ?_ | refine blk_alloc ?_ _)); exact BK171.out) hb)
                      have n2_ := Aside0.mk (blk_below (g := gb178) (o := .cells #[.int .i64 (l0.length : Int), .int .i64 (wrap64 ((l0.length : Int) - (t173.length : Int))), .int .i64 x179002_1, .int .i64 x179003_1, .string x179004_1, .int .i64 x179005_1, .int .i64 x179006_1, .string x179007_1] 30 (0, 0)) (by (with_reducible repeat (first | refine blk_drewN ?_ _ | refine blk_drew ?_ | refine blk_alloc ?_ _)); exact BK178.out) hb)
                      have n3_ := Aside0.mk (below_step (by repeat (first | (with_reducible first | exact HB.out | apply below_alloc | apply pw_below_drewN | apply below_drew1 | refine below_set ?_ GE171.out | refine below_set ?_ GE178.out) | exact HB.out)) hb)
                      clear HO_4
                      clear BK171
                      clear BK178
                      clear HB
                      have HO_4 := n0_
                      have BK171 := n1_
                      have BK178 := n2_
                      have HB := n3_
                      clear n0_ n1_ n2_ n3_
                      (try clear hb)
                      (try clear hb2)
                      (try clear hk)
                      (try clear hi)
                      refine hK.out _ _ ⟨(blk_cell BK178.out 0).trans rfl, (blk_cell BK178.out 1).trans rfl, (blk_cell BK178.out 2).trans rfl, (blk_cell BK178.out 3).trans rfl, (blk_cell BK178.out 4).trans rfl, (blk_cell BK178.out 5).trans rfl, (blk_cell BK178.out 6).trans rfl, (blk_cell BK178.out 7).trans rfl, HS8_, HS9_, HS10_⟩ (fun hHeld => ?_)
                      clear hK K
                      refine norm_ (a' := ?_) ?_ ?_
                      rotate_left
                      · show Act.put _ (some 52) _ = _
                        simp only [Act.put, List.setIfInBounds_toArray, List.set_cons_zero, List.set_cons_succ, i64_w, i32_w]
                        rfl
                      refine pure_ (i := 10) (N := some 53) (v := ?_) (a' := ?_) #[true, true, true, true, true, true, true, true, true, true, true, false] rfl rfl (any_of HT_.out (by kernel_rfl)) (fun _ _ _ h => h) (Or.inl ⟨by rfl, ?_⟩) ?_ ?_
                      rotate_left
                      · intro w'
                        go_simp
                        with_reducible rfl
                      rotate_left
                      · simp only [Act.put, List.setIfInBounds_toArray, List.set_cons_zero, List.set_cons_succ, i64_w, i32_w]
                        rfl
                      refine pure_ (i := 11) (N := some 54) (v := ?_) (a' := ?_) #[true, true, true, true, true, true, true, true, true, true, true, true] rfl rfl (any_of HT_.out (by kernel_rfl)) (fun _ _ _ h => h) (Or.inl ⟨by rfl, ?_⟩) ?_ ?_
                      rotate_left
                      · intro w'
                        go_simp
                        with_reducible rfl
                      rotate_left
                      · simp only [Act.put, List.setIfInBounds_toArray, List.set_cons_zero, List.set_cons_succ, i64_w, i32_w]
                        rfl
                      refine done_ (done_of HT_.out (by kernel_rfl)) ?_
                      have p189 : 0 ≤ (x6_1 : Int) := of_decide_eq_true (by first | (with_reducible assumption) | assumption)
                      have q189 : x6_1 < (t173.length : Int) := of_decide_eq_true (by first | (with_reducible assumption) | assumption)
                      obtain ⟨ad189, e189, hx189_0, hx189_1, hx189_2⟩ := at_T24 (Kd.R_reads' HO_4.out).2.2 x6_1 p189 q189
                      obtain rfl : ad187 = ad189 := (by injection e189)
                      replace p189 := eq_true p189
                      replace q189 := eq_true q189
                      have hnb51 := NB178_171.out
                      have hnc51 := NB171_178.out
                      have hcz52_0 : w50.cell? ⟨gb178, 0, none⟩ = some (.int .i64 (l0.length : Int)) := (blk_cell BK178.out 0).trans rfl
                      have hcz52_1 : w50.cell? ⟨gb178, 1, none⟩ = some (.int .i64 (wrap64 ((l0.length : Int) - (t173.length : Int)))) := (blk_cell BK178.out 1).trans rfl
                      have hcz52_2 : w50.cell? ⟨gb178, 2, none⟩ = some (.int .i64 x179002_1) := (blk_cell BK178.out 2).trans rfl
                      have hcz52_3 : w50.cell? ⟨gb178, 3, none⟩ = some (.int .i64 x179003_1) := (blk_cell BK178.out 3).trans rfl
                      have hcz52_4 : w50.cell? ⟨gb178, 4, none⟩ = some (.string x179004_1) := (blk_cell BK178.out 4).trans rfl
                      have hcz52_5 : w50.cell? ⟨gb178, 5, none⟩ = some (.int .i64 x179005_1) := (blk_cell BK178.out 5).trans rfl
                      have hcz52_6 : w50.cell? ⟨gb178, 6, none⟩ = some (.int .i64 x179006_1) := (blk_cell BK178.out 6).trans rfl
                      have hcz52_7 : w50.cell? ⟨gb178, 7, none⟩ = some (.string x179007_1) := (blk_cell BK178.out 7).trans rfl
                      have hfz52_0 := blk_frozen BK178.out 0
                      have hfz52_1 := blk_frozen BK178.out 1
                      have hfz52_2 := blk_frozen BK178.out 2
                      have hfz52_3 := blk_frozen BK178.out 3
                      have hfz52_4 := blk_frozen BK178.out 4
                      have hfz52_5 := blk_frozen BK178.out 5
                      have hfz52_6 := blk_frozen BK178.out 6
                      have hfz52_7 := blk_frozen BK178.out 7
                      try go_wp2
                      go_roundg kj9
                      case measure => have := HK1.out; have := HJ9.out; omega
                      case rel => exact ⟨(wrap64 (x6_1 + 1)), (x179002_1), (x179003_1), (x179004_1), ((rd_T24 t173 x6_1).f0), ((rd_T24 t173 x6_1).f1), ((rd_T24 t173 x6_1).f2), (by first | rfl | (simp; done) | (simp [*]; done)), H', ⟨by have := HK1.out; have := HJ9.out; omega⟩, ⟨by (with_reducible repeat (first | apply Kd.R_alloc | apply Kd.R_drewN | apply Kd.R_drew)); exact Kd.R_mono (Kd.R_far (p := ⟨gb178, 7, none⟩) (Kd.R_far (p := ⟨gb178, 6, none⟩) (Kd.R_far (p := ⟨gb178, 5, none⟩) (Kd.R_types HO_4.out BK178.out (by decide)) (fun _ hk => hk.2) (.int .i64 ((rd_T24 t173 x6_1).f0))) (fun _ hk => hk.2) (.int .i64 ((rd_T24 t173 x6_1).f1))) (fun _ hk => hk.2) (.string ((rd_T24 t173 x6_1).f2))) (fun _ hk => trivial)⟩, ⟨by (with_reducible repeat (first | refine blk_drewN ?_ _ | refine blk_drew ?_ | refine blk_alloc ?_ _)); refine blk_far ?_ NB171_178.out _; (with_reducible repeat (first | refine blk_drewN ?_ _ | refine blk_drew ?_ | refine blk_alloc ?_ _)); refine blk_far ?_ NB171_178.out _; (with_reducible repeat (first | refine blk_drewN ?_ _ | refine blk_drew ?_ | refine blk_alloc ?_ _)); refine blk_far ?_ NB171_178.out _; (with_reducible repeat (first | refine blk_drewN ?_ _ | refine blk_drew ?_ | refine blk_alloc ?_ _)); exact BK171.out⟩, ⟨by (with_reducible repeat (first | refine blk_drewN ?_ _ | refine blk_drew ?_ | refine blk_alloc ?_ _)); refine blk_put (cs := #[.int .i64 (l0.length : Int), .int .i64 (wrap64 ((l0.length : Int) - (t173.length : Int))), .int .i64 x179002_1, .int .i64 x179003_1, .string x179004_1, .int .i64 ((rd_T24 t173 x6_1).f0), .int .i64 ((rd_T24 t173 x6_1).f1), .string x179007_1]) ?_ 7 _ rfl; (with_reducible repeat (first | refine blk_drewN ?_ _ | refine blk_drew ?_ | refine blk_alloc ?_ _)); refine blk_put (cs := #[.int .i64 (l0.length : Int), .int .i64 (wrap64 ((l0.length : Int) - (t173.length : Int))), .int .i64 x179002_1, .int .i64 x179003_1, .string x179004_1, .int .i64 ((rd_T24 t173 x6_1).f0), .int .i64 x179006_1, .string x179007_1]) ?_ 6 _ rfl; (with_reducible repeat (first | refine blk_drewN ?_ _ | refine blk_drew ?_ | refine blk_alloc ?_ _)); refine blk_put (cs := #[.int .i64 (l0.length : Int), .int .i64 (wrap64 ((l0.length : Int) - (t173.length : Int))), .int .i64 x179002_1, .int .i64 x179003_1, .string x179004_1, .int .i64 x179005_1, .int .i64 x179006_1, .string x179007_1]) ?_ 5 _ rfl; (with_reducible repeat (first | refine blk_drewN ?_ _ | refine blk_drew ?_ | refine blk_alloc ?_ _)); exact BK178.out⟩, ⟨by repeat (first | (with_reducible first | exact HB.out | apply below_alloc | apply pw_below_drewN | apply below_drew1 | refine below_set ?_ GE171.out | refine below_set ?_ GE178.out) | exact HB.out)⟩⟩
                    · rw [if_neg c48] at H
                      have c48b0 : decide (0 < t188) = false := decide_eq_false c48
                      clear c48
                      have H' := Aside0.mk H
                      clear H
                      try go_wp2
                      have n0_ := Aside0.mk (Kd.R_drew HO_4.out)
                      have n1_ := Aside0.mk (blk_drew BK171.out)
                      have n2_ := Aside0.mk (blk_drew BK178.out)
                      have n3_ := Aside0.mk (below_drew1 HB.out)
                      clear HO_4
                      clear BK171
                      clear BK178
                      clear HB
                      have HO_4 := n0_
                      have BK171 := n1_
                      have BK178 := n2_
                      have HB := n3_
                      clear n0_ n1_ n2_ n3_
                      have p187 : 0 ≤ (x6_1 : Int) := of_decide_eq_true (by first | (with_reducible assumption) | assumption)
                      have q187 : x6_1 < (t173.length : Int) := of_decide_eq_true (by first | (with_reducible assumption) | assumption)
                      obtain ⟨ad187, e187, hx187_0, hx187_1, hx187_2⟩ := at_T24 (Kd.R_reads' HO_4.out).2.2 x6_1 p187 q187
                      cases e187
                      replace p187 := eq_true p187
                      replace q187 := eq_true q187
                      refine start_ (n := 12) (S := fun w' => w'.cell? ⟨gb178, 0, none⟩ = some (.int .i64 (l0.length : Int)) ∧ w'.cell? ⟨gb178, 1, none⟩ = some (.int .i64 (wrap64 ((l0.length : Int) - (t173.length : Int)))) ∧ w'.cell? ⟨gb178, 2, none⟩ = some (.int .i64 x179002_1) ∧ w'.cell? ⟨gb178, 3, none⟩ = some (.int .i64 x179003_1) ∧ w'.cell? ⟨gb178, 4, none⟩ = some (.string x179004_1) ∧ w'.cell? ⟨gb178, 5, none⟩ = some (.int .i64 x179005_1) ∧ w'.cell? ⟨gb178, 6, none⟩ = some (.int .i64 x179006_1) ∧ w'.cell? ⟨gb178, 7, none⟩ = some (.string x179007_1) ∧ w'.cell? (ad187.add ((x6_1).toNat * 3)) = some (.int .i64 ((rd_T24 t173 x6_1).f0)) ∧ w'.cell? ⟨(ad187.add ((x6_1).toNat * 3)).block, (ad187.add ((x6_1).toNat * 3)).off + 1, none⟩ = some (.int .i64 ((rd_T24 t173 x6_1).f1)) ∧ w'.cell? ⟨(ad187.add ((x6_1).toNat * 3)).block, (ad187.add ((x6_1).toNat * 3)).off + 2, none⟩ = some (.string ((rd_T24 t173 x6_1).f2))) (ds := []) #[false, false, false, false, false, false, false, false, false, false, false, false] (by kernel_rfl) rfl rfl ⟨(blk_cell BK178.out 0).trans rfl, (blk_cell BK178.out 1).trans rfl, (blk_cell BK178.out 2).trans rfl, (blk_cell BK178.out 3).trans rfl, (blk_cell BK178.out 4).trans rfl, (blk_cell BK178.out 5).trans rfl, (blk_cell BK178.out 6).trans rfl, (blk_cell BK178.out 7).trans rfl, hx187_0, hx187_1, hx187_2⟩ (fun hHeld => ?_); refine with_tabW ref11_Zone.tab8 ref11_Zone.bits8 (fun HT_ HW_ => ?_)
                      generalize wc.drew = w53 at HO_4 BK171 BK178 HB hx187_0 hx187_1 hx187_2 hHeld ⊢
                      refine pure_ (i := 0) (N := some 43) (v := ?_) (a' := ?_) #[true, false, false, false, false, false, false, false, false, false, false, false] rfl rfl (any_of HT_.out (by kernel_rfl)) (fun _ _ _ h => h) (Or.inl ⟨by rfl, ?_⟩) ?_ ?_
                      rotate_left
                      · intro w'
                        go_simp
                        with_reducible rfl
                      rotate_left
                      · simp only [Act.put, List.setIfInBounds_toArray, List.set_cons_zero, List.set_cons_succ, i64_w, i32_w]
                        rfl
                      refine pure_ (i := 1) (N := some 44) (v := ?_) (a' := ?_) #[true, true, false, false, false, false, false, false, false, false, false, false] rfl rfl (any_of HT_.out (by kernel_rfl)) (fun _ _ _ h => h) (Or.inl ⟨by rfl, ?_⟩) ?_ ?_
                      rotate_left
                      · intro w'
                        go_simp
                        with_reducible rfl
                      rotate_left
                      · simp only [Act.put, List.setIfInBounds_toArray, List.set_cons_zero, List.set_cons_succ, i64_w, i32_w]
                        rfl
                      refine pure_ (i := 2) (N := some 45) (v := ?_) (a' := ?_) #[true, true, true, false, false, false, false, false, false, false, false, false] rfl rfl (any_of HT_.out (by kernel_rfl)) (fun _ _ _ h => h) (Or.inl ⟨by rfl, ?_⟩) ?_ ?_
                      rotate_left
                      · intro w'
                        go_simp
                        with_reducible rfl
                      rotate_left
                      · simp only [Act.put, List.setIfInBounds_toArray, List.set_cons_zero, List.set_cons_succ, i64_w, i32_w]
                        rfl
                      refine pure_ (i := 3) (N := some 46) (v := ?_) (a' := ?_) #[true, true, true, true, false, false, false, false, false, false, false, false] rfl rfl (any_of HT_.out (by kernel_rfl)) (fun _ _ _ h => h) (Or.inl ⟨by rfl, ?_⟩) ?_ ?_
                      rotate_left
                      · intro w'
                        go_simp
                        with_reducible rfl
                      rotate_left
                      · simp only [Act.put, List.setIfInBounds_toArray, List.set_cons_zero, List.set_cons_succ, i64_w, i32_w]
                        rfl
                      refine pure_ (i := 4) (N := some 47) (v := ?_) (a' := ?_) #[true, true, true, true, true, false, false, false, false, false, false, false] rfl rfl (any_of HT_.out (by kernel_rfl)) (fun _ _ _ h => h) (Or.inl ⟨by rfl, ?_⟩) ?_ ?_
                      rotate_left
                      · intro w'
                        go_simp
                        with_reducible rfl
                      rotate_left
                      · simp only [Act.put, List.setIfInBounds_toArray, List.set_cons_zero, List.set_cons_succ, i64_w, i32_w]
                        rfl
                      refine pure_ (i := 5) (N := some 48) (v := ?_) (a' := ?_) #[true, true, true, true, true, true, false, false, false, false, false, false] rfl rfl (any_of HT_.out (by kernel_rfl)) (fun _ _ _ h => h) (Or.inl ⟨by rfl, ?_⟩) ?_ ?_
                      rotate_left
                      · intro w'
                        go_simp
                        with_reducible rfl
                      rotate_left
                      · simp only [Act.put, List.setIfInBounds_toArray, List.set_cons_zero, List.set_cons_succ, i64_w, i32_w]
                        rfl
                      refine pure_ (i := 7) (N := some 50) (v := ?_) (a' := ?_) #[true, true, true, true, true, true, false, true, false, false, false, false] rfl rfl (any_of HT_.out (by kernel_rfl)) (fun _ _ _ h => h) (Or.inl ⟨by rfl, ?_⟩) ?_ ?_
                      rotate_left
                      · intro w'
                        go_simp
                        with_reducible rfl
                      rotate_left
                      · simp only [Act.put, List.setIfInBounds_toArray, List.set_cons_zero, List.set_cons_succ, i64_w, i32_w]
                        rfl
                      refine take_ (i := 6) (N := some 49) (v := ?_) (a' := ?_) #[true, true, true, true, true, true, true, true, false, false, false, false] rfl rfl (take_ofW HT_.out HW_.out (by kernel_rfl)) (fun _ _ _ h => h) (Or.inl ⟨by rfl, ?_⟩) hHeld ?_ ?_
                      rotate_left
                      · rintro w' ⟨s0, s1, s2, s3, s4, s5, s6, s7, s8, s9, s10⟩
                        go_simp
                        with_reducible rfl
                      rotate_left
                      · simp only [Act.put, List.setIfInBounds_toArray, List.set_cons_zero, List.set_cons_succ, i64_w, i32_w]
                        rfl
                      refine take_ (i := 8) (N := some 51) (v := ?_) (a' := ?_) #[true, true, true, true, true, true, true, true, true, false, false, false] rfl rfl (take_ofW HT_.out HW_.out (by kernel_rfl)) (fun _ _ _ h => h) (Or.inl ⟨by rfl, ?_⟩) hHeld ?_ ?_
                      rotate_left
                      · rintro w' ⟨s0, s1, s2, s3, s4, s5, s6, s7, s8, s9, s10⟩
                        go_simp
                        with_reducible rfl
                      rotate_left
                      · simp only [Act.put, List.setIfInBounds_toArray, List.set_cons_zero, List.set_cons_succ, i64_w, i32_w]
                        rfl
                      refine one_ (i := 9) (N := some 52) #[true, true, true, true, true, true, true, true, true, true, false, false] rfl rfl (one_of HT_.out (by kernel_rfl)) (by decide) (fun K hK => ?_)
                      refine goes_ Try.func18 (by kernel_rfl) rfl #[.agg #[.int .i64 ((rd_T24 t173 x6_1).f0), .int .i64 ((rd_T24 t173 x6_1).f1), .string ((rd_T24 t173 x6_1).f2)], .agg #[.int .i64 x179005_1, .int .i64 x179006_1, .string x179007_1]] (by rfl) rfl rfl (by (try simp only [List.map_toArray, List.map_cons, List.map_nil]); first | done | rfl | (simp only [List.length_drop, List.length_take]; rfl)) ?_
                      with_reducible refine (ref05_Compare.calls kj9 ((rd_T24 t173 x6_1).f0) ((rd_T24 t173 x6_1).f1) ((rd_T24 t173 x6_1).f2) x179005_1 x179006_1 x179007_1 t188 _ A47.out).mono ?_
                      rintro e w54 ⟨rfl, hb⟩
                      have HS8_ := (hb.cell (World.block_lt_of_cell? _ _ (hHeld.2.2.2.2.2.2.2.2.1))).trans (hHeld.2.2.2.2.2.2.2.2.1)
                      have HS9_ := (hb.cell (World.block_lt_of_cell? _ _ (hHeld.2.2.2.2.2.2.2.2.2.1))).trans (hHeld.2.2.2.2.2.2.2.2.2.1)
                      have HS10_ := (hb.cell (World.block_lt_of_cell? _ _ (hHeld.2.2.2.2.2.2.2.2.2.2))).trans (hHeld.2.2.2.2.2.2.2.2.2.2)
                      refine ⟨_, rfl, ?_⟩
                      have n0_ := Aside0.mk (Kd.R_below (by (with_reducible repeat (first | apply Kd.R_alloc | apply Kd.R_drewN | apply Kd.R_drew)); exact HO_4.out) hb)
                      have n1_ := Aside0.mk (blk_below (g := gb171) (o := .cells #[.int .i64 0, .int .i64 0, .int .i64 0, .int .i64 0, .string (⟨#[]⟩ : ByteArray), .int .i64 0, .int .i64 0, .string (⟨#[]⟩ : ByteArray)] 30 (0, 0)) (by (with_reducible repeat (first | refine blk_drewN ?_ _ | refine blk_drew ?_ | refine blk_alloc ?_ _)); exact BK171.out) hb)
                      have n2_ := Aside0.mk (blk_below (g := gb178) (o := .cells #[.int .i64 (l0.length : Int), .int .i64 (wrap64 ((l0.length : Int) - (t173.length : Int))), .int .i64 x179002_1, .int .i64 x179003_1, .string x179004_1, .int .i64 x179005_1, .int .i64 x179006_1, .string x179007_1] 30 (0, 0)) (by (with_reducible repeat (first | refine blk_drewN ?_ _ | refine blk_drew ?_ | refine blk_alloc ?_ _)); exact BK178.out) hb)
                      have n3_ := Aside0.mk (below_step (by repeat (first | (with_reducible first | exact HB.out | apply below_alloc | apply pw_below_drewN | apply below_drew1 | refine below_set ?_ GE171.out | refine below_set ?_ GE178.out) | exact HB.out)) hb)
                      clear HO_4
                      clear BK171
                      clear BK178
                      clear HB
                      have HO_4 := n0_
                      have BK171 := n1_
                      have BK178 := n2_
                      have HB := n3_
                      clear n0_ n1_ n2_ n3_
                      (try clear hb)
                      (try clear hb2)
                      (try clear hk)
                      (try clear hi)
                      refine hK.out _ _ ⟨(blk_cell BK178.out 0).trans rfl, (blk_cell BK178.out 1).trans rfl, (blk_cell BK178.out 2).trans rfl, (blk_cell BK178.out 3).trans rfl, (blk_cell BK178.out 4).trans rfl, (blk_cell BK178.out 5).trans rfl, (blk_cell BK178.out 6).trans rfl, (blk_cell BK178.out 7).trans rfl, HS8_, HS9_, HS10_⟩ (fun hHeld => ?_)
                      clear hK K
                      refine norm_ (a' := ?_) ?_ ?_
                      rotate_left
                      · show Act.put _ (some 52) _ = _
                        simp only [Act.put, List.setIfInBounds_toArray, List.set_cons_zero, List.set_cons_succ, i64_w, i32_w]
                        rfl
                      refine pure_ (i := 10) (N := some 53) (v := ?_) (a' := ?_) #[true, true, true, true, true, true, true, true, true, true, true, false] rfl rfl (any_of HT_.out (by kernel_rfl)) (fun _ _ _ h => h) (Or.inl ⟨by rfl, ?_⟩) ?_ ?_
                      rotate_left
                      · intro w'
                        go_simp
                        with_reducible rfl
                      rotate_left
                      · simp only [Act.put, List.setIfInBounds_toArray, List.set_cons_zero, List.set_cons_succ, i64_w, i32_w]
                        rfl
                      refine pure_ (i := 11) (N := some 54) (v := ?_) (a' := ?_) #[true, true, true, true, true, true, true, true, true, true, true, true] rfl rfl (any_of HT_.out (by kernel_rfl)) (fun _ _ _ h => h) (Or.inl ⟨by rfl, ?_⟩) ?_ ?_
                      rotate_left
                      · intro w'
                        go_simp
                        with_reducible rfl
                      rotate_left
                      · simp only [Act.put, List.setIfInBounds_toArray, List.set_cons_zero, List.set_cons_succ, i64_w, i32_w]
                        rfl
                      refine done_ (done_of HT_.out (by kernel_rfl)) ?_
                      try go_wp2
                      go_roundg kj9
                      case measure => have := HK1.out; have := HJ9.out; omega
                      case rel => exact ⟨(wrap64 (x6_1 + 1)), (x179002_1), (x179003_1), (x179004_1), (x179005_1), (x179006_1), (x179007_1), (by first | rfl | (simp; done) | (simp [*]; done)), H', ⟨by have := HK1.out; have := HJ9.out; omega⟩, ⟨by (with_reducible repeat (first | apply Kd.R_alloc | apply Kd.R_drewN | apply Kd.R_drew)); exact HO_4.out⟩, ⟨by (with_reducible repeat (first | refine blk_drewN ?_ _ | refine blk_drew ?_ | refine blk_alloc ?_ _)); exact BK171.out⟩, ⟨by (with_reducible repeat (first | refine blk_drewN ?_ _ | refine blk_drew ?_ | refine blk_alloc ?_ _)); exact BK178.out⟩, ⟨by repeat (first | (with_reducible first | exact HB.out | apply below_alloc | apply pw_below_drewN | apply below_drew1 | refine below_set ?_ GE171.out | refine below_set ?_ GE178.out) | exact HB.out)⟩⟩
                  · rw [if_neg c46] at H
                    exact absurd H (by simp)
                · rw [if_neg c45] at H
                  exact absurd H (by simp)
      · rw [if_neg c9] at H
        have c9b0 : decide (x6_1 < (t173.length : Int)) = false := decide_eq_false c9
        clear c9
        simp only [Option.some.injEq, Prod.mk.injEq] at H
        obtain ⟨rfl, rfl, rfl, rfl, rfl, rfl, rfl, rfl⟩ := H
        have hnb55 := NB178_171.out
        have hnc55 := NB171_178.out
        have hcz56_0 : wr.cell? ⟨gb178, 0, none⟩ = some (.int .i64 (l0.length : Int)) := (blk_cell BK178.out 0).trans rfl
        have hcz56_1 : wr.cell? ⟨gb178, 1, none⟩ = some (.int .i64 (wrap64 ((l0.length : Int) - (t173.length : Int)))) := (blk_cell BK178.out 1).trans rfl
        have hcz56_2 : wr.cell? ⟨gb178, 2, none⟩ = some (.int .i64 x179002_1) := (blk_cell BK178.out 2).trans rfl
        have hcz56_3 : wr.cell? ⟨gb178, 3, none⟩ = some (.int .i64 x179003_1) := (blk_cell BK178.out 3).trans rfl
        have hcz56_4 : wr.cell? ⟨gb178, 4, none⟩ = some (.string x179004_1) := (blk_cell BK178.out 4).trans rfl
        have hcz56_5 : wr.cell? ⟨gb178, 5, none⟩ = some (.int .i64 x179005_1) := (blk_cell BK178.out 5).trans rfl
        have hcz56_6 : wr.cell? ⟨gb178, 6, none⟩ = some (.int .i64 x179006_1) := (blk_cell BK178.out 6).trans rfl
        have hcz56_7 : wr.cell? ⟨gb178, 7, none⟩ = some (.string x179007_1) := (blk_cell BK178.out 7).trans rfl
        have hfz56_0 := blk_frozen BK178.out 0
        have hfz56_1 := blk_frozen BK178.out 1
        have hfz56_2 := blk_frozen BK178.out 2
        have hfz56_3 := blk_frozen BK178.out 3
        have hfz56_4 := blk_frozen BK178.out 4
        have hfz56_5 := blk_frozen BK178.out 5
        have hfz56_6 := blk_frozen BK178.out 6
        have hfz56_7 := blk_frozen BK178.out 7
        have hcz57_0 : wr.cell? ⟨gb171, 0, none⟩ = some (.int .i64 0) := (blk_cell BK171.out 0).trans rfl
        have hcz57_1 : wr.cell? ⟨gb171, 1, none⟩ = some (.int .i64 0) := (blk_cell BK171.out 1).trans rfl
        have hcz57_2 : wr.cell? ⟨gb171, 2, none⟩ = some (.int .i64 0) := (blk_cell BK171.out 2).trans rfl
        have hcz57_3 : wr.cell? ⟨gb171, 3, none⟩ = some (.int .i64 0) := (blk_cell BK171.out 3).trans rfl
        have hcz57_4 : wr.cell? ⟨gb171, 4, none⟩ = some (.string (⟨#[]⟩ : ByteArray)) := (blk_cell BK171.out 4).trans rfl
        have hcz57_5 : wr.cell? ⟨gb171, 5, none⟩ = some (.int .i64 0) := (blk_cell BK171.out 5).trans rfl
        have hcz57_6 : wr.cell? ⟨gb171, 6, none⟩ = some (.int .i64 0) := (blk_cell BK171.out 6).trans rfl
        have hcz57_7 : wr.cell? ⟨gb171, 7, none⟩ = some (.string (⟨#[]⟩ : ByteArray)) := (blk_cell BK171.out 7).trans rfl
        have hfz57_0 := blk_frozen BK171.out 0
        have hfz57_1 := blk_frozen BK171.out 1
        have hfz57_2 := blk_frozen BK171.out 2
        have hfz57_3 := blk_frozen BK171.out 3
        have hfz57_4 := blk_frozen BK171.out 4
        have hfz57_5 := blk_frozen BK171.out 5
        have hfz57_6 := blk_frozen BK171.out 6
        have hfz57_7 := blk_frozen BK171.out 7
        go_wp2
        refine bodyPost_ret (results_cell_row rfl _ _ gb171 30 #[.int .i64 (l0.length : Int), .int .i64 (wrap64 ((l0.length : Int) - (t173.length : Int))), .int .i64 x179002_1, .int .i64 x179003_1, .string x179004_1, .int .i64 x179005_1, .int .i64 x179006_1, .string x179007_1] (0, 0) _ rfl (by (with_reducible repeat (first | refine blk_drewN ?_ _ | refine blk_drew ?_ | refine blk_alloc ?_ _)); refine blk_put (cs := #[.int .i64 (l0.length : Int), .int .i64 (wrap64 ((l0.length : Int) - (t173.length : Int))), .int .i64 x179002_1, .int .i64 x179003_1, .string x179004_1, .int .i64 x179005_1, .int .i64 x179006_1, .string (⟨#[]⟩ : ByteArray)]) ?_ 7 _ rfl; (with_reducible repeat (first | refine blk_drewN ?_ _ | refine blk_drew ?_ | refine blk_alloc ?_ _)); refine blk_put (cs := #[.int .i64 (l0.length : Int), .int .i64 (wrap64 ((l0.length : Int) - (t173.length : Int))), .int .i64 x179002_1, .int .i64 x179003_1, .string x179004_1, .int .i64 x179005_1, .int .i64 0, .string (⟨#[]⟩ : ByteArray)]) ?_ 6 _ rfl; (with_reducible repeat (first | refine blk_drewN ?_ _ | refine blk_drew ?_ | refine blk_alloc ?_ _)); refine blk_put (cs := #[.int .i64 (l0.length : Int), .int .i64 (wrap64 ((l0.length : Int) - (t173.length : Int))), .int .i64 x179002_1, .int .i64 x179003_1, .string x179004_1, .int .i64 0, .int .i64 0, .string (⟨#[]⟩ : ByteArray)]) ?_ 5 _ rfl; (with_reducible repeat (first | refine blk_drewN ?_ _ | refine blk_drew ?_ | refine blk_alloc ?_ _)); refine blk_put (cs := #[.int .i64 (l0.length : Int), .int .i64 (wrap64 ((l0.length : Int) - (t173.length : Int))), .int .i64 x179002_1, .int .i64 x179003_1, .string (⟨#[]⟩ : ByteArray), .int .i64 0, .int .i64 0, .string (⟨#[]⟩ : ByteArray)]) ?_ 4 _ rfl; (with_reducible repeat (first | refine blk_drewN ?_ _ | refine blk_drew ?_ | refine blk_alloc ?_ _)); refine blk_put (cs := #[.int .i64 (l0.length : Int), .int .i64 (wrap64 ((l0.length : Int) - (t173.length : Int))), .int .i64 x179002_1, .int .i64 0, .string (⟨#[]⟩ : ByteArray), .int .i64 0, .int .i64 0, .string (⟨#[]⟩ : ByteArray)]) ?_ 3 _ rfl; (with_reducible repeat (first | refine blk_drewN ?_ _ | refine blk_drew ?_ | refine blk_alloc ?_ _)); refine blk_put (cs := #[.int .i64 (l0.length : Int), .int .i64 (wrap64 ((l0.length : Int) - (t173.length : Int))), .int .i64 0, .int .i64 0, .string (⟨#[]⟩ : ByteArray), .int .i64 0, .int .i64 0, .string (⟨#[]⟩ : ByteArray)]) ?_ 2 _ rfl; (with_reducible repeat (first | refine blk_drewN ?_ _ | refine blk_drew ?_ | refine blk_alloc ?_ _)); refine blk_put (cs := #[.int .i64 (l0.length : Int), .int .i64 0, .int .i64 0, .int .i64 0, .string (⟨#[]⟩ : ByteArray), .int .i64 0, .int .i64 0, .string (⟨#[]⟩ : ByteArray)]) ?_ 1 _ rfl; (with_reducible repeat (first | refine blk_drewN ?_ _ | refine blk_drew ?_ | refine blk_alloc ?_ _)); refine blk_put (cs := #[.int .i64 0, .int .i64 0, .int .i64 0, .int .i64 0, .string (⟨#[]⟩ : ByteArray), .int .i64 0, .int .i64 0, .string (⟨#[]⟩ : ByteArray)]) ?_ 0 _ rfl; (with_reducible repeat (first | refine blk_drewN ?_ _ | refine blk_drew ?_ | refine blk_alloc ?_ _)); exact BK171.out) Try.underlying30 rfl (by kernel_rfl)) rfl ?_
        exact ⟨by first | rfl | (simp [errW_none, errW_some] <;> rfl) | (simp [*, errW_none, errW_some] <;> rfl), by repeat (first | (with_reducible first | exact HB.out | apply below_alloc | apply pw_below_drewN | apply below_drew1 | refine below_set ?_ GE171.out | refine below_set ?_ GE178.out) | exact HB.out)⟩

end Go.Proofs.Ytnpfanmkjhpmlaa.PZoj
