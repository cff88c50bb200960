-- Written by this session's program wip/gprint/gprint.py, over the kit's print, with given functions; no text of print.sh's.
import Derived.Test.YtnpfanmkjhpmlaaPZonx0
import Derived.Test.YtnpfanmkjhpmlaaPZonx9
import Derived.Test.YtnpfanmkjhpmlaaPZonx11
import Derived.Test.YtnpfanmkjhpmlaaPZonx13
import Derived.Test.YtnpfanmkjhpmlaaPZonx14
import Derived.Test.YtnpfanmkjhpmlaaPZonx15
import Derived.Test.YtnpfanmkjhpmlaaPZonx19
namespace Go.Proofs.Ytnpfanmkjhpmlaa.PZon
open Go.RowKit Go.Proofs.YtnpfanmkjhpmlaaW.PrintWords Go.Proofs.YtnpfanmkjhpmlaaW.PrintLast Go.Proofs.YtnpfanmkjhpmlaaW.PrintMore
attribute [local go_sem] max2_int min2_int max_two min_two max_three min_three max_four min_four   -- for this text's walks alone
set_option linter.unusedVariables false
set_option linter.unusedSimpArgs false

/-! ### law14_ZoneTrue: function 3 -/
mutual
def law14_ZoneTrue.j0 : Nat → List (S24) → Bool → Bool → Int → Int → Int → Int → ByteArray → Option (Bool)
  | 0, _, _, _, _, _, _, _, _ => none
  | k + 1, x0, x7, x19, x241000, x241001, x241002, x241003, x241004 => if x19 = true then (some x7) else ((ref11_Zone.f k x0).bind fun bt243 => (law14_ZoneTrue.l0 k x0 x7 0 0 x241000 x241001 x241002 x241003 x241004 bt243.1 bt243.2.1 bt243.2.2.1 bt243.2.2.2.1 bt243.2.2.2.2.1 bt243.2.2.2.2.2.1 bt243.2.2.2.2.2.2.1 bt243.2.2.2.2.2.2.2))
def law14_ZoneTrue.l0 : Nat → List (S24) → Bool → Int → Int → Int → Int → Int → Int → ByteArray → Int → Int → Int → Int → ByteArray → Int → Int → ByteArray → Option (Bool)
  | 0, _, _, _, _, _, _, _, _, _, _, _, _, _, _, _, _, _ => none
  | k + 1, x0, x7, x9, x10, x241000, x241001, x241002, x241003, x241004, x252000, x252001, x252002, x252003, x252004, x252005, x252006, x252007 => if x10 < (x0.length : Int) then (if 0 ≤ x10 then ((ref13_Holds.f k x241000 x241001 x241002 x241003 x241004 ((rd_T24 x0 x10).f0) ((rd_T24 x0 x10).f1) ((rd_T24 x0 x10).f2)).bind fun t253 => (if t253 = true then (law14_ZoneTrue.l0 k x0 x7 (wrap64 (x9 + 1)) (wrap64 (x10 + 1)) x241000 x241001 x241002 x241003 x241004 x252000 x252001 x252002 x252003 x252004 x252005 x252006 x252007) else (law14_ZoneTrue.l0 k x0 x7 x9 (wrap64 (x10 + 1)) x241000 x241001 x241002 x241003 x241004 x252000 x252001 x252002 x252003 x252004 x252005 x252006 x252007))) else (none)) else ((zone_None.f x252000 x252001 x252002 x252003 x252004 x252005 x252006 x252007 x241000 x241001 x241002 x241003 x241004).bind fun t254 => (if t254 = true then (if x9 = 0 then ((zone_Every.f x252000 x252001 x252002 x252003 x252004 x252005 x252006 x252007 x241000 x241001 x241002 x241003 x241004).bind fun t255 => (if t255 = true then (law14_ZoneTrue.j2 k x0 x7 (x9 != (x0.length : Int)) x241000 x241001 x241002 x241003 x241004 x252000 x252001 x252002 x252003 x252004 x252005 x252006 x252007) else (law14_ZoneTrue.j2 k x0 x7 false x241000 x241001 x241002 x241003 x241004 x252000 x252001 x252002 x252003 x252004 x252005 x252006 x252007))) else (law14_ZoneTrue.j2 k x0 x7 true x241000 x241001 x241002 x241003 x241004 x252000 x252001 x252002 x252003 x252004 x252005 x252006 x252007)) else ((zone_Every.f x252000 x252001 x252002 x252003 x252004 x252005 x252006 x252007 x241000 x241001 x241002 x241003 x241004).bind fun t256 => (if t256 = true then (law14_ZoneTrue.j2 k x0 x7 (x9 != (x0.length : Int)) x241000 x241001 x241002 x241003 x241004 x252000 x252001 x252002 x252003 x252004 x252005 x252006 x252007) else (law14_ZoneTrue.j2 k x0 x7 false x241000 x241001 x241002 x241003 x241004 x252000 x252001 x252002 x252003 x252004 x252005 x252006 x252007)))))
def law14_ZoneTrue.j2 : Nat → List (S24) → Bool → Bool → Int → Int → Int → Int → ByteArray → Int → Int → Int → Int → ByteArray → Int → Int → ByteArray → Option (Bool)
  | 0, _, _, _, _, _, _, _, _, _, _, _, _, _, _, _, _ => none
  | k + 1, x0, x7, x54, x241000, x241001, x241002, x241003, x241004, x252000, x252001, x252002, x252003, x252004, x252005, x252006, x252007 => if x54 = true then (some false) else (if x7 = true then (if (x0.length : Int) = 0 then (some true) else ((zone_None.f x252000 x252001 x252002 x252003 x252004 x252005 x252006 x252007 x241000 x241001 x241002 x241003 x241004).bind fun t257 => (if t257 = true then ((zone_Every.f x252000 x252001 x252002 x252003 x252004 x252005 x252006 x252007 x241000 x241001 x241002 x241003 x241004).bind fun t258 => (some (!t258))) else (some true)))) else (some false))
end
def law14_ZoneTrue.f (k : Nat) (l0 : List (S24)) (a1 : Int) (a2_0 : Int) (a2_1 : Int) (a2_2 : Int) (a2_3 : Int) (a2_4 : ByteArray) : Option (Bool) := (law14_shown.f).bind fun t241 => ((law14_few.f k l0 a1).bind fun t242 => (if t242 = true then (law14_ZoneTrue.j0 k l0 t241 (a1 == 0) a2_0 a2_1 a2_2 a2_3 a2_4) else (law14_ZoneTrue.j0 k l0 t241 true a2_0 a2_1 a2_2 a2_3 a2_4)))
theorem law14_ZoneTrue.mono_l : ∀ k, (∀ y0 y1 y2 y3 y4 y5 y6 y7, LeO (law14_ZoneTrue.j0 k y0 y1 y2 y3 y4 y5 y6 y7) (law14_ZoneTrue.j0 (k + 1) y0 y1 y2 y3 y4 y5 y6 y7)) ∧ (∀ y0 y1 y2 y3 y4 y5 y6 y7 y8 y9 y10 y11 y12 y13 y14 y15 y16, LeO (law14_ZoneTrue.l0 k y0 y1 y2 y3 y4 y5 y6 y7 y8 y9 y10 y11 y12 y13 y14 y15 y16) (law14_ZoneTrue.l0 (k + 1) y0 y1 y2 y3 y4 y5 y6 y7 y8 y9 y10 y11 y12 y13 y14 y15 y16)) ∧ (∀ y0 y1 y2 y3 y4 y5 y6 y7 y8 y9 y10 y11 y12 y13 y14 y15, LeO (law14_ZoneTrue.j2 k y0 y1 y2 y3 y4 y5 y6 y7 y8 y9 y10 y11 y12 y13 y14 y15) (law14_ZoneTrue.j2 (k + 1) y0 y1 y2 y3 y4 y5 y6 y7 y8 y9 y10 y11 y12 y13 y14 y15))
  | 0 => ⟨fun _ _ _ _ _ _ _ _ r h => by simp [law14_ZoneTrue.j0] at h, fun _ _ _ _ _ _ _ _ _ _ _ _ _ _ _ _ _ r h => by simp [law14_ZoneTrue.l0] at h, fun _ _ _ _ _ _ _ _ _ _ _ _ _ _ _ _ r h => by simp [law14_ZoneTrue.j2] at h⟩
  | k + 1 => by
    obtain ⟨ih0, ih1, ih2⟩ := law14_ZoneTrue.mono_l k
    refine ⟨?_, ?_, ?_⟩
    · intro y0 y1 y2 y3 y4 y5 y6 y7
      unfold law14_ZoneTrue.j0
      repeat' first
      | (with_reducible exact ih0 _ _ _ _ _ _ _ _)
      | (with_reducible exact ih1 _ _ _ _ _ _ _ _ _ _ _ _ _ _ _ _ _)
      | (with_reducible exact ih2 _ _ _ _ _ _ _ _ _ _ _ _ _ _ _ _)
      | (with_reducible exact law14_few.mono _ _ _)
      | (with_reducible exact ref11_Zone.mono _ _)
      | (with_reducible exact ref13_Holds.mono _ _ _ _ _ _ _ _ _)
      | (with_reducible exact LeO.refl _)
      | (with_reducible exact LeO.none _)
      | (with_reducible refine LeO.ite ?_ ?_)
      | (with_reducible refine LeO.bind ?_ (fun _ => ?_))
      | exact ih0 _ _ _ _ _ _ _ _
      | exact ih1 _ _ _ _ _ _ _ _ _ _ _ _ _ _ _ _ _
      | exact ih2 _ _ _ _ _ _ _ _ _ _ _ _ _ _ _ _
      | exact law14_few.mono _ _ _
      | exact ref11_Zone.mono _ _
      | exact ref13_Holds.mono _ _ _ _ _ _ _ _ _
      | exact LeO.none _
      | refine LeO.ite ?_ ?_
      | refine LeO.bind ?_ (fun _ => ?_)
    · intro y0 y1 y2 y3 y4 y5 y6 y7 y8 y9 y10 y11 y12 y13 y14 y15 y16
      unfold law14_ZoneTrue.l0
      repeat' first
      | (with_reducible exact ih0 _ _ _ _ _ _ _ _)
      | (with_reducible exact ih1 _ _ _ _ _ _ _ _ _ _ _ _ _ _ _ _ _)
      | (with_reducible exact ih2 _ _ _ _ _ _ _ _ _ _ _ _ _ _ _ _)
      | (with_reducible exact law14_few.mono _ _ _)
      | (with_reducible exact ref11_Zone.mono _ _)
      | (with_reducible exact ref13_Holds.mono _ _ _ _ _ _ _ _ _)
      | (with_reducible exact LeO.refl _)
      | (with_reducible exact LeO.none _)
      | (with_reducible refine LeO.ite ?_ ?_)
      | (with_reducible refine LeO.bind ?_ (fun _ => ?_))
      | exact ih0 _ _ _ _ _ _ _ _
      | exact ih1 _ _ _ _ _ _ _ _ _ _ _ _ _ _ _ _ _
      | exact ih2 _ _ _ _ _ _ _ _ _ _ _ _ _ _ _ _
      | exact law14_few.mono _ _ _
      | exact ref11_Zone.mono _ _
      | exact ref13_Holds.mono _ _ _ _ _ _ _ _ _
      | exact LeO.none _
      | refine LeO.ite ?_ ?_
      | refine LeO.bind ?_ (fun _ => ?_)
    · intro y0 y1 y2 y3 y4 y5 y6 y7 y8 y9 y10 y11 y12 y13 y14 y15
      unfold law14_ZoneTrue.j2
      repeat' first
      | (with_reducible exact ih0 _ _ _ _ _ _ _ _)
      | (with_reducible exact ih1 _ _ _ _ _ _ _ _ _ _ _ _ _ _ _ _ _)
      | (with_reducible exact ih2 _ _ _ _ _ _ _ _ _ _ _ _ _ _ _ _)
      | (with_reducible exact law14_few.mono _ _ _)
      | (with_reducible exact ref11_Zone.mono _ _)
      | (with_reducible exact ref13_Holds.mono _ _ _ _ _ _ _ _ _)
      | (with_reducible exact LeO.refl _)
      | (with_reducible exact LeO.none _)
      | (with_reducible refine LeO.ite ?_ ?_)
      | (with_reducible refine LeO.bind ?_ (fun _ => ?_))
      | exact ih0 _ _ _ _ _ _ _ _
      | exact ih1 _ _ _ _ _ _ _ _ _ _ _ _ _ _ _ _ _
      | exact ih2 _ _ _ _ _ _ _ _ _ _ _ _ _ _ _ _
      | exact law14_few.mono _ _ _
      | exact ref11_Zone.mono _ _
      | exact ref13_Holds.mono _ _ _ _ _ _ _ _ _
      | exact LeO.none _
      | refine LeO.ite ?_ ?_
      | refine LeO.bind ?_ (fun _ => ?_)
theorem law14_ZoneTrue.mono : ∀ a0 a1 a2 a3 a4 a5 a6 k, LeO (law14_ZoneTrue.f k a0 a1 a2 a3 a4 a5 a6) (law14_ZoneTrue.f (k + 1) a0 a1 a2 a3 a4 a5 a6) := by
  intro a0 a1 a2 a3 a4 a5 a6 k
  obtain ⟨ih0, ih1, ih2⟩ := law14_ZoneTrue.mono_l k
  unfold law14_ZoneTrue.f
  repeat' first
      | (with_reducible exact ih0 _ _ _ _ _ _ _ _)
      | (with_reducible exact ih1 _ _ _ _ _ _ _ _ _ _ _ _ _ _ _ _ _)
      | (with_reducible exact ih2 _ _ _ _ _ _ _ _ _ _ _ _ _ _ _ _)
      | (with_reducible exact law14_few.mono _ _ _)
      | (with_reducible exact ref11_Zone.mono _ _)
      | (with_reducible exact ref13_Holds.mono _ _ _ _ _ _ _ _ _)
      | (with_reducible exact LeO.refl _)
      | (with_reducible exact LeO.none _)
      | (with_reducible refine LeO.ite ?_ ?_)
      | (with_reducible refine LeO.bind ?_ (fun _ => ?_))
      | exact ih0 _ _ _ _ _ _ _ _
      | exact ih1 _ _ _ _ _ _ _ _ _ _ _ _ _ _ _ _ _
      | exact ih2 _ _ _ _ _ _ _ _ _ _ _ _ _ _ _ _
      | exact law14_few.mono _ _ _
      | exact ref11_Zone.mono _ _
      | exact ref13_Holds.mono _ _ _ _ _ _ _ _ _
      | exact LeO.none _
      | refine LeO.ite ?_ ?_
      | refine LeO.bind ?_ (fun _ => ?_)
set_option maxHeartbeats 8000000 in
set_option maxRecDepth 100000 in
theorem law14_ZoneTrue.calls (k : Nat) (A0 : Option Addr) (c0 : Nat) (l0 : List (S24)) (a1 : Int) (a2_0 : Int) (a2_1 : Int) (a2_2 : Int) (a2_3 : Int) (a2_4 : ByteArray) (r : Bool) (w : World) (hr0 : Kd.C k24 w A0 l0.length l0) (hc0 : l0.length ≤ c0) (hr_ : Aside0 (r = true)) (h : law14_ZoneTrue.f k l0 a1 a2_0 a2_1 a2_2 a2_3 a2_4 = some r) :
    Calls Try.prog 3 #[.slice A0 l0.length c0, .int .i64 a1, .agg #[.int .i64 a2_0, .int .i64 a2_1, .int .i64 a2_2, .int .i64 a2_3, .string a2_4]] w fun e w' => e = .returned (.bool r) ∧ Below w.heap.size w w' := by
  have hu26 := Try.underlying26
  have hu30 := Try.underlying30
  have hu24 := Try.underlying24
  have HR0 := Aside0.mk hr0
  have HC0 := Aside0.mk hc0
  clear hr0 hc0
  have HB := Aside0.mk (Below.refl w.heap.size w)
  have H : ((law14_shown.f).bind fun t241 => ((law14_few.f k l0 a1).bind fun t242 => (if t242 = true then (law14_ZoneTrue.j0 k l0 t241 (a1 == 0) a2_0 a2_1 a2_2 a2_3 a2_4) else (law14_ZoneTrue.j0 k l0 t241 true a2_0 a2_1 a2_2 a2_3 a2_4)))) = some r := h
  clear h
  replace H := Option.bind_eq_some_iff.mp H
  obtain ⟨t241, A40, H⟩ := H
  replace H : ((law14_few.f k l0 a1).bind fun t242 => (if t242 = true then (law14_ZoneTrue.j0 k l0 t241 (a1 == 0) a2_0 a2_1 a2_2 a2_3 a2_4) else (law14_ZoneTrue.j0 k l0 t241 true a2_0 a2_1 a2_2 a2_3 a2_4))) = some r := H
  have A4 := Aside0.mk A40
  clear A40
  have HC5 := Aside0.mk H
  clear H
  go_enter Try.func3, Try.ntmps3
  go_upto_region 2 with (first | ((with_reducible refine gate_dst (N := 5) rfl ?_); (try (refine gate_guard (by rfl) ?_; dsimp only)); refine box_event ?hg (N := 5) ?hd (cs := #[.int .i64 a2_0, .int .i64 a2_1, .int .i64 a2_2, .int .i64 a2_3, .string a2_4]) (t := 26) ?hr ?_; (case hd => rfl); (case hg => rfl); (case hr => first | (go_simp; done) | (go_simp; rfl)); intro gb240 hg w6 hbox hb; have n0_ := Aside0.mk (below_step (by repeat (first | (with_reducible first | exact HB.out | apply below_alloc | apply pw_below_drewN | apply below_drew1) | exact HB.out)) hb); have n1_ := Aside0.mk (hbox); have n2_ := Aside0.mk ((by rw [hg]; exact (below_size (by repeat (first | (with_reducible first | exact HB.out | apply below_alloc | apply pw_below_drewN | apply below_drew1) | exact HB.out))) : w.heap.size ≤ gb240)); have n3_ := Aside0.mk ((by rw [hg]; exact (below_size (by repeat (first | (with_reducible first | exact HB.out | apply below_alloc | apply pw_below_drewN | apply below_drew1) | exact HB.out))) : w.heap.size ≤ gb240)); clear HB; have HB := n0_; have BK240 := n1_; have GW240 := n2_; have GE240 := n3_; clear n0_ n1_ n2_ n3_; clear hb hbox hg) | ((with_reducible refine gate_callee (f := 8) rfl ?_); refine goesL_ (some 11) rfl rfl Try.func8 (by kernel_rfl) rfl #[] rfl (by (try simp only [List.map_toArray, List.map_cons, List.map_nil]); first | done | rfl | (simp only [List.length_drop, List.length_take]; rfl)) ?_; (with_reducible refine (law14_shown.calls  t241 _ A4.out).mono ?_); rintro e w7 ⟨rfl, hb⟩; refine ⟨_, rfl, ?_⟩; have n0_ := Aside0.mk (blk_below (g := gb240) (o := .cells #[.int .i64 a2_0, .int .i64 a2_1, .int .i64 a2_2, .int .i64 a2_3, .string a2_4] 26 (0, 0)) (by (with_reducible repeat (first | refine blk_drewN ?_ _ | refine blk_drew ?_ | refine blk_alloc ?_ _)); exact BK240.out) hb); have n1_ := Aside0.mk (below_step (by repeat (first | (with_reducible first | exact HB.out | apply below_alloc | apply pw_below_drewN | apply below_drew1 | refine below_set ?_ GE240.out) | exact HB.out)) hb); clear BK240; clear HB; have BK240 := n0_; have HB := n1_; clear n0_ n1_; (try clear hb); (try clear hb2); (try clear hk); (try clear hi)))
  (try simp only [Act.put, List.setIfInBounds_toArray, List.set_cons_zero, List.set_cons_succ])
  go_cut [19] (fun v19 wc => ∃ (kq : Nat) (x19_4 : Bool), v19 = .bool x19_4 ∧ Aside0 (law14_ZoneTrue.j0 kq l0 t241 x19_4 a2_0 a2_1 a2_2 a2_3 a2_4 = some r) ∧ Aside0 (kq ≤ k) ∧ Aside0 (wc.heap[gb240]? = some (.cells #[.int .i64 a2_0, .int .i64 a2_1, .int .i64 a2_2, .int .i64 a2_3, .string a2_4] 26 (0, 0))) ∧ Aside0 (Below w.heap.size w wc))
  case first =>
    have H := HC5.out
    clear HC5
    replace H := Option.bind_eq_some_iff.mp H
    obtain ⟨t242, A80, H⟩ := H
    replace H : (if t242 = true then (law14_ZoneTrue.j0 k l0 t241 (a1 == 0) a2_0 a2_1 a2_2 a2_3 a2_4) else (law14_ZoneTrue.j0 k l0 t241 true a2_0 a2_1 a2_2 a2_3 a2_4)) = some r := H
    have A8 := Aside0.mk A80
    clear A80
    by_cases c9 : t242 = true
    · subst c9
      have H1 : (law14_ZoneTrue.j0 k l0 t241 (a1 == 0) a2_0 a2_1 a2_2 a2_3 a2_4) = some r := by rw [if_pos rfl] at H; exact H
      clear H
      have H := H1
      clear H1
      have H' := Aside0.mk H
      clear H
      go_wp2_with (first | ((with_reducible refine gate_callee (f := 9) rfl ?_); refine goesL_ (some 14) rfl rfl Try.func9 (by kernel_rfl) rfl #[.slice A0 l0.length c0, .int .i64 a1] rfl (by (try simp only [List.map_toArray, List.map_cons, List.map_nil]); first | done | rfl | (simp only [List.length_drop, List.length_take]; rfl)) ?_; (with_reducible refine (law14_few.calls k _ _ l0 a1 true _ ?side1 ?side2 A8.out).mono ?_); (case side1 => repeat (first | exact (Kd.C_below HR0.out HB.out) | (with_reducible refine Kd.C_alloc ?_ _) | (with_reducible refine Kd.C_drewN ?_ _) | (with_reducible refine Kd.C_drew ?_))); (case side2 => exact HC0.out); rintro e w' ⟨rfl, ⟨nd, rfl⟩⟩; refine ⟨_, rfl, ?_⟩))
      go_meet
      case rel => exact ⟨_, ((a1 == 0)), (by first | rfl | (simp; done) | (simp [*]; done)), H', ⟨by first | omega | exact Nat.le_refl _⟩, ⟨by (with_reducible repeat (first | refine blk_drewN ?_ _ | refine blk_drew ?_ | refine blk_alloc ?_ _)); exact BK240.out⟩, ⟨by repeat (first | (with_reducible first | exact HB.out | apply below_alloc | apply pw_below_drewN | apply below_drew1 | refine below_set ?_ GE240.out) | exact HB.out)⟩⟩
    · replace c9 := Bool.eq_false_iff.mpr c9
      subst c9
      have H1 : (law14_ZoneTrue.j0 k l0 t241 true a2_0 a2_1 a2_2 a2_3 a2_4) = some r := by rw [if_neg (show ¬ (false = true) by decide)] at H; exact H
      clear H
      have H := H1
      clear H1
      have H' := Aside0.mk H
      clear H
      go_wp2_with (first | ((with_reducible refine gate_callee (f := 9) rfl ?_); refine goesL_ (some 14) rfl rfl Try.func9 (by kernel_rfl) rfl #[.slice A0 l0.length c0, .int .i64 a1] rfl (by (try simp only [List.map_toArray, List.map_cons, List.map_nil]); first | done | rfl | (simp only [List.length_drop, List.length_take]; rfl)) ?_; (with_reducible refine (law14_few.calls k _ _ l0 a1 false _ ?side1 ?side2 A8.out).mono ?_); (case side1 => repeat (first | exact (Kd.C_below HR0.out HB.out) | (with_reducible refine Kd.C_alloc ?_ _) | (with_reducible refine Kd.C_drewN ?_ _) | (with_reducible refine Kd.C_drew ?_))); (case side2 => exact HC0.out); rintro e w' ⟨rfl, ⟨nd, rfl⟩⟩; refine ⟨_, rfl, ?_⟩))
      go_meet
      case rel => exact ⟨_, (true), (by first | rfl | (simp; done) | (simp [*]; done)), H', ⟨by first | omega | exact Nat.le_refl _⟩, ⟨by (with_reducible repeat (first | refine blk_drewN ?_ _ | refine blk_drew ?_ | refine blk_alloc ?_ _)); exact BK240.out⟩, ⟨by repeat (first | (with_reducible first | exact HB.out | apply below_alloc | apply pw_below_drewN | apply below_drew1 | refine below_set ?_ GE240.out) | exact HB.out)⟩⟩
  case rest =>
    clear HC5
    try clear p2
    try clear c3
    try clear c8
    try clear c9
    obtain ⟨kq, x19_4, rfl, HA, HJ4, BK240, HB⟩ := hcut
    cases kq with
    | zero => exact absurd HA.out (by simp [law14_ZoneTrue.j0])
    | succ kj4 =>
      have H := HA.out
      clear HA
      simp only [law14_ZoneTrue.j0] at H
      by_cases c10 : x19_4 = true
      · subst c10
        have H1 : (some t241) = some r := by rw [if_pos rfl] at H; exact H
        clear H
        have H := H1
        clear H1
        obtain rfl := Option.some.inj H
        go_wp2
        go_ret
        exact ⟨by first | rfl | (simp [errW_none, errW_some] <;> rfl) | (simp [*, errW_none, errW_some] <;> rfl), by repeat (first | (with_reducible first | exact HB.out | apply below_alloc | apply pw_below_drewN | apply below_drew1 | refine below_set ?_ GE240.out) | exact HB.out)⟩
      · replace c10 := Bool.eq_false_iff.mpr c10
        subst c10
        have H1 : ((ref11_Zone.f kj4 l0).bind fun bt243 => (law14_ZoneTrue.l0 kj4 l0 t241 0 0 a2_0 a2_1 a2_2 a2_3 a2_4 bt243.1 bt243.2.1 bt243.2.2.1 bt243.2.2.2.1 bt243.2.2.2.2.1 bt243.2.2.2.2.2.1 bt243.2.2.2.2.2.2.1 bt243.2.2.2.2.2.2.2)) = some r := by rw [if_neg (show ¬ (false = true) by decide)] at H; exact H
        clear H
        have H := H1
        clear H1
        replace H := Option.bind_eq_some_iff.mp H
        obtain ⟨⟨t243, t244, t245, t246, t247, t248, t249, t250⟩, A110, H⟩ := H
        replace H : (law14_ZoneTrue.l0 kj4 l0 t241 0 0 a2_0 a2_1 a2_2 a2_3 a2_4 t243 t244 t245 t246 t247 t248 t249 t250) = some r := H
        have A11 := Aside0.mk A110
        clear A110
        have H' := Aside0.mk H
        clear H
        go_wp2_with (first | ((with_reducible refine gate_callee (f := 10) rfl ?_); refine goesL_ (some 22) rfl rfl Try.func10 (by kernel_rfl) rfl #[.slice A0 l0.length c0] rfl (by (try simp only [List.map_toArray, List.map_cons, List.map_nil]); first | done | rfl | (simp only [List.length_drop, List.length_take]; rfl)) ?_; (with_reducible refine (ref11_Zone.calls kj4 _ _ l0 t243 t244 t245 t246 t247 t248 t249 t250 _ ?side1 ?side2 A11.out).mono ?_); (case side1 => repeat (first | exact (Kd.C_below HR0.out HB.out) | (with_reducible refine Kd.C_alloc ?_ _) | (with_reducible refine Kd.C_drewN ?_ _) | (with_reducible refine Kd.C_drew ?_))); (case side2 => exact HC0.out); rintro e w12 ⟨rfl, hb⟩; refine ⟨_, rfl, ?_⟩; have n0_ := Aside0.mk (blk_below (g := gb240) (o := .cells #[.int .i64 a2_0, .int .i64 a2_1, .int .i64 a2_2, .int .i64 a2_3, .string a2_4] 26 (0, 0)) (by (with_reducible repeat (first | refine blk_drewN ?_ _ | refine blk_drew ?_ | refine blk_alloc ?_ _)); exact BK240.out) hb); have n1_ := Aside0.mk (below_step (by repeat (first | (with_reducible first | exact HB.out | apply below_alloc | apply pw_below_drewN | apply below_drew1 | refine below_set ?_ GE240.out) | exact HB.out)) hb); clear BK240; clear HB; have BK240 := n0_; have HB := n1_; clear n0_ n1_; (try clear hb); (try clear hb2); (try clear hk); (try clear hi)) | ((with_reducible refine gate_dst (N := 8) rfl ?_); (try (refine gate_guard (by rfl) ?_; dsimp only)); refine box_event ?hg (N := 8) ?hd (cs := #[.int .i64 0, .int .i64 0, .int .i64 0, .int .i64 0, .string (⟨#[]⟩ : ByteArray), .int .i64 0, .int .i64 0, .string (⟨#[]⟩ : ByteArray)]) (t := 30) ?hr ?_; (case hd => rfl); (case hg => rfl); (case hr => first | (go_simp; done) | (go_simp; rfl)); intro gb251 hg w13 hbox hb; have n0_ := Aside0.mk (blk_below (g := gb240) (o := .cells #[.int .i64 a2_0, .int .i64 a2_1, .int .i64 a2_2, .int .i64 a2_3, .string a2_4] 26 (0, 0)) (by (with_reducible repeat (first | refine blk_drewN ?_ _ | refine blk_drew ?_ | refine blk_alloc ?_ _)); exact BK240.out) hb); have n1_ := Aside0.mk (below_step (by repeat (first | (with_reducible first | exact HB.out | apply below_alloc | apply pw_below_drewN | apply below_drew1 | refine below_set ?_ GE240.out) | exact HB.out)) hb); have n2_ := Aside0.mk (hbox); have n3_ := Aside0.mk ((by rw [hg]; exact (below_size (by repeat (first | (with_reducible first | exact HB.out | apply below_alloc | apply pw_below_drewN | apply below_drew1 | refine below_set ?_ GE240.out) | exact HB.out))) : w.heap.size ≤ gb251)); have n4_ := Aside0.mk ((by rw [hg]; exact (below_size (by repeat (first | (with_reducible first | exact HB.out | apply below_alloc | apply pw_below_drewN | apply below_drew1 | refine below_set ?_ GE240.out) | exact HB.out))) : w.heap.size ≤ gb251)); have n5_ := Aside0.mk ((by rw [hg]; exact Nat.ne_of_lt (blk_lt (g := gb240) (o := .cells #[.int .i64 a2_0, .int .i64 a2_1, .int .i64 a2_2, .int .i64 a2_3, .string a2_4] 26 (0, 0)) (by (with_reducible repeat (first | refine blk_drewN ?_ _ | refine blk_drew ?_ | refine blk_alloc ?_ _)); exact BK240.out)) : gb240 ≠ gb251)); have n6_ := Aside0.mk ((by rw [hg]; exact Nat.ne_of_gt (blk_lt (g := gb240) (o := .cells #[.int .i64 a2_0, .int .i64 a2_1, .int .i64 a2_2, .int .i64 a2_3, .string a2_4] 26 (0, 0)) (by (with_reducible repeat (first | refine blk_drewN ?_ _ | refine blk_drew ?_ | refine blk_alloc ?_ _)); exact BK240.out)) : gb251 ≠ gb240)); clear BK240; clear HB; have BK240 := n0_; have HB := n1_; have BK251 := n2_; have GW251 := n3_; have GE251 := n4_; have NB240_251 := n5_; have NB251_240 := n6_; clear n0_ n1_ n2_ n3_ n4_ n5_ n6_; clear hb hbox hg; have hnb14 := NB251_240.out; have hnc14 := NB240_251.out; have hcz15_0 : w13.cell? ⟨gb251, 0, none⟩ = some (.int .i64 0) := (blk_cell BK251.out 0).trans rfl; have hcz15_1 : w13.cell? ⟨gb251, 1, none⟩ = some (.int .i64 0) := (blk_cell BK251.out 1).trans rfl; have hcz15_2 : w13.cell? ⟨gb251, 2, none⟩ = some (.int .i64 0) := (blk_cell BK251.out 2).trans rfl; have hcz15_3 : w13.cell? ⟨gb251, 3, none⟩ = some (.int .i64 0) := (blk_cell BK251.out 3).trans rfl; have hcz15_4 : w13.cell? ⟨gb251, 4, none⟩ = some (.string (⟨#[]⟩ : ByteArray)) := (blk_cell BK251.out 4).trans rfl; have hcz15_5 : w13.cell? ⟨gb251, 5, none⟩ = some (.int .i64 0) := (blk_cell BK251.out 5).trans rfl; have hcz15_6 : w13.cell? ⟨gb251, 6, none⟩ = some (.int .i64 0) := (blk_cell BK251.out 6).trans rfl; have hcz15_7 : w13.cell? ⟨gb251, 7, none⟩ = some (.string (⟨#[]⟩ : ByteArray)) := (blk_cell BK251.out 7).trans rfl; have hfz15_0 := blk_frozen BK251.out 0; have hfz15_1 := blk_frozen BK251.out 1; have hfz15_2 := blk_frozen BK251.out 2; have hfz15_3 := blk_frozen BK251.out 3; have hfz15_4 := blk_frozen BK251.out 4; have hfz15_5 := blk_frozen BK251.out 5; have hfz15_6 := blk_frozen BK251.out 6; have hfz15_7 := blk_frozen BK251.out 7))
        go_loopg [9, 10] kj4 (fun kq v9 v10 w' => ∃ (x9_2 : Int) (x10_2 : Int), v9 = .int .i64 x9_2 ∧ v10 = .int .i64 x10_2 ∧ Aside0 (law14_ZoneTrue.l0 kq l0 t241 x9_2 x10_2 a2_0 a2_1 a2_2 a2_3 a2_4 t243 t244 t245 t246 t247 t248 t249 t250 = some r) ∧ Aside0 (kq ≤ kj4) ∧ Aside0 (w'.heap[gb240]? = some (.cells #[.int .i64 a2_0, .int .i64 a2_1, .int .i64 a2_2, .int .i64 a2_3, .string a2_4] 26 (0, 0))) ∧ Aside0 (w'.heap[gb251]? = some (.cells #[.int .i64 t243, .int .i64 t244, .int .i64 t245, .int .i64 t246, .string t247, .int .i64 t248, .int .i64 t249, .string t250] 30 (0, 0))) ∧ Aside0 (Below w.heap.size w w'))
        case atStart => exact ⟨(0), (0), (by first | rfl | (simp; done) | (simp [*]; done)), (by first | rfl | (simp; done) | (simp [*]; done)), H', ⟨Nat.le_refl _⟩, ⟨by (with_reducible repeat (first | refine blk_drewN ?_ _ | refine blk_drew ?_ | refine blk_alloc ?_ _)); refine blk_far ?_ NB240_251.out _; (with_reducible repeat (first | refine blk_drewN ?_ _ | refine blk_drew ?_ | refine blk_alloc ?_ _)); refine blk_far ?_ NB240_251.out _; (with_reducible repeat (first | refine blk_drewN ?_ _ | refine blk_drew ?_ | refine blk_alloc ?_ _)); refine blk_far ?_ NB240_251.out _; (with_reducible repeat (first | refine blk_drewN ?_ _ | refine blk_drew ?_ | refine blk_alloc ?_ _)); refine blk_far ?_ NB240_251.out _; (with_reducible repeat (first | refine blk_drewN ?_ _ | refine blk_drew ?_ | refine blk_alloc ?_ _)); refine blk_far ?_ NB240_251.out _; (with_reducible repeat (first | refine blk_drewN ?_ _ | refine blk_drew ?_ | refine blk_alloc ?_ _)); refine blk_far ?_ NB240_251.out _; (with_reducible repeat (first | refine blk_drewN ?_ _ | refine blk_drew ?_ | refine blk_alloc ?_ _)); refine blk_far ?_ NB240_251.out _; (with_reducible repeat (first | refine blk_drewN ?_ _ | refine blk_drew ?_ | refine blk_alloc ?_ _)); refine blk_far ?_ NB240_251.out _; (with_reducible repeat (first | refine blk_drewN ?_ _ | refine blk_drew ?_ | refine blk_alloc ?_ _)); exact BK240.out⟩, ⟨by (with_reducible repeat (first | refine blk_drewN ?_ _ | refine blk_drew ?_ | refine blk_alloc ?_ _)); refine blk_put (cs := #[.int .i64 t243, .int .i64 t244, .int .i64 t245, .int .i64 t246, .string t247, .int .i64 t248, .int .i64 t249, .string (⟨#[]⟩ : ByteArray)]) ?_ 7 _ rfl; (with_reducible repeat (first | refine blk_drewN ?_ _ | refine blk_drew ?_ | refine blk_alloc ?_ _)); refine blk_put (cs := #[.int .i64 t243, .int .i64 t244, .int .i64 t245, .int .i64 t246, .string t247, .int .i64 t248, .int .i64 0, .string (⟨#[]⟩ : ByteArray)]) ?_ 6 _ rfl; (with_reducible repeat (first | refine blk_drewN ?_ _ | refine blk_drew ?_ | refine blk_alloc ?_ _)); refine blk_put (cs := #[.int .i64 t243, .int .i64 t244, .int .i64 t245, .int .i64 t246, .string t247, .int .i64 0, .int .i64 0, .string (⟨#[]⟩ : ByteArray)]) ?_ 5 _ rfl; (with_reducible repeat (first | refine blk_drewN ?_ _ | refine blk_drew ?_ | refine blk_alloc ?_ _)); refine blk_put (cs := #[.int .i64 t243, .int .i64 t244, .int .i64 t245, .int .i64 t246, .string (⟨#[]⟩ : ByteArray), .int .i64 0, .int .i64 0, .string (⟨#[]⟩ : ByteArray)]) ?_ 4 _ rfl; (with_reducible repeat (first | refine blk_drewN ?_ _ | refine blk_drew ?_ | refine blk_alloc ?_ _)); refine blk_put (cs := #[.int .i64 t243, .int .i64 t244, .int .i64 t245, .int .i64 0, .string (⟨#[]⟩ : ByteArray), .int .i64 0, .int .i64 0, .string (⟨#[]⟩ : ByteArray)]) ?_ 3 _ rfl; (with_reducible repeat (first | refine blk_drewN ?_ _ | refine blk_drew ?_ | refine blk_alloc ?_ _)); refine blk_put (cs := #[.int .i64 t243, .int .i64 t244, .int .i64 0, .int .i64 0, .string (⟨#[]⟩ : ByteArray), .int .i64 0, .int .i64 0, .string (⟨#[]⟩ : ByteArray)]) ?_ 2 _ rfl; (with_reducible repeat (first | refine blk_drewN ?_ _ | refine blk_drew ?_ | refine blk_alloc ?_ _)); refine blk_put (cs := #[.int .i64 t243, .int .i64 0, .int .i64 0, .int .i64 0, .string (⟨#[]⟩ : ByteArray), .int .i64 0, .int .i64 0, .string (⟨#[]⟩ : ByteArray)]) ?_ 1 _ rfl; (with_reducible repeat (first | refine blk_drewN ?_ _ | refine blk_drew ?_ | refine blk_alloc ?_ _)); refine blk_put (cs := #[.int .i64 0, .int .i64 0, .int .i64 0, .int .i64 0, .string (⟨#[]⟩ : ByteArray), .int .i64 0, .int .i64 0, .string (⟨#[]⟩ : ByteArray)]) ?_ 0 _ rfl; (with_reducible repeat (first | refine blk_drewN ?_ _ | refine blk_drew ?_ | refine blk_alloc ?_ _)); exact BK251.out⟩, ⟨by repeat (first | (with_reducible first | exact HB.out | apply below_alloc | apply pw_below_drewN | apply below_drew1 | refine below_set ?_ GE240.out | refine below_set ?_ GE251.out) | exact HB.out)⟩⟩
        case round =>
          clear H'
          try clear c1
          try clear p2
          try clear c3
          try clear c8
          try clear c9
          try clear c10
          try clear c14
          try clear hcz15_0
          try clear hcz15_1
          try clear hcz15_2
          try clear hcz15_3
          try clear hcz15_4
          try clear hcz15_5
          try clear hcz15_6
          try clear hcz15_7
          try clear hfz15_0
          try clear hfz15_1
          try clear hfz15_2
          try clear hfz15_3
          try clear hfz15_4
          try clear hfz15_5
          try clear hfz15_6
          try clear hfz15_7
          try clear p2
          obtain ⟨x9_2, x10_2, rfl, rfl, HA, HK2, BK240, BK251, HB⟩ := hrel
          cases gk with
          | zero => exact absurd HA.out (by simp [law14_ZoneTrue.l0])
          | succ k2 =>
            have H := HA.out
            clear HA
            simp only [law14_ZoneTrue.l0] at H
            by_cases c16 : x10_2 < (l0.length : Int)
            · rw [if_pos c16] at H
              have c16b0 : decide (x10_2 < (l0.length : Int)) = true := decide_eq_true c16
              clear c16
              by_cases c17 : 0 ≤ x10_2
              · rw [if_pos c17] at H
                have c17b0 : decide (0 ≤ x10_2) = true := decide_eq_true c17
                clear c17
                replace H := Option.bind_eq_some_iff.mp H
                obtain ⟨t253, A180, H⟩ := H
                replace H : (if t253 = true then (law14_ZoneTrue.l0 k2 l0 t241 (wrap64 (x9_2 + 1)) (wrap64 (x10_2 + 1)) a2_0 a2_1 a2_2 a2_3 a2_4 t243 t244 t245 t246 t247 t248 t249 t250) else (law14_ZoneTrue.l0 k2 l0 t241 x9_2 (wrap64 (x10_2 + 1)) a2_0 a2_1 a2_2 a2_3 a2_4 t243 t244 t245 t246 t247 t248 t249 t250)) = some r := H
                have A18 := Aside0.mk A180
                clear A180
                by_cases c19 : t253 = true
                · subst c19
                  have H1 : (law14_ZoneTrue.l0 k2 l0 t241 (wrap64 (x9_2 + 1)) (wrap64 (x10_2 + 1)) a2_0 a2_1 a2_2 a2_3 a2_4 t243 t244 t245 t246 t247 t248 t249 t250) = some r := by rw [if_pos rfl] at H; exact H
                  clear H
                  have H := H1
                  clear H1
                  have H' := Aside0.mk H
                  clear H
                  try go_wp2
                  have n0_ := Aside0.mk (blk_drew BK240.out)
                  have n1_ := Aside0.mk (blk_drew BK251.out)
                  have n2_ := Aside0.mk (below_drew1 HB.out)
                  clear BK240
                  clear BK251
                  clear HB
                  have BK240 := n0_
                  have BK251 := n1_
                  have HB := n2_
                  clear n0_ n1_ n2_
                  have p252 : 0 ≤ (x10_2 : Int) := of_decide_eq_true (by first | (with_reducible assumption) | assumption)
                  have q252 : x10_2 < (l0.length : Int) := of_decide_eq_true (by first | (with_reducible assumption) | assumption)
                  obtain ⟨ad252, e252, hx252_0, hx252_1, hx252_2⟩ := at_T24 HR0.out x10_2 p252 q252
                  have hw252_2 := hx252_2
                  have hw252_1 := hx252_1
                  have hw252_0 := hx252_0
                  cases e252
                  replace hx252_0 := (HB.out.cell (World.block_lt_of_cell? w _ hx252_0)).trans hx252_0
                  replace hx252_1 := (HB.out.cell (World.block_lt_of_cell? w _ hx252_1)).trans hx252_1
                  replace hx252_2 := (HB.out.cell (World.block_lt_of_cell? w _ hx252_2)).trans hx252_2
                  replace p252 := eq_true p252
                  replace q252 := eq_true q252
                  refine start_ (n := 6) (S := fun w' => w'.cell? ⟨gb240, 0, none⟩ = some (.int .i64 a2_0) ∧ w'.cell? ⟨gb240, 1, none⟩ = some (.int .i64 a2_1) ∧ w'.cell? ⟨gb240, 2, none⟩ = some (.int .i64 a2_2) ∧ w'.cell? ⟨gb240, 3, none⟩ = some (.int .i64 a2_3) ∧ w'.cell? ⟨gb240, 4, none⟩ = some (.string a2_4) ∧ w'.cell? (ad252.add ((x10_2).toNat * 3)) = some (.int .i64 ((rd_T24 l0 x10_2).f0)) ∧ w'.cell? ⟨(ad252.add ((x10_2).toNat * 3)).block, (ad252.add ((x10_2).toNat * 3)).off + 1, none⟩ = some (.int .i64 ((rd_T24 l0 x10_2).f1)) ∧ w'.cell? ⟨(ad252.add ((x10_2).toNat * 3)).block, (ad252.add ((x10_2).toNat * 3)).off + 2, none⟩ = some (.string ((rd_T24 l0 x10_2).f2))) (ds := []) #[false, false, false, false, false, false] (by kernel_rfl) rfl rfl ⟨(blk_cell BK240.out 0).trans rfl, (blk_cell BK240.out 1).trans rfl, (blk_cell BK240.out 2).trans rfl, (blk_cell BK240.out 3).trans rfl, (blk_cell BK240.out 4).trans rfl, ((HB.out.cell (World.block_lt_of_cell? w _ hw252_0)).trans hw252_0), ((HB.out.cell (World.block_lt_of_cell? w _ hw252_1)).trans hw252_1), ((HB.out.cell (World.block_lt_of_cell? w _ hw252_2)).trans hw252_2)⟩ (fun hHeld => ?_)
                  generalize wr.drew = w20 at BK240 BK251 HB hx252_0 hx252_1 hx252_2 hHeld ⊢
                  refine pure_ (i := 1) (N := some 30) (v := ?_) (a' := ?_) #[false, true, false, false, false, false] rfl rfl (by kernel_rfl) (fun _ _ _ h => h) (Or.inl ⟨by rfl, ?_⟩) ?_ ?_
                  rotate_left
                  · intro w'
                    go_simp
                    with_reducible rfl
                  rotate_left
                  · simp only [Act.put, List.setIfInBounds_toArray, List.set_cons_zero, List.set_cons_succ, i64_w, i32_w]
                    rfl
                  refine pure_ (i := 2) (N := some 31) (v := ?_) (a' := ?_) #[false, true, true, false, false, false] rfl rfl (by kernel_rfl) (fun _ _ _ h => h) (Or.inl ⟨by rfl, ?_⟩) ?_ ?_
                  rotate_left
                  · intro w'
                    go_simp
                    with_reducible rfl
                  rotate_left
                  · simp only [Act.put, List.setIfInBounds_toArray, List.set_cons_zero, List.set_cons_succ, i64_w, i32_w]
                    rfl
                  refine pure_ (i := 3) (N := some 32) (v := ?_) (a' := ?_) #[false, true, true, true, false, false] rfl rfl (by kernel_rfl) (fun _ _ _ h => h) (Or.inl ⟨by rfl, ?_⟩) ?_ ?_
                  rotate_left
                  · intro w'
                    go_simp
                    with_reducible rfl
                  rotate_left
                  · simp only [Act.put, List.setIfInBounds_toArray, List.set_cons_zero, List.set_cons_succ, i64_w, i32_w]
                    rfl
                  refine take_ (i := 0) (N := some 29) (v := ?_) (a' := ?_) #[true, true, true, true, false, false] rfl rfl (by kernel_rfl) (fun _ _ _ h => h) (Or.inl ⟨by rfl, ?_⟩) hHeld ?_ ?_
                  rotate_left
                  · rintro w' ⟨s0, s1, s2, s3, s4, s5, s6, s7⟩
                    go_simp
                    with_reducible rfl
                  rotate_left
                  · simp only [Act.put, List.setIfInBounds_toArray, List.set_cons_zero, List.set_cons_succ, i64_w, i32_w]
                    rfl
                  refine take_ (i := 4) (N := some 33) (v := ?_) (a' := ?_) #[true, true, true, true, true, false] rfl rfl (by kernel_rfl) (fun _ _ _ h => h) (Or.inl ⟨by rfl, ?_⟩) hHeld ?_ ?_
                  rotate_left
                  · rintro w' ⟨s0, s1, s2, s3, s4, s5, s6, s7⟩
                    go_simp
                    with_reducible rfl
                  rotate_left
                  · simp only [Act.put, List.setIfInBounds_toArray, List.set_cons_zero, List.set_cons_succ, i64_w, i32_w]
                    rfl
                  refine one_ (i := 5) (N := some 34) #[true, true, true, true, true, true] rfl rfl (by kernel_rfl) (by decide) (fun K hK => ?_)
                  refine goes_ Try.func11 (by kernel_rfl) rfl #[.agg #[.int .i64 a2_0, .int .i64 a2_1, .int .i64 a2_2, .int .i64 a2_3, .string a2_4], .agg #[.int .i64 ((rd_T24 l0 x10_2).f0), .int .i64 ((rd_T24 l0 x10_2).f1), .string ((rd_T24 l0 x10_2).f2)]] (by rfl) rfl rfl (by (try simp only [List.map_toArray, List.map_cons, List.map_nil]); first | done | rfl | (simp only [List.length_drop, List.length_take]; rfl)) ?_
                  with_reducible refine (ref13_Holds.calls k2 a2_0 a2_1 a2_2 a2_3 a2_4 ((rd_T24 l0 x10_2).f0) ((rd_T24 l0 x10_2).f1) ((rd_T24 l0 x10_2).f2) true _ A18.out).mono ?_
                  rintro e w21 ⟨rfl, hb⟩
                  refine ⟨_, rfl, ?_⟩
                  have n0_ := Aside0.mk (blk_below (g := gb240) (o := .cells #[.int .i64 a2_0, .int .i64 a2_1, .int .i64 a2_2, .int .i64 a2_3, .string a2_4] 26 (0, 0)) (by (with_reducible repeat (first | refine blk_drewN ?_ _ | refine blk_drew ?_ | refine blk_alloc ?_ _)); exact BK240.out) hb)
                  have n1_ := Aside0.mk (blk_below (g := gb251) (o := .cells #[.int .i64 t243, .int .i64 t244, .int .i64 t245, .int .i64 t246, .string t247, .int .i64 t248, .int .i64 t249, .string t250] 30 (0, 0)) (by (with_reducible repeat (first | refine blk_drewN ?_ _ | refine blk_drew ?_ | refine blk_alloc ?_ _)); exact BK251.out) hb)
                  have n2_ := Aside0.mk (below_step (by repeat (first | (with_reducible first | exact HB.out | apply below_alloc | apply pw_below_drewN | apply below_drew1 | refine below_set ?_ GE240.out | refine below_set ?_ GE251.out) | exact HB.out)) hb)
                  clear BK240
                  clear BK251
                  clear HB
                  have BK240 := n0_
                  have BK251 := n1_
                  have HB := n2_
                  clear n0_ n1_ n2_
                  (try clear hb)
                  (try clear hb2)
                  (try clear hk)
                  (try clear hi)
                  refine hK.out _ _ ⟨(blk_cell BK240.out 0).trans rfl, (blk_cell BK240.out 1).trans rfl, (blk_cell BK240.out 2).trans rfl, (blk_cell BK240.out 3).trans rfl, (blk_cell BK240.out 4).trans rfl, ((HB.out.cell (World.block_lt_of_cell? w _ hw252_0)).trans hw252_0), ((HB.out.cell (World.block_lt_of_cell? w _ hw252_1)).trans hw252_1), ((HB.out.cell (World.block_lt_of_cell? w _ hw252_2)).trans hw252_2)⟩ (fun hHeld => ?_)
                  clear hK K
                  refine norm_ (a' := ?_) ?_ ?_
                  rotate_left
                  · show Act.put _ (some 34) _ = _
                    simp only [Act.put, List.setIfInBounds_toArray, List.set_cons_zero, List.set_cons_succ, i64_w, i32_w]
                    rfl
                  refine done_ (by kernel_rfl) ?_
                  try go_wp2
                  go_roundg k2
                  case measure => have := HJ4.out; have := HK2.out; omega
                  case rel => exact ⟨(wrap64 (x9_2 + 1)), (wrap64 (x10_2 + 1)), (by first | rfl | (simp; done) | (simp [*]; done)), (by first | rfl | (simp; done) | (simp [*]; done)), H', ⟨by have := HJ4.out; have := HK2.out; omega⟩, ⟨by (with_reducible repeat (first | refine blk_drewN ?_ _ | refine blk_drew ?_ | refine blk_alloc ?_ _)); exact BK240.out⟩, ⟨by (with_reducible repeat (first | refine blk_drewN ?_ _ | refine blk_drew ?_ | refine blk_alloc ?_ _)); exact BK251.out⟩, ⟨by repeat (first | (with_reducible first | exact HB.out | apply below_alloc | apply pw_below_drewN | apply below_drew1 | refine below_set ?_ GE240.out | refine below_set ?_ GE251.out) | exact HB.out)⟩⟩
                · replace c19 := Bool.eq_false_iff.mpr c19
                  subst c19
                  have H1 : (law14_ZoneTrue.l0 k2 l0 t241 x9_2 (wrap64 (x10_2 + 1)) a2_0 a2_1 a2_2 a2_3 a2_4 t243 t244 t245 t246 t247 t248 t249 t250) = some r := by rw [if_neg (show ¬ (false = true) by decide)] at H; exact H
                  clear H
                  have H := H1
                  clear H1
                  have H' := Aside0.mk H
                  clear H
                  try go_wp2
                  have n0_ := Aside0.mk (blk_drew BK240.out)
                  have n1_ := Aside0.mk (blk_drew BK251.out)
                  have n2_ := Aside0.mk (below_drew1 HB.out)
                  clear BK240
                  clear BK251
                  clear HB
                  have BK240 := n0_
                  have BK251 := n1_
                  have HB := n2_
                  clear n0_ n1_ n2_
                  have p252 : 0 ≤ (x10_2 : Int) := of_decide_eq_true (by first | (with_reducible assumption) | assumption)
                  have q252 : x10_2 < (l0.length : Int) := of_decide_eq_true (by first | (with_reducible assumption) | assumption)
                  obtain ⟨ad252, e252, hx252_0, hx252_1, hx252_2⟩ := at_T24 HR0.out x10_2 p252 q252
                  have hw252_2 := hx252_2
                  have hw252_1 := hx252_1
                  have hw252_0 := hx252_0
                  cases e252
                  replace hx252_0 := (HB.out.cell (World.block_lt_of_cell? w _ hx252_0)).trans hx252_0
                  replace hx252_1 := (HB.out.cell (World.block_lt_of_cell? w _ hx252_1)).trans hx252_1
                  replace hx252_2 := (HB.out.cell (World.block_lt_of_cell? w _ hx252_2)).trans hx252_2
                  replace p252 := eq_true p252
                  replace q252 := eq_true q252
                  refine start_ (n := 6) (S := fun w' => w'.cell? ⟨gb240, 0, none⟩ = some (.int .i64 a2_0) ∧ w'.cell? ⟨gb240, 1, none⟩ = some (.int .i64 a2_1) ∧ w'.cell? ⟨gb240, 2, none⟩ = some (.int .i64 a2_2) ∧ w'.cell? ⟨gb240, 3, none⟩ = some (.int .i64 a2_3) ∧ w'.cell? ⟨gb240, 4, none⟩ = some (.string a2_4) ∧ w'.cell? (ad252.add ((x10_2).toNat * 3)) = some (.int .i64 ((rd_T24 l0 x10_2).f0)) ∧ w'.cell? ⟨(ad252.add ((x10_2).toNat * 3)).block, (ad252.add ((x10_2).toNat * 3)).off + 1, none⟩ = some (.int .i64 ((rd_T24 l0 x10_2).f1)) ∧ w'.cell? ⟨(ad252.add ((x10_2).toNat * 3)).block, (ad252.add ((x10_2).toNat * 3)).off + 2, none⟩ = some (.string ((rd_T24 l0 x10_2).f2))) (ds := []) #[false, false, false, false, false, false] (by kernel_rfl) rfl rfl ⟨(blk_cell BK240.out 0).trans rfl, (blk_cell BK240.out 1).trans rfl, (blk_cell BK240.out 2).trans rfl, (blk_cell BK240.out 3).trans rfl, (blk_cell BK240.out 4).trans rfl, ((HB.out.cell (World.block_lt_of_cell? w _ hw252_0)).trans hw252_0), ((HB.out.cell (World.block_lt_of_cell? w _ hw252_1)).trans hw252_1), ((HB.out.cell (World.block_lt_of_cell? w _ hw252_2)).trans hw252_2)⟩ (fun hHeld => ?_)
                  generalize wr.drew = w22 at BK240 BK251 HB hx252_0 hx252_1 hx252_2 hHeld ⊢
                  refine pure_ (i := 1) (N := some 30) (v := ?_) (a' := ?_) #[false, true, false, false, false, false] rfl rfl (by kernel_rfl) (fun _ _ _ h => h) (Or.inl ⟨by rfl, ?_⟩) ?_ ?_
                  rotate_left
                  · intro w'
                    go_simp
                    with_reducible rfl
                  rotate_left
                  · simp only [Act.put, List.setIfInBounds_toArray, List.set_cons_zero, List.set_cons_succ, i64_w, i32_w]
                    rfl
                  refine pure_ (i := 2) (N := some 31) (v := ?_) (a' := ?_) #[false, true, true, false, false, false] rfl rfl (by kernel_rfl) (fun _ _ _ h => h) (Or.inl ⟨by rfl, ?_⟩) ?_ ?_
                  rotate_left
                  · intro w'
                    go_simp
                    with_reducible rfl
                  rotate_left
                  · simp only [Act.put, List.setIfInBounds_toArray, List.set_cons_zero, List.set_cons_succ, i64_w, i32_w]
                    rfl
                  refine pure_ (i := 3) (N := some 32) (v := ?_) (a' := ?_) #[false, true, true, true, false, false] rfl rfl (by kernel_rfl) (fun _ _ _ h => h) (Or.inl ⟨by rfl, ?_⟩) ?_ ?_
                  rotate_left
                  · intro w'
                    go_simp
                    with_reducible rfl
                  rotate_left
                  · simp only [Act.put, List.setIfInBounds_toArray, List.set_cons_zero, List.set_cons_succ, i64_w, i32_w]
                    rfl
                  refine take_ (i := 0) (N := some 29) (v := ?_) (a' := ?_) #[true, true, true, true, false, false] rfl rfl (by kernel_rfl) (fun _ _ _ h => h) (Or.inl ⟨by rfl, ?_⟩) hHeld ?_ ?_
                  rotate_left
                  · rintro w' ⟨s0, s1, s2, s3, s4, s5, s6, s7⟩
                    go_simp
                    with_reducible rfl
                  rotate_left
                  · simp only [Act.put, List.setIfInBounds_toArray, List.set_cons_zero, List.set_cons_succ, i64_w, i32_w]
                    rfl
                  refine take_ (i := 4) (N := some 33) (v := ?_) (a' := ?_) #[true, true, true, true, true, false] rfl rfl (by kernel_rfl) (fun _ _ _ h => h) (Or.inl ⟨by rfl, ?_⟩) hHeld ?_ ?_
                  rotate_left
                  · rintro w' ⟨s0, s1, s2, s3, s4, s5, s6, s7⟩
                    go_simp
                    with_reducible rfl
                  rotate_left
                  · simp only [Act.put, List.setIfInBounds_toArray, List.set_cons_zero, List.set_cons_succ, i64_w, i32_w]
                    rfl
                  refine one_ (i := 5) (N := some 34) #[true, true, true, true, true, true] rfl rfl (by kernel_rfl) (by decide) (fun K hK => ?_)
                  refine goes_ Try.func11 (by kernel_rfl) rfl #[.agg #[.int .i64 a2_0, .int .i64 a2_1, .int .i64 a2_2, .int .i64 a2_3, .string a2_4], .agg #[.int .i64 ((rd_T24 l0 x10_2).f0), .int .i64 ((rd_T24 l0 x10_2).f1), .string ((rd_T24 l0 x10_2).f2)]] (by rfl) rfl rfl (by (try simp only [List.map_toArray, List.map_cons, List.map_nil]); first | done | rfl | (simp only [List.length_drop, List.length_take]; rfl)) ?_
                  with_reducible refine (ref13_Holds.calls k2 a2_0 a2_1 a2_2 a2_3 a2_4 ((rd_T24 l0 x10_2).f0) ((rd_T24 l0 x10_2).f1) ((rd_T24 l0 x10_2).f2) false _ A18.out).mono ?_
                  rintro e w23 ⟨rfl, hb⟩
                  refine ⟨_, rfl, ?_⟩
                  have n0_ := Aside0.mk (blk_below (g := gb240) (o := .cells #[.int .i64 a2_0, .int .i64 a2_1, .int .i64 a2_2, .int .i64 a2_3, .string a2_4] 26 (0, 0)) (by (with_reducible repeat (first | refine blk_drewN ?_ _ | refine blk_drew ?_ | refine blk_alloc ?_ _)); exact BK240.out) hb)
                  have n1_ := Aside0.mk (blk_below (g := gb251) (o := .cells #[.int .i64 t243, .int .i64 t244, .int .i64 t245, .int .i64 t246, .string t247, .int .i64 t248, .int .i64 t249, .string t250] 30 (0, 0)) (by (with_reducible repeat (first | refine blk_drewN ?_ _ | refine blk_drew ?_ | refine blk_alloc ?_ _)); exact BK251.out) hb)
                  have n2_ := Aside0.mk (below_step (by repeat (first | (with_reducible first | exact HB.out | apply below_alloc | apply pw_below_drewN | apply below_drew1 | refine below_set ?_ GE240.out | refine below_set ?_ GE251.out) | exact HB.out)) hb)
                  clear BK240
                  clear BK251
                  clear HB
                  have BK240 := n0_
                  have BK251 := n1_
                  have HB := n2_
                  clear n0_ n1_ n2_
                  (try clear hb)
                  (try clear hb2)
                  (try clear hk)
                  (try clear hi)
                  refine hK.out _ _ ⟨(blk_cell BK240.out 0).trans rfl, (blk_cell BK240.out 1).trans rfl, (blk_cell BK240.out 2).trans rfl, (blk_cell BK240.out 3).trans rfl, (blk_cell BK240.out 4).trans rfl, ((HB.out.cell (World.block_lt_of_cell? w _ hw252_0)).trans hw252_0), ((HB.out.cell (World.block_lt_of_cell? w _ hw252_1)).trans hw252_1), ((HB.out.cell (World.block_lt_of_cell? w _ hw252_2)).trans hw252_2)⟩ (fun hHeld => ?_)
                  clear hK K
                  refine norm_ (a' := ?_) ?_ ?_
                  rotate_left
                  · show Act.put _ (some 34) _ = _
                    simp only [Act.put, List.setIfInBounds_toArray, List.set_cons_zero, List.set_cons_succ, i64_w, i32_w]
                    rfl
                  refine done_ (by kernel_rfl) ?_
                  try go_wp2
                  go_roundg k2
                  case measure => have := HJ4.out; have := HK2.out; omega
                  case rel => exact ⟨(x9_2), (wrap64 (x10_2 + 1)), (by first | rfl | (simp; done) | (simp [*]; done)), (by first | rfl | (simp; done) | (simp [*]; done)), H', ⟨by have := HJ4.out; have := HK2.out; omega⟩, ⟨by (with_reducible repeat (first | refine blk_drewN ?_ _ | refine blk_drew ?_ | refine blk_alloc ?_ _)); exact BK240.out⟩, ⟨by (with_reducible repeat (first | refine blk_drewN ?_ _ | refine blk_drew ?_ | refine blk_alloc ?_ _)); exact BK251.out⟩, ⟨by repeat (first | (with_reducible first | exact HB.out | apply below_alloc | apply pw_below_drewN | apply below_drew1 | refine below_set ?_ GE240.out | refine below_set ?_ GE251.out) | exact HB.out)⟩⟩
              · rw [if_neg c17] at H
                exact absurd H (by simp)
            · rw [if_neg c16] at H
              have c16b0 : decide (x10_2 < (l0.length : Int)) = false := decide_eq_false c16
              clear c16
              have HC24 := Aside0.mk H
              clear H
              go_upto_region 11 with (fail)
              go_cut [54] (fun v54 wc => ∃ (kq : Nat) (x54_23 : Bool), v54 = .bool x54_23 ∧ Aside0 (law14_ZoneTrue.j2 kq l0 t241 x54_23 a2_0 a2_1 a2_2 a2_3 a2_4 t243 t244 t245 t246 t247 t248 t249 t250 = some r) ∧ Aside0 (kq ≤ k2) ∧ Aside0 (wc.heap[gb240]? = some (.cells #[.int .i64 a2_0, .int .i64 a2_1, .int .i64 a2_2, .int .i64 a2_3, .string a2_4] 26 (0, 0))) ∧ Aside0 (wc.heap[gb251]? = some (.cells #[.int .i64 t243, .int .i64 t244, .int .i64 t245, .int .i64 t246, .string t247, .int .i64 t248, .int .i64 t249, .string t250] 30 (0, 0))) ∧ Aside0 (Below w.heap.size w wc))
              case first =>
                have H := HC24.out
                clear HC24
                replace H := Option.bind_eq_some_iff.mp H
                obtain ⟨t254, A250, H⟩ := H
                replace H : (if t254 = true then (if x9_2 = 0 then ((zone_Every.f t243 t244 t245 t246 t247 t248 t249 t250 a2_0 a2_1 a2_2 a2_3 a2_4).bind fun t255 => (if t255 = true then (law14_ZoneTrue.j2 k2 l0 t241 (x9_2 != (l0.length : Int)) a2_0 a2_1 a2_2 a2_3 a2_4 t243 t244 t245 t246 t247 t248 t249 t250) else (law14_ZoneTrue.j2 k2 l0 t241 false a2_0 a2_1 a2_2 a2_3 a2_4 t243 t244 t245 t246 t247 t248 t249 t250))) else (law14_ZoneTrue.j2 k2 l0 t241 true a2_0 a2_1 a2_2 a2_3 a2_4 t243 t244 t245 t246 t247 t248 t249 t250)) else ((zone_Every.f t243 t244 t245 t246 t247 t248 t249 t250 a2_0 a2_1 a2_2 a2_3 a2_4).bind fun t256 => (if t256 = true then (law14_ZoneTrue.j2 k2 l0 t241 (x9_2 != (l0.length : Int)) a2_0 a2_1 a2_2 a2_3 a2_4 t243 t244 t245 t246 t247 t248 t249 t250) else (law14_ZoneTrue.j2 k2 l0 t241 false a2_0 a2_1 a2_2 a2_3 a2_4 t243 t244 t245 t246 t247 t248 t249 t250)))) = some r := H
                have A25 := Aside0.mk A250
                clear A250
                by_cases c26 : t254 = true
                · subst c26
                  have H1 : (if x9_2 = 0 then ((zone_Every.f t243 t244 t245 t246 t247 t248 t249 t250 a2_0 a2_1 a2_2 a2_3 a2_4).bind fun t255 => (if t255 = true then (law14_ZoneTrue.j2 k2 l0 t241 (x9_2 != (l0.length : Int)) a2_0 a2_1 a2_2 a2_3 a2_4 t243 t244 t245 t246 t247 t248 t249 t250) else (law14_ZoneTrue.j2 k2 l0 t241 false a2_0 a2_1 a2_2 a2_3 a2_4 t243 t244 t245 t246 t247 t248 t249 t250))) else (law14_ZoneTrue.j2 k2 l0 t241 true a2_0 a2_1 a2_2 a2_3 a2_4 t243 t244 t245 t246 t247 t248 t249 t250)) = some r := by rw [if_pos rfl] at H; exact H
                  clear H
                  have H := H1
                  clear H1
                  by_cases c27 : x9_2 = 0
                  · rw [if_pos c27] at H
                    have c27b0 : (x9_2 == 0) = true := beq_iff_eq.mpr c27
                    have c27b1 : (x9_2 != 0) = false := bne_eq_false_iff_eq.mpr c27
                    clear c27
                    (first | rw [c27b0] | (simp only [i64_w, i32_w]; rw [c27b0]) | skip)
                    replace H := Option.bind_eq_some_iff.mp H
                    obtain ⟨t255, A280, H⟩ := H
                    replace H : (if t255 = true then (law14_ZoneTrue.j2 k2 l0 t241 (x9_2 != (l0.length : Int)) a2_0 a2_1 a2_2 a2_3 a2_4 t243 t244 t245 t246 t247 t248 t249 t250) else (law14_ZoneTrue.j2 k2 l0 t241 false a2_0 a2_1 a2_2 a2_3 a2_4 t243 t244 t245 t246 t247 t248 t249 t250)) = some r := H
                    have A28 := Aside0.mk A280
                    clear A280
                    by_cases c29 : t255 = true
                    · subst c29
                      have H1 : (law14_ZoneTrue.j2 k2 l0 t241 (x9_2 != (l0.length : Int)) a2_0 a2_1 a2_2 a2_3 a2_4 t243 t244 t245 t246 t247 t248 t249 t250) = some r := by rw [if_pos rfl] at H; exact H
                      clear H
                      have H := H1
                      clear H1
                      have H' := Aside0.mk H
                      clear H
                      have hnb30 := NB251_240.out
                      have hnc30 := NB240_251.out
                      have hcz31_0 : wr.cell? ⟨gb251, 0, none⟩ = some (.int .i64 t243) := (blk_cell BK251.out 0).trans rfl
                      have hcz31_1 : wr.cell? ⟨gb251, 1, none⟩ = some (.int .i64 t244) := (blk_cell BK251.out 1).trans rfl
                      have hcz31_2 : wr.cell? ⟨gb251, 2, none⟩ = some (.int .i64 t245) := (blk_cell BK251.out 2).trans rfl
                      have hcz31_3 : wr.cell? ⟨gb251, 3, none⟩ = some (.int .i64 t246) := (blk_cell BK251.out 3).trans rfl
                      have hcz31_4 : wr.cell? ⟨gb251, 4, none⟩ = some (.string t247) := (blk_cell BK251.out 4).trans rfl
                      have hcz31_5 : wr.cell? ⟨gb251, 5, none⟩ = some (.int .i64 t248) := (blk_cell BK251.out 5).trans rfl
                      have hcz31_6 : wr.cell? ⟨gb251, 6, none⟩ = some (.int .i64 t249) := (blk_cell BK251.out 6).trans rfl
                      have hcz31_7 : wr.cell? ⟨gb251, 7, none⟩ = some (.string t250) := (blk_cell BK251.out 7).trans rfl
                      have hfz31_0 := blk_frozen BK251.out 0
                      have hfz31_1 := blk_frozen BK251.out 1
                      have hfz31_2 := blk_frozen BK251.out 2
                      have hfz31_3 := blk_frozen BK251.out 3
                      have hfz31_4 := blk_frozen BK251.out 4
                      have hfz31_5 := blk_frozen BK251.out 5
                      have hfz31_6 := blk_frozen BK251.out 6
                      have hfz31_7 := blk_frozen BK251.out 7
                      have hcz32_0 : wr.cell? ⟨gb240, 0, none⟩ = some (.int .i64 a2_0) := (blk_cell BK240.out 0).trans rfl
                      have hcz32_1 : wr.cell? ⟨gb240, 1, none⟩ = some (.int .i64 a2_1) := (blk_cell BK240.out 1).trans rfl
                      have hcz32_2 : wr.cell? ⟨gb240, 2, none⟩ = some (.int .i64 a2_2) := (blk_cell BK240.out 2).trans rfl
                      have hcz32_3 : wr.cell? ⟨gb240, 3, none⟩ = some (.int .i64 a2_3) := (blk_cell BK240.out 3).trans rfl
                      have hcz32_4 : wr.cell? ⟨gb240, 4, none⟩ = some (.string a2_4) := (blk_cell BK240.out 4).trans rfl
                      have hfz32_0 := blk_frozen BK240.out 0
                      have hfz32_1 := blk_frozen BK240.out 1
                      have hfz32_2 := blk_frozen BK240.out 2
                      have hfz32_3 := blk_frozen BK240.out 3
                      have hfz32_4 := blk_frozen BK240.out 4
                      go_wp2_with (first | ((with_reducible refine gate_callee (f := 12) rfl ?_); refine goesL_ (some 39) rfl rfl Try.func12 (by kernel_rfl) rfl #[.agg #[.int .i64 t243, .int .i64 t244, .int .i64 t245, .int .i64 t246, .string t247, .int .i64 t248, .int .i64 t249, .string t250], .agg #[.int .i64 a2_0, .int .i64 a2_1, .int .i64 a2_2, .int .i64 a2_3, .string a2_4]] rfl (by (try simp only [List.map_toArray, List.map_cons, List.map_nil]); first | done | rfl | (simp only [List.length_drop, List.length_take]; rfl)) ?_; (with_reducible refine (zone_None.calls t243 t244 t245 t246 t247 t248 t249 t250 a2_0 a2_1 a2_2 a2_3 a2_4 true _ A25.out).mono ?_); rintro e w33 ⟨rfl, hb⟩; refine ⟨_, rfl, ?_⟩; have n0_ := Aside0.mk (blk_below (g := gb240) (o := .cells #[.int .i64 a2_0, .int .i64 a2_1, .int .i64 a2_2, .int .i64 a2_3, .string a2_4] 26 (0, 0)) (by (with_reducible repeat (first | refine blk_drewN ?_ _ | refine blk_drew ?_ | refine blk_alloc ?_ _)); exact BK240.out) hb); have n1_ := Aside0.mk (blk_below (g := gb251) (o := .cells #[.int .i64 t243, .int .i64 t244, .int .i64 t245, .int .i64 t246, .string t247, .int .i64 t248, .int .i64 t249, .string t250] 30 (0, 0)) (by (with_reducible repeat (first | refine blk_drewN ?_ _ | refine blk_drew ?_ | refine blk_alloc ?_ _)); exact BK251.out) hb); have n2_ := Aside0.mk (below_step (by repeat (first | (with_reducible first | exact HB.out | apply below_alloc | apply pw_below_drewN | apply below_drew1 | refine below_set ?_ GE240.out | refine below_set ?_ GE251.out) | exact HB.out)) hb); clear BK240; clear BK251; clear HB; have BK240 := n0_; have BK251 := n1_; have HB := n2_; clear n0_ n1_ n2_; (try clear hb); (try clear hb2); (try clear hk); (try clear hi); have hcz34_0 : w33.cell? ⟨gb251, 0, none⟩ = some (.int .i64 t243) := (blk_cell BK251.out 0).trans rfl; have hcz34_1 : w33.cell? ⟨gb251, 1, none⟩ = some (.int .i64 t244) := (blk_cell BK251.out 1).trans rfl; have hcz34_2 : w33.cell? ⟨gb251, 2, none⟩ = some (.int .i64 t245) := (blk_cell BK251.out 2).trans rfl; have hcz34_3 : w33.cell? ⟨gb251, 3, none⟩ = some (.int .i64 t246) := (blk_cell BK251.out 3).trans rfl; have hcz34_4 : w33.cell? ⟨gb251, 4, none⟩ = some (.string t247) := (blk_cell BK251.out 4).trans rfl; have hcz34_5 : w33.cell? ⟨gb251, 5, none⟩ = some (.int .i64 t248) := (blk_cell BK251.out 5).trans rfl; have hcz34_6 : w33.cell? ⟨gb251, 6, none⟩ = some (.int .i64 t249) := (blk_cell BK251.out 6).trans rfl; have hcz34_7 : w33.cell? ⟨gb251, 7, none⟩ = some (.string t250) := (blk_cell BK251.out 7).trans rfl; have hfz34_0 := blk_frozen BK251.out 0; have hfz34_1 := blk_frozen BK251.out 1; have hfz34_2 := blk_frozen BK251.out 2; have hfz34_3 := blk_frozen BK251.out 3; have hfz34_4 := blk_frozen BK251.out 4; have hfz34_5 := blk_frozen BK251.out 5; have hfz34_6 := blk_frozen BK251.out 6; have hfz34_7 := blk_frozen BK251.out 7; have hcz35_0 : w33.cell? ⟨gb240, 0, none⟩ = some (.int .i64 a2_0) := (blk_cell BK240.out 0).trans rfl; have hcz35_1 : w33.cell? ⟨gb240, 1, none⟩ = some (.int .i64 a2_1) := (blk_cell BK240.out 1).trans rfl; have hcz35_2 : w33.cell? ⟨gb240, 2, none⟩ = some (.int .i64 a2_2) := (blk_cell BK240.out 2).trans rfl; have hcz35_3 : w33.cell? ⟨gb240, 3, none⟩ = some (.int .i64 a2_3) := (blk_cell BK240.out 3).trans rfl; have hcz35_4 : w33.cell? ⟨gb240, 4, none⟩ = some (.string a2_4) := (blk_cell BK240.out 4).trans rfl; have hfz35_0 := blk_frozen BK240.out 0; have hfz35_1 := blk_frozen BK240.out 1; have hfz35_2 := blk_frozen BK240.out 2; have hfz35_3 := blk_frozen BK240.out 3; have hfz35_4 := blk_frozen BK240.out 4) | (go_at_call 13; (with_reducible refine (zone_Every.calls t243 t244 t245 t246 t247 t248 t249 t250 a2_0 a2_1 a2_2 a2_3 a2_4 true _ A28.out).mono ?_); rintro e w36 ⟨rfl, hb⟩; have n0_ := Aside0.mk (blk_below (g := gb240) (o := .cells #[.int .i64 a2_0, .int .i64 a2_1, .int .i64 a2_2, .int .i64 a2_3, .string a2_4] 26 (0, 0)) (by (with_reducible repeat (first | refine blk_drewN ?_ _ | refine blk_drew ?_ | refine blk_alloc ?_ _)); exact BK240.out) hb); have n1_ := Aside0.mk (blk_below (g := gb251) (o := .cells #[.int .i64 t243, .int .i64 t244, .int .i64 t245, .int .i64 t246, .string t247, .int .i64 t248, .int .i64 t249, .string t250] 30 (0, 0)) (by (with_reducible repeat (first | refine blk_drewN ?_ _ | refine blk_drew ?_ | refine blk_alloc ?_ _)); exact BK251.out) hb); have n2_ := Aside0.mk (below_step (by repeat (first | (with_reducible first | exact HB.out | apply below_alloc | apply pw_below_drewN | apply below_drew1 | refine below_set ?_ GE240.out | refine below_set ?_ GE251.out) | exact HB.out)) hb); clear BK240; clear BK251; clear HB; have BK240 := n0_; have BK251 := n1_; have HB := n2_; clear n0_ n1_ n2_; (try clear hb); (try clear hb2); (try clear hk); (try clear hi)))
                      go_meet
                      case rel => exact ⟨_, ((x9_2 != (l0.length : Int))), (by first | rfl | (simp; done) | (simp [*]; done)), H', ⟨by have := HJ4.out; have := HK2.out; first | omega | exact Nat.le_refl _⟩, ⟨by (with_reducible repeat (first | refine blk_drewN ?_ _ | refine blk_drew ?_ | refine blk_alloc ?_ _)); exact BK240.out⟩, ⟨by (with_reducible repeat (first | refine blk_drewN ?_ _ | refine blk_drew ?_ | refine blk_alloc ?_ _)); exact BK251.out⟩, ⟨by repeat (first | (with_reducible first | exact HB.out | apply below_alloc | apply pw_below_drewN | apply below_drew1 | refine below_set ?_ GE240.out | refine below_set ?_ GE251.out) | exact HB.out)⟩⟩
                    · replace c29 := Bool.eq_false_iff.mpr c29
                      subst c29
                      have H1 : (law14_ZoneTrue.j2 k2 l0 t241 false a2_0 a2_1 a2_2 a2_3 a2_4 t243 t244 t245 t246 t247 t248 t249 t250) = some r := by rw [if_neg (show ¬ (false = true) by decide)] at H; exact H
                      clear H
                      have H := H1
                      clear H1
                      have H' := Aside0.mk H
                      clear H
                      have hnb37 := NB251_240.out
                      have hnc37 := NB240_251.out
                      have hcz38_0 : wr.cell? ⟨gb251, 0, none⟩ = some (.int .i64 t243) := (blk_cell BK251.out 0).trans rfl
                      have hcz38_1 : wr.cell? ⟨gb251, 1, none⟩ = some (.int .i64 t244) := (blk_cell BK251.out 1).trans rfl
                      have hcz38_2 : wr.cell? ⟨gb251, 2, none⟩ = some (.int .i64 t245) := (blk_cell BK251.out 2).trans rfl
                      have hcz38_3 : wr.cell? ⟨gb251, 3, none⟩ = some (.int .i64 t246) := (blk_cell BK251.out 3).trans rfl
                      have hcz38_4 : wr.cell? ⟨gb251, 4, none⟩ = some (.string t247) := (blk_cell BK251.out 4).trans rfl
                      have hcz38_5 : wr.cell? ⟨gb251, 5, none⟩ = some (.int .i64 t248) := (blk_cell BK251.out 5).trans rfl
                      have hcz38_6 : wr.cell? ⟨gb251, 6, none⟩ = some (.int .i64 t249) := (blk_cell BK251.out 6).trans rfl
                      have hcz38_7 : wr.cell? ⟨gb251, 7, none⟩ = some (.string t250) := (blk_cell BK251.out 7).trans rfl
                      have hfz38_0 := blk_frozen BK251.out 0
                      have hfz38_1 := blk_frozen BK251.out 1
                      have hfz38_2 := blk_frozen BK251.out 2
                      have hfz38_3 := blk_frozen BK251.out 3
                      have hfz38_4 := blk_frozen BK251.out 4
                      have hfz38_5 := blk_frozen BK251.out 5
                      have hfz38_6 := blk_frozen BK251.out 6
                      have hfz38_7 := blk_frozen BK251.out 7
                      have hcz39_0 : wr.cell? ⟨gb240, 0, none⟩ = some (.int .i64 a2_0) := (blk_cell BK240.out 0).trans rfl
                      have hcz39_1 : wr.cell? ⟨gb240, 1, none⟩ = some (.int .i64 a2_1) := (blk_cell BK240.out 1).trans rfl
                      have hcz39_2 : wr.cell? ⟨gb240, 2, none⟩ = some (.int .i64 a2_2) := (blk_cell BK240.out 2).trans rfl
                      have hcz39_3 : wr.cell? ⟨gb240, 3, none⟩ = some (.int .i64 a2_3) := (blk_cell BK240.out 3).trans rfl
                      have hcz39_4 : wr.cell? ⟨gb240, 4, none⟩ = some (.string a2_4) := (blk_cell BK240.out 4).trans rfl
                      have hfz39_0 := blk_frozen BK240.out 0
                      have hfz39_1 := blk_frozen BK240.out 1
                      have hfz39_2 := blk_frozen BK240.out 2
                      have hfz39_3 := blk_frozen BK240.out 3
                      have hfz39_4 := blk_frozen BK240.out 4
                      go_wp2_with (first | ((with_reducible refine gate_callee (f := 12) rfl ?_); refine goesL_ (some 39) rfl rfl Try.func12 (by kernel_rfl) rfl #[.agg #[.int .i64 t243, .int .i64 t244, .int .i64 t245, .int .i64 t246, .string t247, .int .i64 t248, .int .i64 t249, .string t250], .agg #[.int .i64 a2_0, .int .i64 a2_1, .int .i64 a2_2, .int .i64 a2_3, .string a2_4]] rfl (by (try simp only [List.map_toArray, List.map_cons, List.map_nil]); first | done | rfl | (simp only [List.length_drop, List.length_take]; rfl)) ?_; (with_reducible refine (zone_None.calls t243 t244 t245 t246 t247 t248 t249 t250 a2_0 a2_1 a2_2 a2_3 a2_4 true _ A25.out).mono ?_); rintro e w40 ⟨rfl, hb⟩; refine ⟨_, rfl, ?_⟩; have n0_ := Aside0.mk (blk_below (g := gb240) (o := .cells #[.int .i64 a2_0, .int .i64 a2_1, .int .i64 a2_2, .int .i64 a2_3, .string a2_4] 26 (0, 0)) (by (with_reducible repeat (first | refine blk_drewN ?_ _ | refine blk_drew ?_ | refine blk_alloc ?_ _)); exact BK240.out) hb); have n1_ := Aside0.mk (blk_below (g := gb251) (o := .cells #[.int .i64 t243, .int .i64 t244, .int .i64 t245, .int .i64 t246, .string t247, .int .i64 t248, .int .i64 t249, .string t250] 30 (0, 0)) (by (with_reducible repeat (first | refine blk_drewN ?_ _ | refine blk_drew ?_ | refine blk_alloc ?_ _)); exact BK251.out) hb); have n2_ := Aside0.mk (below_step (by repeat (first | (with_reducible first | exact HB.out | apply below_alloc | apply pw_below_drewN | apply below_drew1 | refine below_set ?_ GE240.out | refine below_set ?_ GE251.out) | exact HB.out)) hb); clear BK240; clear BK251; clear HB; have BK240 := n0_; have BK251 := n1_; have HB := n2_; clear n0_ n1_ n2_; (try clear hb); (try clear hb2); (try clear hk); (try clear hi); have hcz41_0 : w40.cell? ⟨gb251, 0, none⟩ = some (.int .i64 t243) := (blk_cell BK251.out 0).trans rfl; have hcz41_1 : w40.cell? ⟨gb251, 1, none⟩ = some (.int .i64 t244) := (blk_cell BK251.out 1).trans rfl; have hcz41_2 : w40.cell? ⟨gb251, 2, none⟩ = some (.int .i64 t245) := (blk_cell BK251.out 2).trans rfl; have hcz41_3 : w40.cell? ⟨gb251, 3, none⟩ = some (.int .i64 t246) := (blk_cell BK251.out 3).trans rfl; have hcz41_4 : w40.cell? ⟨gb251, 4, none⟩ = some (.string t247) := (blk_cell BK251.out 4).trans rfl; have hcz41_5 : w40.cell? ⟨gb251, 5, none⟩ = some (.int .i64 t248) := (blk_cell BK251.out 5).trans rfl; have hcz41_6 : w40.cell? ⟨gb251, 6, none⟩ = some (.int .i64 t249) := (blk_cell BK251.out 6).trans rfl; have hcz41_7 : w40.cell? ⟨gb251, 7, none⟩ = some (.string t250) := (blk_cell BK251.out 7).trans rfl; have hfz41_0 := blk_frozen BK251.out 0; have hfz41_1 := blk_frozen BK251.out 1; have hfz41_2 := blk_frozen BK251.out 2; have hfz41_3 := blk_frozen BK251.out 3; have hfz41_4 := blk_frozen BK251.out 4; have hfz41_5 := blk_frozen BK251.out 5; have hfz41_6 := blk_frozen BK251.out 6; have hfz41_7 := blk_frozen BK251.out 7; have hcz42_0 : w40.cell? ⟨gb240, 0, none⟩ = some (.int .i64 a2_0) := (blk_cell BK240.out 0).trans rfl; have hcz42_1 : w40.cell? ⟨gb240, 1, none⟩ = some (.int .i64 a2_1) := (blk_cell BK240.out 1).trans rfl; have hcz42_2 : w40.cell? ⟨gb240, 2, none⟩ = some (.int .i64 a2_2) := (blk_cell BK240.out 2).trans rfl; have hcz42_3 : w40.cell? ⟨gb240, 3, none⟩ = some (.int .i64 a2_3) := (blk_cell BK240.out 3).trans rfl; have hcz42_4 : w40.cell? ⟨gb240, 4, none⟩ = some (.string a2_4) := (blk_cell BK240.out 4).trans rfl; have hfz42_0 := blk_frozen BK240.out 0; have hfz42_1 := blk_frozen BK240.out 1; have hfz42_2 := blk_frozen BK240.out 2; have hfz42_3 := blk_frozen BK240.out 3; have hfz42_4 := blk_frozen BK240.out 4) | (go_at_call 13; (with_reducible refine (zone_Every.calls t243 t244 t245 t246 t247 t248 t249 t250 a2_0 a2_1 a2_2 a2_3 a2_4 false _ A28.out).mono ?_); rintro e w43 ⟨rfl, hb⟩; have n0_ := Aside0.mk (blk_below (g := gb240) (o := .cells #[.int .i64 a2_0, .int .i64 a2_1, .int .i64 a2_2, .int .i64 a2_3, .string a2_4] 26 (0, 0)) (by (with_reducible repeat (first | refine blk_drewN ?_ _ | refine blk_drew ?_ | refine blk_alloc ?_ _)); exact BK240.out) hb); have n1_ := Aside0.mk (blk_below (g := gb251) (o := .cells #[.int .i64 t243, .int .i64 t244, .int .i64 t245, .int .i64 t246, .string t247, .int .i64 t248, .int .i64 t249, .string t250] 30 (0, 0)) (by (with_reducible repeat (first | refine blk_drewN ?_ _ | refine blk_drew ?_ | refine blk_alloc ?_ _)); exact BK251.out) hb); have n2_ := Aside0.mk (below_step (by repeat (first | (with_reducible first | exact HB.out | apply below_alloc | apply pw_below_drewN | apply below_drew1 | refine below_set ?_ GE240.out | refine below_set ?_ GE251.out) | exact HB.out)) hb); clear BK240; clear BK251; clear HB; have BK240 := n0_; have BK251 := n1_; have HB := n2_; clear n0_ n1_ n2_; (try clear hb); (try clear hb2); (try clear hk); (try clear hi)))
                      go_meet
                      case rel => exact ⟨_, (false), (by first | rfl | (simp; done) | (simp [*]; done)), H', ⟨by have := HJ4.out; have := HK2.out; first | omega | exact Nat.le_refl _⟩, ⟨by (with_reducible repeat (first | refine blk_drewN ?_ _ | refine blk_drew ?_ | refine blk_alloc ?_ _)); exact BK240.out⟩, ⟨by (with_reducible repeat (first | refine blk_drewN ?_ _ | refine blk_drew ?_ | refine blk_alloc ?_ _)); exact BK251.out⟩, ⟨by repeat (first | (with_reducible first | exact HB.out | apply below_alloc | apply pw_below_drewN | apply below_drew1 | refine below_set ?_ GE240.out | refine below_set ?_ GE251.out) | exact HB.out)⟩⟩
                  · rw [if_neg c27] at H
                    have c27b0 : (x9_2 == 0) = false := beq_eq_false_iff_ne.mpr c27
                    have c27b1 : (x9_2 != 0) = true := bne_iff_ne.mpr c27
                    (first | rw [c27b0] | (simp only [i64_w, i32_w]; rw [c27b0]) | skip)
                    have H' := Aside0.mk H
                    clear H
                    have hnb44 := NB251_240.out
                    have hnc44 := NB240_251.out
                    have hcz45_0 : wr.cell? ⟨gb251, 0, none⟩ = some (.int .i64 t243) := (blk_cell BK251.out 0).trans rfl
                    have hcz45_1 : wr.cell? ⟨gb251, 1, none⟩ = some (.int .i64 t244) := (blk_cell BK251.out 1).trans rfl
                    have hcz45_2 : wr.cell? ⟨gb251, 2, none⟩ = some (.int .i64 t245) := (blk_cell BK251.out 2).trans rfl
                    have hcz45_3 : wr.cell? ⟨gb251, 3, none⟩ = some (.int .i64 t246) := (blk_cell BK251.out 3).trans rfl
                    have hcz45_4 : wr.cell? ⟨gb251, 4, none⟩ = some (.string t247) := (blk_cell BK251.out 4).trans rfl
                    have hcz45_5 : wr.cell? ⟨gb251, 5, none⟩ = some (.int .i64 t248) := (blk_cell BK251.out 5).trans rfl
                    have hcz45_6 : wr.cell? ⟨gb251, 6, none⟩ = some (.int .i64 t249) := (blk_cell BK251.out 6).trans rfl
                    have hcz45_7 : wr.cell? ⟨gb251, 7, none⟩ = some (.string t250) := (blk_cell BK251.out 7).trans rfl
                    have hfz45_0 := blk_frozen BK251.out 0
                    have hfz45_1 := blk_frozen BK251.out 1
                    have hfz45_2 := blk_frozen BK251.out 2
                    have hfz45_3 := blk_frozen BK251.out 3
                    have hfz45_4 := blk_frozen BK251.out 4
                    have hfz45_5 := blk_frozen BK251.out 5
                    have hfz45_6 := blk_frozen BK251.out 6
                    have hfz45_7 := blk_frozen BK251.out 7
                    have hcz46_0 : wr.cell? ⟨gb240, 0, none⟩ = some (.int .i64 a2_0) := (blk_cell BK240.out 0).trans rfl
                    have hcz46_1 : wr.cell? ⟨gb240, 1, none⟩ = some (.int .i64 a2_1) := (blk_cell BK240.out 1).trans rfl
                    have hcz46_2 : wr.cell? ⟨gb240, 2, none⟩ = some (.int .i64 a2_2) := (blk_cell BK240.out 2).trans rfl
                    have hcz46_3 : wr.cell? ⟨gb240, 3, none⟩ = some (.int .i64 a2_3) := (blk_cell BK240.out 3).trans rfl
                    have hcz46_4 : wr.cell? ⟨gb240, 4, none⟩ = some (.string a2_4) := (blk_cell BK240.out 4).trans rfl
                    have hfz46_0 := blk_frozen BK240.out 0
                    have hfz46_1 := blk_frozen BK240.out 1
                    have hfz46_2 := blk_frozen BK240.out 2
                    have hfz46_3 := blk_frozen BK240.out 3
                    have hfz46_4 := blk_frozen BK240.out 4
                    go_wp2_with (first | ((with_reducible refine gate_callee (f := 12) rfl ?_); refine goesL_ (some 39) rfl rfl Try.func12 (by kernel_rfl) rfl #[.agg #[.int .i64 t243, .int .i64 t244, .int .i64 t245, .int .i64 t246, .string t247, .int .i64 t248, .int .i64 t249, .string t250], .agg #[.int .i64 a2_0, .int .i64 a2_1, .int .i64 a2_2, .int .i64 a2_3, .string a2_4]] rfl (by (try simp only [List.map_toArray, List.map_cons, List.map_nil]); first | done | rfl | (simp only [List.length_drop, List.length_take]; rfl)) ?_; (with_reducible refine (zone_None.calls t243 t244 t245 t246 t247 t248 t249 t250 a2_0 a2_1 a2_2 a2_3 a2_4 true _ A25.out).mono ?_); rintro e w47 ⟨rfl, hb⟩; refine ⟨_, rfl, ?_⟩; have n0_ := Aside0.mk (blk_below (g := gb240) (o := .cells #[.int .i64 a2_0, .int .i64 a2_1, .int .i64 a2_2, .int .i64 a2_3, .string a2_4] 26 (0, 0)) (by (with_reducible repeat (first | refine blk_drewN ?_ _ | refine blk_drew ?_ | refine blk_alloc ?_ _)); exact BK240.out) hb); have n1_ := Aside0.mk (blk_below (g := gb251) (o := .cells #[.int .i64 t243, .int .i64 t244, .int .i64 t245, .int .i64 t246, .string t247, .int .i64 t248, .int .i64 t249, .string t250] 30 (0, 0)) (by (with_reducible repeat (first | refine blk_drewN ?_ _ | refine blk_drew ?_ | refine blk_alloc ?_ _)); exact BK251.out) hb); have n2_ := Aside0.mk (below_step (by repeat (first | (with_reducible first | exact HB.out | apply below_alloc | apply pw_below_drewN | apply below_drew1 | refine below_set ?_ GE240.out | refine below_set ?_ GE251.out) | exact HB.out)) hb); clear BK240; clear BK251; clear HB; have BK240 := n0_; have BK251 := n1_; have HB := n2_; clear n0_ n1_ n2_; (try clear hb); (try clear hb2); (try clear hk); (try clear hi)))
                    go_meet
                    case rel => exact ⟨_, (true), (by first | rfl | (simp; done) | (simp [*]; done)), H', ⟨by have := HJ4.out; have := HK2.out; first | omega | exact Nat.le_refl _⟩, ⟨by (with_reducible repeat (first | refine blk_drewN ?_ _ | refine blk_drew ?_ | refine blk_alloc ?_ _)); exact BK240.out⟩, ⟨by (with_reducible repeat (first | refine blk_drewN ?_ _ | refine blk_drew ?_ | refine blk_alloc ?_ _)); exact BK251.out⟩, ⟨by repeat (first | (with_reducible first | exact HB.out | apply below_alloc | apply pw_below_drewN | apply below_drew1 | refine below_set ?_ GE240.out | refine below_set ?_ GE251.out) | exact HB.out)⟩⟩
                · replace c26 := Bool.eq_false_iff.mpr c26
                  subst c26
                  have H1 : ((zone_Every.f t243 t244 t245 t246 t247 t248 t249 t250 a2_0 a2_1 a2_2 a2_3 a2_4).bind fun t256 => (if t256 = true then (law14_ZoneTrue.j2 k2 l0 t241 (x9_2 != (l0.length : Int)) a2_0 a2_1 a2_2 a2_3 a2_4 t243 t244 t245 t246 t247 t248 t249 t250) else (law14_ZoneTrue.j2 k2 l0 t241 false a2_0 a2_1 a2_2 a2_3 a2_4 t243 t244 t245 t246 t247 t248 t249 t250))) = some r := by rw [if_neg (show ¬ (false = true) by decide)] at H; exact H
                  clear H
                  have H := H1
                  clear H1
                  replace H := Option.bind_eq_some_iff.mp H
                  obtain ⟨t256, A480, H⟩ := H
                  replace H : (if t256 = true then (law14_ZoneTrue.j2 k2 l0 t241 (x9_2 != (l0.length : Int)) a2_0 a2_1 a2_2 a2_3 a2_4 t243 t244 t245 t246 t247 t248 t249 t250) else (law14_ZoneTrue.j2 k2 l0 t241 false a2_0 a2_1 a2_2 a2_3 a2_4 t243 t244 t245 t246 t247 t248 t249 t250)) = some r := H
                  have A48 := Aside0.mk A480
                  clear A480
                  by_cases c49 : t256 = true
                  · subst c49
                    have H1 : (law14_ZoneTrue.j2 k2 l0 t241 (x9_2 != (l0.length : Int)) a2_0 a2_1 a2_2 a2_3 a2_4 t243 t244 t245 t246 t247 t248 t249 t250) = some r := by rw [if_pos rfl] at H; exact H
                    clear H
                    have H := H1
                    clear H1
                    have H' := Aside0.mk H
                    clear H
                    have hnb50 := NB251_240.out
                    have hnc50 := NB240_251.out
                    have hcz51_0 : wr.cell? ⟨gb251, 0, none⟩ = some (.int .i64 t243) := (blk_cell BK251.out 0).trans rfl
                    have hcz51_1 : wr.cell? ⟨gb251, 1, none⟩ = some (.int .i64 t244) := (blk_cell BK251.out 1).trans rfl
                    have hcz51_2 : wr.cell? ⟨gb251, 2, none⟩ = some (.int .i64 t245) := (blk_cell BK251.out 2).trans rfl
                    have hcz51_3 : wr.cell? ⟨gb251, 3, none⟩ = some (.int .i64 t246) := (blk_cell BK251.out 3).trans rfl
                    have hcz51_4 : wr.cell? ⟨gb251, 4, none⟩ = some (.string t247) := (blk_cell BK251.out 4).trans rfl
                    have hcz51_5 : wr.cell? ⟨gb251, 5, none⟩ = some (.int .i64 t248) := (blk_cell BK251.out 5).trans rfl
                    have hcz51_6 : wr.cell? ⟨gb251, 6, none⟩ = some (.int .i64 t249) := (blk_cell BK251.out 6).trans rfl
                    have hcz51_7 : wr.cell? ⟨gb251, 7, none⟩ = some (.string t250) := (blk_cell BK251.out 7).trans rfl
                    have hfz51_0 := blk_frozen BK251.out 0
                    have hfz51_1 := blk_frozen BK251.out 1
                    have hfz51_2 := blk_frozen BK251.out 2
                    have hfz51_3 := blk_frozen BK251.out 3
                    have hfz51_4 := blk_frozen BK251.out 4
                    have hfz51_5 := blk_frozen BK251.out 5
                    have hfz51_6 := blk_frozen BK251.out 6
                    have hfz51_7 := blk_frozen BK251.out 7
                    have hcz52_0 : wr.cell? ⟨gb240, 0, none⟩ = some (.int .i64 a2_0) := (blk_cell BK240.out 0).trans rfl
                    have hcz52_1 : wr.cell? ⟨gb240, 1, none⟩ = some (.int .i64 a2_1) := (blk_cell BK240.out 1).trans rfl
                    have hcz52_2 : wr.cell? ⟨gb240, 2, none⟩ = some (.int .i64 a2_2) := (blk_cell BK240.out 2).trans rfl
                    have hcz52_3 : wr.cell? ⟨gb240, 3, none⟩ = some (.int .i64 a2_3) := (blk_cell BK240.out 3).trans rfl
                    have hcz52_4 : wr.cell? ⟨gb240, 4, none⟩ = some (.string a2_4) := (blk_cell BK240.out 4).trans rfl
                    have hfz52_0 := blk_frozen BK240.out 0
                    have hfz52_1 := blk_frozen BK240.out 1
                    have hfz52_2 := blk_frozen BK240.out 2
                    have hfz52_3 := blk_frozen BK240.out 3
                    have hfz52_4 := blk_frozen BK240.out 4
                    go_wp2_with (first | ((with_reducible refine gate_callee (f := 12) rfl ?_); refine goesL_ (some 39) rfl rfl Try.func12 (by kernel_rfl) rfl #[.agg #[.int .i64 t243, .int .i64 t244, .int .i64 t245, .int .i64 t246, .string t247, .int .i64 t248, .int .i64 t249, .string t250], .agg #[.int .i64 a2_0, .int .i64 a2_1, .int .i64 a2_2, .int .i64 a2_3, .string a2_4]] rfl (by (try simp only [List.map_toArray, List.map_cons, List.map_nil]); first | done | rfl | (simp only [List.length_drop, List.length_take]; rfl)) ?_; (with_reducible refine (zone_None.calls t243 t244 t245 t246 t247 t248 t249 t250 a2_0 a2_1 a2_2 a2_3 a2_4 false _ A25.out).mono ?_); rintro e w53 ⟨rfl, hb⟩; refine ⟨_, rfl, ?_⟩; have n0_ := Aside0.mk (blk_below (g := gb240) (o := .cells #[.int .i64 a2_0, .int .i64 a2_1, .int .i64 a2_2, .int .i64 a2_3, .string a2_4] 26 (0, 0)) (by (with_reducible repeat (first | refine blk_drewN ?_ _ | refine blk_drew ?_ | refine blk_alloc ?_ _)); exact BK240.out) hb); have n1_ := Aside0.mk (blk_below (g := gb251) (o := .cells #[.int .i64 t243, .int .i64 t244, .int .i64 t245, .int .i64 t246, .string t247, .int .i64 t248, .int .i64 t249, .string t250] 30 (0, 0)) (by (with_reducible repeat (first | refine blk_drewN ?_ _ | refine blk_drew ?_ | refine blk_alloc ?_ _)); exact BK251.out) hb); have n2_ := Aside0.mk (below_step (by repeat (first | (with_reducible first | exact HB.out | apply below_alloc | apply pw_below_drewN | apply below_drew1 | refine below_set ?_ GE240.out | refine below_set ?_ GE251.out) | exact HB.out)) hb); clear BK240; clear BK251; clear HB; have BK240 := n0_; have BK251 := n1_; have HB := n2_; clear n0_ n1_ n2_; (try clear hb); (try clear hb2); (try clear hk); (try clear hi); have hcz54_0 : w53.cell? ⟨gb251, 0, none⟩ = some (.int .i64 t243) := (blk_cell BK251.out 0).trans rfl; have hcz54_1 : w53.cell? ⟨gb251, 1, none⟩ = some (.int .i64 t244) := (blk_cell BK251.out 1).trans rfl; have hcz54_2 : w53.cell? ⟨gb251, 2, none⟩ = some (.int .i64 t245) := (blk_cell BK251.out 2).trans rfl; have hcz54_3 : w53.cell? ⟨gb251, 3, none⟩ = some (.int .i64 t246) := (blk_cell BK251.out 3).trans rfl; have hcz54_4 : w53.cell? ⟨gb251, 4, none⟩ = some (.string t247) := (blk_cell BK251.out 4).trans rfl; have hcz54_5 : w53.cell? ⟨gb251, 5, none⟩ = some (.int .i64 t248) := (blk_cell BK251.out 5).trans rfl; have hcz54_6 : w53.cell? ⟨gb251, 6, none⟩ = some (.int .i64 t249) := (blk_cell BK251.out 6).trans rfl; have hcz54_7 : w53.cell? ⟨gb251, 7, none⟩ = some (.string t250) := (blk_cell BK251.out 7).trans rfl; have hfz54_0 := blk_frozen BK251.out 0; have hfz54_1 := blk_frozen BK251.out 1; have hfz54_2 := blk_frozen BK251.out 2; have hfz54_3 := blk_frozen BK251.out 3; have hfz54_4 := blk_frozen BK251.out 4; have hfz54_5 := blk_frozen BK251.out 5; have hfz54_6 := blk_frozen BK251.out 6; have hfz54_7 := blk_frozen BK251.out 7; have hcz55_0 : w53.cell? ⟨gb240, 0, none⟩ = some (.int .i64 a2_0) := (blk_cell BK240.out 0).trans rfl; have hcz55_1 : w53.cell? ⟨gb240, 1, none⟩ = some (.int .i64 a2_1) := (blk_cell BK240.out 1).trans rfl; have hcz55_2 : w53.cell? ⟨gb240, 2, none⟩ = some (.int .i64 a2_2) := (blk_cell BK240.out 2).trans rfl; have hcz55_3 : w53.cell? ⟨gb240, 3, none⟩ = some (.int .i64 a2_3) := (blk_cell BK240.out 3).trans rfl; have hcz55_4 : w53.cell? ⟨gb240, 4, none⟩ = some (.string a2_4) := (blk_cell BK240.out 4).trans rfl; have hfz55_0 := blk_frozen BK240.out 0; have hfz55_1 := blk_frozen BK240.out 1; have hfz55_2 := blk_frozen BK240.out 2; have hfz55_3 := blk_frozen BK240.out 3; have hfz55_4 := blk_frozen BK240.out 4) | (go_at_call 13; (with_reducible refine (zone_Every.calls t243 t244 t245 t246 t247 t248 t249 t250 a2_0 a2_1 a2_2 a2_3 a2_4 true _ A48.out).mono ?_); rintro e w56 ⟨rfl, hb⟩; have n0_ := Aside0.mk (blk_below (g := gb240) (o := .cells #[.int .i64 a2_0, .int .i64 a2_1, .int .i64 a2_2, .int .i64 a2_3, .string a2_4] 26 (0, 0)) (by (with_reducible repeat (first | refine blk_drewN ?_ _ | refine blk_drew ?_ | refine blk_alloc ?_ _)); exact BK240.out) hb); have n1_ := Aside0.mk (blk_below (g := gb251) (o := .cells #[.int .i64 t243, .int .i64 t244, .int .i64 t245, .int .i64 t246, .string t247, .int .i64 t248, .int .i64 t249, .string t250] 30 (0, 0)) (by (with_reducible repeat (first | refine blk_drewN ?_ _ | refine blk_drew ?_ | refine blk_alloc ?_ _)); exact BK251.out) hb); have n2_ := Aside0.mk (below_step (by repeat (first | (with_reducible first | exact HB.out | apply below_alloc | apply pw_below_drewN | apply below_drew1 | refine below_set ?_ GE240.out | refine below_set ?_ GE251.out) | exact HB.out)) hb); clear BK240; clear BK251; clear HB; have BK240 := n0_; have BK251 := n1_; have HB := n2_; clear n0_ n1_ n2_; (try clear hb); (try clear hb2); (try clear hk); (try clear hi)))
                    go_meet
                    case rel => exact ⟨_, ((x9_2 != (l0.length : Int))), (by first | rfl | (simp; done) | (simp [*]; done)), H', ⟨by have := HJ4.out; have := HK2.out; first | omega | exact Nat.le_refl _⟩, ⟨by (with_reducible repeat (first | refine blk_drewN ?_ _ | refine blk_drew ?_ | refine blk_alloc ?_ _)); exact BK240.out⟩, ⟨by (with_reducible repeat (first | refine blk_drewN ?_ _ | refine blk_drew ?_ | refine blk_alloc ?_ _)); exact BK251.out⟩, ⟨by repeat (first | (with_reducible first | exact HB.out | apply below_alloc | apply pw_below_drewN | apply below_drew1 | refine below_set ?_ GE240.out | refine below_set ?_ GE251.out) | exact HB.out)⟩⟩
                  · replace c49 := Bool.eq_false_iff.mpr c49
                    subst c49
                    have H1 : (law14_ZoneTrue.j2 k2 l0 t241 false a2_0 a2_1 a2_2 a2_3 a2_4 t243 t244 t245 t246 t247 t248 t249 t250) = some r := by rw [if_neg (show ¬ (false = true) by decide)] at H; exact H
                    clear H
                    have H := H1
                    clear H1
                    have H' := Aside0.mk H
                    clear H
                    have hnb57 := NB251_240.out
                    have hnc57 := NB240_251.out
                    have hcz58_0 : wr.cell? ⟨gb251, 0, none⟩ = some (.int .i64 t243) := (blk_cell BK251.out 0).trans rfl
                    have hcz58_1 : wr.cell? ⟨gb251, 1, none⟩ = some (.int .i64 t244) := (blk_cell BK251.out 1).trans rfl
                    have hcz58_2 : wr.cell? ⟨gb251, 2, none⟩ = some (.int .i64 t245) := (blk_cell BK251.out 2).trans rfl
                    have hcz58_3 : wr.cell? ⟨gb251, 3, none⟩ = some (.int .i64 t246) := (blk_cell BK251.out 3).trans rfl
                    have hcz58_4 : wr.cell? ⟨gb251, 4, none⟩ = some (.string t247) := (blk_cell BK251.out 4).trans rfl
                    have hcz58_5 : wr.cell? ⟨gb251, 5, none⟩ = some (.int .i64 t248) := (blk_cell BK251.out 5).trans rfl
                    have hcz58_6 : wr.cell? ⟨gb251, 6, none⟩ = some (.int .i64 t249) := (blk_cell BK251.out 6).trans rfl
                    have hcz58_7 : wr.cell? ⟨gb251, 7, none⟩ = some (.string t250) := (blk_cell BK251.out 7).trans rfl
                    have hfz58_0 := blk_frozen BK251.out 0
                    have hfz58_1 := blk_frozen BK251.out 1
                    have hfz58_2 := blk_frozen BK251.out 2
                    have hfz58_3 := blk_frozen BK251.out 3
                    have hfz58_4 := blk_frozen BK251.out 4
                    have hfz58_5 := blk_frozen BK251.out 5
                    have hfz58_6 := blk_frozen BK251.out 6
                    have hfz58_7 := blk_frozen BK251.out 7
                    have hcz59_0 : wr.cell? ⟨gb240, 0, none⟩ = some (.int .i64 a2_0) := (blk_cell BK240.out 0).trans rfl
                    have hcz59_1 : wr.cell? ⟨gb240, 1, none⟩ = some (.int .i64 a2_1) := (blk_cell BK240.out 1).trans rfl
                    have hcz59_2 : wr.cell? ⟨gb240, 2, none⟩ = some (.int .i64 a2_2) := (blk_cell BK240.out 2).trans rfl
                    have hcz59_3 : wr.cell? ⟨gb240, 3, none⟩ = some (.int .i64 a2_3) := (blk_cell BK240.out 3).trans rfl
                    have hcz59_4 : wr.cell? ⟨gb240, 4, none⟩ = some (.string a2_4) := (blk_cell BK240.out 4).trans rfl
                    have hfz59_0 := blk_frozen BK240.out 0
                    have hfz59_1 := blk_frozen BK240.out 1
                    have hfz59_2 := blk_frozen BK240.out 2
                    have hfz59_3 := blk_frozen BK240.out 3
                    have hfz59_4 := blk_frozen BK240.out 4
                    go_wp2_with (first | ((with_reducible refine gate_callee (f := 12) rfl ?_); refine goesL_ (some 39) rfl rfl Try.func12 (by kernel_rfl) rfl #[.agg #[.int .i64 t243, .int .i64 t244, .int .i64 t245, .int .i64 t246, .string t247, .int .i64 t248, .int .i64 t249, .string t250], .agg #[.int .i64 a2_0, .int .i64 a2_1, .int .i64 a2_2, .int .i64 a2_3, .string a2_4]] rfl (by (try simp only [List.map_toArray, List.map_cons, List.map_nil]); first | done | rfl | (simp only [List.length_drop, List.length_take]; rfl)) ?_; (with_reducible refine (zone_None.calls t243 t244 t245 t246 t247 t248 t249 t250 a2_0 a2_1 a2_2 a2_3 a2_4 false _ A25.out).mono ?_); rintro e w60 ⟨rfl, hb⟩; refine ⟨_, rfl, ?_⟩; have n0_ := Aside0.mk (blk_below (g := gb240) (o := .cells #[.int .i64 a2_0, .int .i64 a2_1, .int .i64 a2_2, .int .i64 a2_3, .string a2_4] 26 (0, 0)) (by (with_reducible repeat (first | refine blk_drewN ?_ _ | refine blk_drew ?_ | refine blk_alloc ?_ _)); exact BK240.out) hb); have n1_ := Aside0.mk (blk_below (g := gb251) (o := .cells #[.int .i64 t243, .int .i64 t244, .int .i64 t245, .int .i64 t246, .string t247, .int .i64 t248, .int .i64 t249, .string t250] 30 (0, 0)) (by (with_reducible repeat (first | refine blk_drewN ?_ _ | refine blk_drew ?_ | refine blk_alloc ?_ _)); exact BK251.out) hb); have n2_ := Aside0.mk (below_step (by repeat (first | (with_reducible first | exact HB.out | apply below_alloc | apply pw_below_drewN | apply below_drew1 | refine below_set ?_ GE240.out | refine below_set ?_ GE251.out) | exact HB.out)) hb); clear BK240; clear BK251; clear HB; have BK240 := n0_; have BK251 := n1_; have HB := n2_; clear n0_ n1_ n2_; (try clear hb); (try clear hb2); (try clear hk); (try clear hi); have hcz61_0 : w60.cell? ⟨gb251, 0, none⟩ = some (.int .i64 t243) := (blk_cell BK251.out 0).trans rfl; have hcz61_1 : w60.cell? ⟨gb251, 1, none⟩ = some (.int .i64 t244) := (blk_cell BK251.out 1).trans rfl; have hcz61_2 : w60.cell? ⟨gb251, 2, none⟩ = some (.int .i64 t245) := (blk_cell BK251.out 2).trans rfl; have hcz61_3 : w60.cell? ⟨gb251, 3, none⟩ = some (.int .i64 t246) := (blk_cell BK251.out 3).trans rfl; have hcz61_4 : w60.cell? ⟨gb251, 4, none⟩ = some (.string t247) := (blk_cell BK251.out 4).trans rfl; have hcz61_5 : w60.cell? ⟨gb251, 5, none⟩ = some (.int .i64 t248) := (blk_cell BK251.out 5).trans rfl; have hcz61_6 : w60.cell? ⟨gb251, 6, none⟩ = some (.int .i64 t249) := (blk_cell BK251.out 6).trans rfl; have hcz61_7 : w60.cell? ⟨gb251, 7, none⟩ = some (.string t250) := (blk_cell BK251.out 7).trans rfl; have hfz61_0 := blk_frozen BK251.out 0; have hfz61_1 := blk_frozen BK251.out 1; have hfz61_2 := blk_frozen BK251.out 2; have hfz61_3 := blk_frozen BK251.out 3; have hfz61_4 := blk_frozen BK251.out 4; have hfz61_5 := blk_frozen BK251.out 5; have hfz61_6 := blk_frozen BK251.out 6; have hfz61_7 := blk_frozen BK251.out 7; have hcz62_0 : w60.cell? ⟨gb240, 0, none⟩ = some (.int .i64 a2_0) := (blk_cell BK240.out 0).trans rfl; have hcz62_1 : w60.cell? ⟨gb240, 1, none⟩ = some (.int .i64 a2_1) := (blk_cell BK240.out 1).trans rfl; have hcz62_2 : w60.cell? ⟨gb240, 2, none⟩ = some (.int .i64 a2_2) := (blk_cell BK240.out 2).trans rfl; have hcz62_3 : w60.cell? ⟨gb240, 3, none⟩ = some (.int .i64 a2_3) := (blk_cell BK240.out 3).trans rfl; have hcz62_4 : w60.cell? ⟨gb240, 4, none⟩ = some (.string a2_4) := (blk_cell BK240.out 4).trans rfl; have hfz62_0 := blk_frozen BK240.out 0; have hfz62_1 := blk_frozen BK240.out 1; have hfz62_2 := blk_frozen BK240.out 2; have hfz62_3 := blk_frozen BK240.out 3; have hfz62_4 := blk_frozen BK240.out 4) | (go_at_call 13; (with_reducible refine (zone_Every.calls t243 t244 t245 t246 t247 t248 t249 t250 a2_0 a2_1 a2_2 a2_3 a2_4 false _ A48.out).mono ?_); rintro e w63 ⟨rfl, hb⟩; have n0_ := Aside0.mk (blk_below (g := gb240) (o := .cells #[.int .i64 a2_0, .int .i64 a2_1, .int .i64 a2_2, .int .i64 a2_3, .string a2_4] 26 (0, 0)) (by (with_reducible repeat (first | refine blk_drewN ?_ _ | refine blk_drew ?_ | refine blk_alloc ?_ _)); exact BK240.out) hb); have n1_ := Aside0.mk (blk_below (g := gb251) (o := .cells #[.int .i64 t243, .int .i64 t244, .int .i64 t245, .int .i64 t246, .string t247, .int .i64 t248, .int .i64 t249, .string t250] 30 (0, 0)) (by (with_reducible repeat (first | refine blk_drewN ?_ _ | refine blk_drew ?_ | refine blk_alloc ?_ _)); exact BK251.out) hb); have n2_ := Aside0.mk (below_step (by repeat (first | (with_reducible first | exact HB.out | apply below_alloc | apply pw_below_drewN | apply below_drew1 | refine below_set ?_ GE240.out | refine below_set ?_ GE251.out) | exact HB.out)) hb); clear BK240; clear BK251; clear HB; have BK240 := n0_; have BK251 := n1_; have HB := n2_; clear n0_ n1_ n2_; (try clear hb); (try clear hb2); (try clear hk); (try clear hi)))
                    go_meet
                    case rel => exact ⟨_, (false), (by first | rfl | (simp; done) | (simp [*]; done)), H', ⟨by have := HJ4.out; have := HK2.out; first | omega | exact Nat.le_refl _⟩, ⟨by (with_reducible repeat (first | refine blk_drewN ?_ _ | refine blk_drew ?_ | refine blk_alloc ?_ _)); exact BK240.out⟩, ⟨by (with_reducible repeat (first | refine blk_drewN ?_ _ | refine blk_drew ?_ | refine blk_alloc ?_ _)); exact BK251.out⟩, ⟨by repeat (first | (with_reducible first | exact HB.out | apply below_alloc | apply pw_below_drewN | apply below_drew1 | refine below_set ?_ GE240.out | refine below_set ?_ GE251.out) | exact HB.out)⟩⟩
              case rest =>
                clear HC24
                try clear c1
                try clear c2
                try clear p2
                try clear q2
                try clear hx2
                try clear c3
                try clear c4
                try clear c5
                try clear p6
                try clear c8
                try clear c9
                try clear c10
                try clear c11
                try clear c12
                try clear c14
                try clear c16
                try clear c16b0
                try clear c17
                try clear c17b0
                try clear c19
                try clear p25
                try clear q25
                try clear hx25
                try clear c26
                try clear c27
                try clear c27b0
                try clear c27b1
                try clear c29
                try clear c30
                try clear c37
                try clear c44
                try clear c49
                try clear c50
                try clear c57
                try clear hcz15_0
                try clear hcz15_1
                try clear hcz15_2
                try clear hcz15_3
                try clear hcz15_4
                try clear hcz15_5
                try clear hcz15_6
                try clear hcz15_7
                try clear hcz31_0
                try clear hcz31_1
                try clear hcz31_2
                try clear hcz31_3
                try clear hcz31_4
                try clear hcz31_5
                try clear hcz31_6
                try clear hcz31_7
                try clear hcz32_0
                try clear hcz32_1
                try clear hcz32_2
                try clear hcz32_3
                try clear hcz32_4
                try clear hcz34_0
                try clear hcz34_1
                try clear hcz34_2
                try clear hcz34_3
                try clear hcz34_4
                try clear hcz34_5
                try clear hcz34_6
                try clear hcz34_7
                try clear hcz35_0
                try clear hcz35_1
                try clear hcz35_2
                try clear hcz35_3
                try clear hcz35_4
                try clear hcz38_0
                try clear hcz38_1
                try clear hcz38_2
                try clear hcz38_3
                try clear hcz38_4
                try clear hcz38_5
                try clear hcz38_6
                try clear hcz38_7
                try clear hcz39_0
                try clear hcz39_1
                try clear hcz39_2
                try clear hcz39_3
                try clear hcz39_4
                try clear hcz41_0
                try clear hcz41_1
                try clear hcz41_2
                try clear hcz41_3
                try clear hcz41_4
                try clear hcz41_5
                try clear hcz41_6
                try clear hcz41_7
                try clear hcz42_0
                try clear hcz42_1
                try clear hcz42_2
                try clear hcz42_3
                try clear hcz42_4
                try clear hcz45_0
                try clear hcz45_1
                try clear hcz45_2
                try clear hcz45_3
                try clear hcz45_4
                try clear hcz45_5
                try clear hcz45_6
                try clear hcz45_7
                try clear hcz46_0
                try clear hcz46_1
                try clear hcz46_2
                try clear hcz46_3
                try clear hcz46_4
                try clear hcz51_0
                try clear hcz51_1
                try clear hcz51_2
                try clear hcz51_3
                try clear hcz51_4
                try clear hcz51_5
                try clear hcz51_6
                try clear hcz51_7
                try clear hcz52_0
                try clear hcz52_1
                try clear hcz52_2
                try clear hcz52_3
                try clear hcz52_4
                try clear hcz54_0
                try clear hcz54_1
                try clear hcz54_2
                try clear hcz54_3
                try clear hcz54_4
                try clear hcz54_5
                try clear hcz54_6
                try clear hcz54_7
                try clear hcz55_0
                try clear hcz55_1
                try clear hcz55_2
                try clear hcz55_3
                try clear hcz55_4
                try clear hcz58_0
                try clear hcz58_1
                try clear hcz58_2
                try clear hcz58_3
                try clear hcz58_4
                try clear hcz58_5
                try clear hcz58_6
                try clear hcz58_7
                try clear hcz59_0
                try clear hcz59_1
                try clear hcz59_2
                try clear hcz59_3
                try clear hcz59_4
                try clear hcz61_0
                try clear hcz61_1
                try clear hcz61_2
                try clear hcz61_3
                try clear hcz61_4
                try clear hcz61_5
                try clear hcz61_6
                try clear hcz61_7
                try clear hcz62_0
                try clear hcz62_1
                try clear hcz62_2
                try clear hcz62_3
                try clear hcz62_4
                try clear hfz15_0
                try clear hfz15_1
                try clear hfz15_2
                try clear hfz15_3
                try clear hfz15_4
                try clear hfz15_5
                try clear hfz15_6
                try clear hfz15_7
                try clear hfz31_0
                try clear hfz31_1
                try clear hfz31_2
                try clear hfz31_3
                try clear hfz31_4
                try clear hfz31_5
                try clear hfz31_6
                try clear hfz31_7
                try clear hfz32_0
                try clear hfz32_1
                try clear hfz32_2
                try clear hfz32_3
                try clear hfz32_4
                try clear hfz34_0
                try clear hfz34_1
                try clear hfz34_2
                try clear hfz34_3
                try clear hfz34_4
                try clear hfz34_5
                try clear hfz34_6
                try clear hfz34_7
                try clear hfz35_0
                try clear hfz35_1
                try clear hfz35_2
                try clear hfz35_3
                try clear hfz35_4
                try clear hfz38_0
                try clear hfz38_1
                try clear hfz38_2
                try clear hfz38_3
                try clear hfz38_4
                try clear hfz38_5
                try clear hfz38_6
                try clear hfz38_7
                try clear hfz39_0
                try clear hfz39_1
                try clear hfz39_2
                try clear hfz39_3
                try clear hfz39_4
                try clear hfz41_0
                try clear hfz41_1
                try clear hfz41_2
                try clear hfz41_3
                try clear hfz41_4
                try clear hfz41_5
                try clear hfz41_6
                try clear hfz41_7
                try clear hfz42_0
                try clear hfz42_1
                try clear hfz42_2
                try clear hfz42_3
                try clear hfz42_4
                try clear hfz45_0
                try clear hfz45_1
                try clear hfz45_2
                try clear hfz45_3
                try clear hfz45_4
                try clear hfz45_5
                try clear hfz45_6
                try clear hfz45_7
                try clear hfz46_0
                try clear hfz46_1
                try clear hfz46_2
                try clear hfz46_3
                try clear hfz46_4
                try clear hfz51_0
                try clear hfz51_1
                try clear hfz51_2
                try clear hfz51_3
                try clear hfz51_4
                try clear hfz51_5
                try clear hfz51_6
                try clear hfz51_7
                try clear hfz52_0
                try clear hfz52_1
                try clear hfz52_2
                try clear hfz52_3
                try clear hfz52_4
                try clear hfz54_0
                try clear hfz54_1
                try clear hfz54_2
                try clear hfz54_3
                try clear hfz54_4
                try clear hfz54_5
                try clear hfz54_6
                try clear hfz54_7
                try clear hfz55_0
                try clear hfz55_1
                try clear hfz55_2
                try clear hfz55_3
                try clear hfz55_4
                try clear hfz58_0
                try clear hfz58_1
                try clear hfz58_2
                try clear hfz58_3
                try clear hfz58_4
                try clear hfz58_5
                try clear hfz58_6
                try clear hfz58_7
                try clear hfz59_0
                try clear hfz59_1
                try clear hfz59_2
                try clear hfz59_3
                try clear hfz59_4
                try clear hfz61_0
                try clear hfz61_1
                try clear hfz61_2
                try clear hfz61_3
                try clear hfz61_4
                try clear hfz61_5
                try clear hfz61_6
                try clear hfz61_7
                try clear hfz62_0
                try clear hfz62_1
                try clear hfz62_2
                try clear hfz62_3
                try clear hfz62_4
                try clear hx252_0
                try clear hx252_1
                try clear hx252_2
                try clear p2
                try clear p252
                try clear q252
                obtain ⟨kq, x54_23, rfl, HA, HJ23, BK240, BK251, HB⟩ := hcut
                cases kq with
                | zero => exact absurd HA.out (by simp [law14_ZoneTrue.j2])
                | succ kj23 =>
                  have H := HA.out
                  clear HA
                  simp only [law14_ZoneTrue.j2] at H
                  by_cases c64 : x54_23 = true
                  · subst c64
                    have H1 : (some false) = some r := by rw [if_pos rfl] at H; exact H
                    clear H
                    have H := H1
                    clear H1
                    exact absurd ((Option.some.inj H).trans hr_.out) (by decide)
                  · replace c64 := Bool.eq_false_iff.mpr c64
                    subst c64
                    have H1 : (if t241 = true then (if (l0.length : Int) = 0 then (some true) else ((zone_None.f t243 t244 t245 t246 t247 t248 t249 t250 a2_0 a2_1 a2_2 a2_3 a2_4).bind fun t257 => (if t257 = true then ((zone_Every.f t243 t244 t245 t246 t247 t248 t249 t250 a2_0 a2_1 a2_2 a2_3 a2_4).bind fun t258 => (some (!t258))) else (some true)))) else (some false)) = some r := by rw [if_neg (show ¬ (false = true) by decide)] at H; exact H
                    clear H
                    have H := H1
                    clear H1
                    by_cases c65 : t241 = true
                    · subst c65
                      have H1 : (if (l0.length : Int) = 0 then (some true) else ((zone_None.f t243 t244 t245 t246 t247 t248 t249 t250 a2_0 a2_1 a2_2 a2_3 a2_4).bind fun t257 => (if t257 = true then ((zone_Every.f t243 t244 t245 t246 t247 t248 t249 t250 a2_0 a2_1 a2_2 a2_3 a2_4).bind fun t258 => (some (!t258))) else (some true)))) = some r := by rw [if_pos rfl] at H; exact H
                      clear H
                      have H := H1
                      clear H1
                      by_cases c66 : (l0.length : Int) = 0
                      · rw [if_pos c66] at H
                        have c66b0 : ((l0.length : Int) == 0) = true := beq_iff_eq.mpr c66
                        have c66b1 : ((l0.length : Int) != 0) = false := bne_eq_false_iff_eq.mpr c66
                        clear c66
                        obtain rfl := Option.some.inj H
                        go_wp2
                        go_ret
                        exact ⟨by first | rfl | (simp [errW_none, errW_some] <;> rfl) | (simp [*, errW_none, errW_some] <;> rfl), by repeat (first | (with_reducible first | exact HB.out | apply below_alloc | apply pw_below_drewN | apply below_drew1 | refine below_set ?_ GE240.out | refine below_set ?_ GE251.out) | exact HB.out)⟩
                      · rw [if_neg c66] at H
                        have c66b0 : ((l0.length : Int) == 0) = false := beq_eq_false_iff_ne.mpr c66
                        have c66b1 : ((l0.length : Int) != 0) = true := bne_iff_ne.mpr c66
                        have c66b2 : ¬ (l0 = []) := fun h_ => c66 (by rw [h_]; rfl)
                        replace H := Option.bind_eq_some_iff.mp H
                        obtain ⟨t257, A670, H⟩ := H
                        replace H : (if t257 = true then ((zone_Every.f t243 t244 t245 t246 t247 t248 t249 t250 a2_0 a2_1 a2_2 a2_3 a2_4).bind fun t258 => (some (!t258))) else (some true)) = some r := H
                        have A67 := Aside0.mk A670
                        clear A670
                        by_cases c68 : t257 = true
                        · subst c68
                          have H1 : ((zone_Every.f t243 t244 t245 t246 t247 t248 t249 t250 a2_0 a2_1 a2_2 a2_3 a2_4).bind fun t258 => (some (!t258))) = some r := by rw [if_pos rfl] at H; exact H
                          clear H
                          have H := H1
                          clear H1
                          replace H := Option.bind_eq_some_iff.mp H
                          obtain ⟨t258, A690, H⟩ := H
                          replace H : (some (!t258)) = some r := H
                          have A69 := Aside0.mk A690
                          clear A690
                          obtain rfl := Option.some.inj H
                          have hnb70 := NB251_240.out
                          have hnc70 := NB240_251.out
                          have hcz71_0 : wc.cell? ⟨gb251, 0, none⟩ = some (.int .i64 t243) := (blk_cell BK251.out 0).trans rfl
                          have hcz71_1 : wc.cell? ⟨gb251, 1, none⟩ = some (.int .i64 t244) := (blk_cell BK251.out 1).trans rfl
                          have hcz71_2 : wc.cell? ⟨gb251, 2, none⟩ = some (.int .i64 t245) := (blk_cell BK251.out 2).trans rfl
                          have hcz71_3 : wc.cell? ⟨gb251, 3, none⟩ = some (.int .i64 t246) := (blk_cell BK251.out 3).trans rfl
                          have hcz71_4 : wc.cell? ⟨gb251, 4, none⟩ = some (.string t247) := (blk_cell BK251.out 4).trans rfl
                          have hcz71_5 : wc.cell? ⟨gb251, 5, none⟩ = some (.int .i64 t248) := (blk_cell BK251.out 5).trans rfl
                          have hcz71_6 : wc.cell? ⟨gb251, 6, none⟩ = some (.int .i64 t249) := (blk_cell BK251.out 6).trans rfl
                          have hcz71_7 : wc.cell? ⟨gb251, 7, none⟩ = some (.string t250) := (blk_cell BK251.out 7).trans rfl
                          have hfz71_0 := blk_frozen BK251.out 0
                          have hfz71_1 := blk_frozen BK251.out 1
                          have hfz71_2 := blk_frozen BK251.out 2
                          have hfz71_3 := blk_frozen BK251.out 3
                          have hfz71_4 := blk_frozen BK251.out 4
                          have hfz71_5 := blk_frozen BK251.out 5
                          have hfz71_6 := blk_frozen BK251.out 6
                          have hfz71_7 := blk_frozen BK251.out 7
                          have hcz72_0 : wc.cell? ⟨gb240, 0, none⟩ = some (.int .i64 a2_0) := (blk_cell BK240.out 0).trans rfl
                          have hcz72_1 : wc.cell? ⟨gb240, 1, none⟩ = some (.int .i64 a2_1) := (blk_cell BK240.out 1).trans rfl
                          have hcz72_2 : wc.cell? ⟨gb240, 2, none⟩ = some (.int .i64 a2_2) := (blk_cell BK240.out 2).trans rfl
                          have hcz72_3 : wc.cell? ⟨gb240, 3, none⟩ = some (.int .i64 a2_3) := (blk_cell BK240.out 3).trans rfl
                          have hcz72_4 : wc.cell? ⟨gb240, 4, none⟩ = some (.string a2_4) := (blk_cell BK240.out 4).trans rfl
                          have hfz72_0 := blk_frozen BK240.out 0
                          have hfz72_1 := blk_frozen BK240.out 1
                          have hfz72_2 := blk_frozen BK240.out 2
                          have hfz72_3 := blk_frozen BK240.out 3
                          have hfz72_4 := blk_frozen BK240.out 4
                          go_wp2_with (first | (go_at_call 12; (with_reducible refine (zone_None.calls t243 t244 t245 t246 t247 t248 t249 t250 a2_0 a2_1 a2_2 a2_3 a2_4 true _ A67.out).mono ?_); rintro e w73 ⟨rfl, hb⟩; have n0_ := Aside0.mk (blk_below (g := gb240) (o := .cells #[.int .i64 a2_0, .int .i64 a2_1, .int .i64 a2_2, .int .i64 a2_3, .string a2_4] 26 (0, 0)) (by (with_reducible repeat (first | refine blk_drewN ?_ _ | refine blk_drew ?_ | refine blk_alloc ?_ _)); exact BK240.out) hb); have n1_ := Aside0.mk (blk_below (g := gb251) (o := .cells #[.int .i64 t243, .int .i64 t244, .int .i64 t245, .int .i64 t246, .string t247, .int .i64 t248, .int .i64 t249, .string t250] 30 (0, 0)) (by (with_reducible repeat (first | refine blk_drewN ?_ _ | refine blk_drew ?_ | refine blk_alloc ?_ _)); exact BK251.out) hb); have n2_ := Aside0.mk (below_step (by repeat (first | (with_reducible first | exact HB.out | apply below_alloc | apply pw_below_drewN | apply below_drew1 | refine below_set ?_ GE240.out | refine below_set ?_ GE251.out) | exact HB.out)) hb); clear BK240; clear BK251; clear HB; have BK240 := n0_; have BK251 := n1_; have HB := n2_; clear n0_ n1_ n2_; (try clear hb); (try clear hb2); (try clear hk); (try clear hi); have hcz74_0 : w73.cell? ⟨gb251, 0, none⟩ = some (.int .i64 t243) := (blk_cell BK251.out 0).trans rfl; have hcz74_1 : w73.cell? ⟨gb251, 1, none⟩ = some (.int .i64 t244) := (blk_cell BK251.out 1).trans rfl; have hcz74_2 : w73.cell? ⟨gb251, 2, none⟩ = some (.int .i64 t245) := (blk_cell BK251.out 2).trans rfl; have hcz74_3 : w73.cell? ⟨gb251, 3, none⟩ = some (.int .i64 t246) := (blk_cell BK251.out 3).trans rfl; have hcz74_4 : w73.cell? ⟨gb251, 4, none⟩ = some (.string t247) := (blk_cell BK251.out 4).trans rfl; have hcz74_5 : w73.cell? ⟨gb251, 5, none⟩ = some (.int .i64 t248) := (blk_cell BK251.out 5).trans rfl; have hcz74_6 : w73.cell? ⟨gb251, 6, none⟩ = some (.int .i64 t249) := (blk_cell BK251.out 6).trans rfl; have hcz74_7 : w73.cell? ⟨gb251, 7, none⟩ = some (.string t250) := (blk_cell BK251.out 7).trans rfl; have hfz74_0 := blk_frozen BK251.out 0; have hfz74_1 := blk_frozen BK251.out 1; have hfz74_2 := blk_frozen BK251.out 2; have hfz74_3 := blk_frozen BK251.out 3; have hfz74_4 := blk_frozen BK251.out 4; have hfz74_5 := blk_frozen BK251.out 5; have hfz74_6 := blk_frozen BK251.out 6; have hfz74_7 := blk_frozen BK251.out 7; have hcz75_0 : w73.cell? ⟨gb240, 0, none⟩ = some (.int .i64 a2_0) := (blk_cell BK240.out 0).trans rfl; have hcz75_1 : w73.cell? ⟨gb240, 1, none⟩ = some (.int .i64 a2_1) := (blk_cell BK240.out 1).trans rfl; have hcz75_2 : w73.cell? ⟨gb240, 2, none⟩ = some (.int .i64 a2_2) := (blk_cell BK240.out 2).trans rfl; have hcz75_3 : w73.cell? ⟨gb240, 3, none⟩ = some (.int .i64 a2_3) := (blk_cell BK240.out 3).trans rfl; have hcz75_4 : w73.cell? ⟨gb240, 4, none⟩ = some (.string a2_4) := (blk_cell BK240.out 4).trans rfl; have hfz75_0 := blk_frozen BK240.out 0; have hfz75_1 := blk_frozen BK240.out 1; have hfz75_2 := blk_frozen BK240.out 2; have hfz75_3 := blk_frozen BK240.out 3; have hfz75_4 := blk_frozen BK240.out 4) | (go_at_call 13; (with_reducible refine (zone_Every.calls t243 t244 t245 t246 t247 t248 t249 t250 a2_0 a2_1 a2_2 a2_3 a2_4 t258 _ A69.out).mono ?_); rintro e w76 ⟨rfl, hb⟩; have n0_ := Aside0.mk (blk_below (g := gb240) (o := .cells #[.int .i64 a2_0, .int .i64 a2_1, .int .i64 a2_2, .int .i64 a2_3, .string a2_4] 26 (0, 0)) (by (with_reducible repeat (first | refine blk_drewN ?_ _ | refine blk_drew ?_ | refine blk_alloc ?_ _)); exact BK240.out) hb); have n1_ := Aside0.mk (blk_below (g := gb251) (o := .cells #[.int .i64 t243, .int .i64 t244, .int .i64 t245, .int .i64 t246, .string t247, .int .i64 t248, .int .i64 t249, .string t250] 30 (0, 0)) (by (with_reducible repeat (first | refine blk_drewN ?_ _ | refine blk_drew ?_ | refine blk_alloc ?_ _)); exact BK251.out) hb); have n2_ := Aside0.mk (below_step (by repeat (first | (with_reducible first | exact HB.out | apply below_alloc | apply pw_below_drewN | apply below_drew1 | refine below_set ?_ GE240.out | refine below_set ?_ GE251.out) | exact HB.out)) hb); clear BK240; clear BK251; clear HB; have BK240 := n0_; have BK251 := n1_; have HB := n2_; clear n0_ n1_ n2_; (try clear hb); (try clear hb2); (try clear hk); (try clear hi)))
                          go_ret
                          exact ⟨by first | rfl | (simp [errW_none, errW_some] <;> rfl) | (simp [*, errW_none, errW_some] <;> rfl), by repeat (first | (with_reducible first | exact HB.out | apply below_alloc | apply pw_below_drewN | apply below_drew1 | refine below_set ?_ GE240.out | refine below_set ?_ GE251.out) | exact HB.out)⟩
                        · replace c68 := Bool.eq_false_iff.mpr c68
                          subst c68
                          have H1 : (some true) = some r := by rw [if_neg (show ¬ (false = true) by decide)] at H; exact H
                          clear H
                          have H := H1
                          clear H1
                          obtain rfl := Option.some.inj H
                          have hnb77 := NB251_240.out
                          have hnc77 := NB240_251.out
                          have hcz78_0 : wc.cell? ⟨gb251, 0, none⟩ = some (.int .i64 t243) := (blk_cell BK251.out 0).trans rfl
                          have hcz78_1 : wc.cell? ⟨gb251, 1, none⟩ = some (.int .i64 t244) := (blk_cell BK251.out 1).trans rfl
                          have hcz78_2 : wc.cell? ⟨gb251, 2, none⟩ = some (.int .i64 t245) := (blk_cell BK251.out 2).trans rfl
                          have hcz78_3 : wc.cell? ⟨gb251, 3, none⟩ = some (.int .i64 t246) := (blk_cell BK251.out 3).trans rfl
                          have hcz78_4 : wc.cell? ⟨gb251, 4, none⟩ = some (.string t247) := (blk_cell BK251.out 4).trans rfl
                          have hcz78_5 : wc.cell? ⟨gb251, 5, none⟩ = some (.int .i64 t248) := (blk_cell BK251.out 5).trans rfl
                          have hcz78_6 : wc.cell? ⟨gb251, 6, none⟩ = some (.int .i64 t249) := (blk_cell BK251.out 6).trans rfl
                          have hcz78_7 : wc.cell? ⟨gb251, 7, none⟩ = some (.string t250) := (blk_cell BK251.out 7).trans rfl
                          have hfz78_0 := blk_frozen BK251.out 0
                          have hfz78_1 := blk_frozen BK251.out 1
                          have hfz78_2 := blk_frozen BK251.out 2
                          have hfz78_3 := blk_frozen BK251.out 3
                          have hfz78_4 := blk_frozen BK251.out 4
                          have hfz78_5 := blk_frozen BK251.out 5
                          have hfz78_6 := blk_frozen BK251.out 6
                          have hfz78_7 := blk_frozen BK251.out 7
                          have hcz79_0 : wc.cell? ⟨gb240, 0, none⟩ = some (.int .i64 a2_0) := (blk_cell BK240.out 0).trans rfl
                          have hcz79_1 : wc.cell? ⟨gb240, 1, none⟩ = some (.int .i64 a2_1) := (blk_cell BK240.out 1).trans rfl
                          have hcz79_2 : wc.cell? ⟨gb240, 2, none⟩ = some (.int .i64 a2_2) := (blk_cell BK240.out 2).trans rfl
                          have hcz79_3 : wc.cell? ⟨gb240, 3, none⟩ = some (.int .i64 a2_3) := (blk_cell BK240.out 3).trans rfl
                          have hcz79_4 : wc.cell? ⟨gb240, 4, none⟩ = some (.string a2_4) := (blk_cell BK240.out 4).trans rfl
                          have hfz79_0 := blk_frozen BK240.out 0
                          have hfz79_1 := blk_frozen BK240.out 1
                          have hfz79_2 := blk_frozen BK240.out 2
                          have hfz79_3 := blk_frozen BK240.out 3
                          have hfz79_4 := blk_frozen BK240.out 4
                          go_wp2_with (first | (go_at_call 12; (with_reducible refine (zone_None.calls t243 t244 t245 t246 t247 t248 t249 t250 a2_0 a2_1 a2_2 a2_3 a2_4 false _ A67.out).mono ?_); rintro e w80 ⟨rfl, hb⟩; have n0_ := Aside0.mk (blk_below (g := gb240) (o := .cells #[.int .i64 a2_0, .int .i64 a2_1, .int .i64 a2_2, .int .i64 a2_3, .string a2_4] 26 (0, 0)) (by (with_reducible repeat (first | refine blk_drewN ?_ _ | refine blk_drew ?_ | refine blk_alloc ?_ _)); exact BK240.out) hb); have n1_ := Aside0.mk (blk_below (g := gb251) (o := .cells #[.int .i64 t243, .int .i64 t244, .int .i64 t245, .int .i64 t246, .string t247, .int .i64 t248, .int .i64 t249, .string t250] 30 (0, 0)) (by (with_reducible repeat (first | refine blk_drewN ?_ _ | refine blk_drew ?_ | refine blk_alloc ?_ _)); exact BK251.out) hb); have n2_ := Aside0.mk (below_step (by repeat (first | (with_reducible first | exact HB.out | apply below_alloc | apply pw_below_drewN | apply below_drew1 | refine below_set ?_ GE240.out | refine below_set ?_ GE251.out) | exact HB.out)) hb); clear BK240; clear BK251; clear HB; have BK240 := n0_; have BK251 := n1_; have HB := n2_; clear n0_ n1_ n2_; (try clear hb); (try clear hb2); (try clear hk); (try clear hi)))
                          go_ret
                          exact ⟨by first | rfl | (simp [errW_none, errW_some] <;> rfl) | (simp [*, errW_none, errW_some] <;> rfl), by repeat (first | (with_reducible first | exact HB.out | apply below_alloc | apply pw_below_drewN | apply below_drew1 | refine below_set ?_ GE240.out | refine below_set ?_ GE251.out) | exact HB.out)⟩
                    · replace c65 := Bool.eq_false_iff.mpr c65
                      subst c65
                      have H1 : (some false) = some r := by rw [if_neg (show ¬ (false = true) by decide)] at H; exact H
                      clear H
                      have H := H1
                      clear H1
                      exact absurd ((Option.some.inj H).trans hr_.out) (by decide)

/-- THE ONE PURE STATEMENT of law14_ZoneTrue: yours. -/
def law14_ZoneTrue.Pure : Prop := ∀ (l0 : List (S24)) (a1 : Int) (a2_0 : Int) (a2_1 : Int) (a2_2 : Int) (a2_3 : Int) (a2_4 : ByteArray), Hand.WfRow 32 wfS24 l0 → (Lit.int .i64 a1).wf = true → (Lit.int .i64 a2_0).wf = true → (Lit.int .i64 a2_1).wf = true → (Lit.int .i64 a2_2).wf = true → (Lit.int .i64 a2_3).wf = true → a2_4.size ≤ 140737488351232 → ∃ k, law14_ZoneTrue.f k l0 a1 a2_0 a2_1 a2_2 a2_3 a2_4 = some true
theorem law14_ZoneTrue.walk (P : law14_ZoneTrue.Pure) (A0 : Option Addr) (c0 : Nat) (l0 : List (S24)) (a1 : Int) (a2_0 : Int) (a2_1 : Int) (a2_2 : Int) (a2_3 : Int) (a2_4 : ByteArray) (w : World) (w0 : l0.length ≤ c0 ∧ Kd.C k24 w A0 l0.length l0 ∧ Hand.WfRow 32 wfS24 l0) (w1 : (Lit.int .i64 a1).wf = true) (w2_0 : (Lit.int .i64 a2_0).wf = true) (w2_1 : (Lit.int .i64 a2_1).wf = true) (w2_2 : (Lit.int .i64 a2_2).wf = true) (w2_3 : (Lit.int .i64 a2_3).wf = true) (w2_4 : a2_4.size ≤ 140737488351232) :
    Calls Try.prog 3 #[.slice A0 l0.length c0, .int .i64 a1, .agg #[.int .i64 a2_0, .int .i64 a2_1, .int .i64 a2_2, .int .i64 a2_3, .string a2_4]] w fun e w' => e = .returned (.bool true) ∧ Below w.heap.size w w' := by
  obtain ⟨hc0, hr0, hw0⟩ := w0
  obtain ⟨k, h⟩ := P l0 a1 a2_0 a2_1 a2_2 a2_3 a2_4 hw0 w1 w2_0 w2_1 w2_2 w2_3 w2_4
  refine (law14_ZoneTrue.calls k _ _ l0 a1 a2_0 a2_1 a2_2 a2_3 a2_4 true w hr0 hc0 ⟨rfl⟩ h).mono ?_
  rintro e w' ⟨rfl, hd⟩
  exact ⟨rfl, hd⟩

end Go.Proofs.Ytnpfanmkjhpmlaa.PZon
