-- Written by this session's program wip/gprint/gprint.py, over the kit's print, with given functions; no text of print.sh's.
import Derived.Test.YtnpfanmkjhpmlaaPZonx0
import Derived.Test.YtnpfanmkjhpmlaaPZonx9
import Derived.Test.YtnpfanmkjhpmlaaPZonx11
import Derived.Test.YtnpfanmkjhpmlaaPZonx13
import Derived.Test.YtnpfanmkjhpmlaaPZonx14
import Derived.Test.YtnpfanmkjhpmlaaPZonx15
import Derived.Test.YtnpfanmkjhpmlaaPZonx16
namespace Go.Proofs.Ytnpfanmkjhpmlaa.PZon
open Go.RowKit Go.Proofs.YtnpfanmkjhpmlaaW.PrintWords Go.Proofs.YtnpfanmkjhpmlaaW.PrintLast Go.Proofs.YtnpfanmkjhpmlaaW.PrintMore
attribute [local go_sem] max2_int min2_int max_two min_two max_three min_three max_four min_four   -- for this text's walks alone
set_option linter.unusedVariables false
set_option linter.unusedSimpArgs false

/-! ### law14_ZoneOnes: function 4 -/
def law14_ZoneOnes.j0 : Nat → Bool → Bool → Bool → Int → Int → Int → Int → ByteArray → Int → Int → Int → Int → ByteArray → Int → Int → ByteArray → Option (Bool)
  | 0, _, _, _, _, _, _, _, _, _, _, _, _, _, _, _, _ => none
  | k + 1, x5, x7, x35, x197000, x197001, x197002, x197003, x197004, x210000, x210001, x210002, x210003, x210004, x210005, x210006, x210007 => if x35 = true then (some x5) else (if x5 = true then ((zone_None.f x210000 x210001 x210002 x210003 x210004 x210005 x210006 x210007 x197000 x197001 x197002 x197003 x197004).bind fun t212 => (if (t212 == (!x7)) = true then ((zone_Every.f x210000 x210001 x210002 x210003 x210004 x210005 x210006 x210007 x197000 x197001 x197002 x197003 x197004).bind fun t213 => (some (t213 == x7))) else (some false))) else (some false))
def law14_ZoneOnes.f (k : Nat) (a0_0 : Int) (a0_1 : Int) (a0_2 : ByteArray) (a1_0 : Int) (a1_1 : Int) (a1_2 : Int) (a1_3 : Int) (a1_4 : ByteArray) : Option (Bool) := (law14_shown.f).bind fun t197 => ((ref11_Zone.f k (([(⟨a0_0, a0_1, a0_2⟩ : S24)] : List (S24)))).bind fun bt201 => ((ref13_Holds.f k a1_0 a1_1 a1_2 a1_3 a1_4 a0_0 a0_1 a0_2).bind fun t210 => ((ref13_May.f k a1_0 a1_1 a1_2 a1_3 a1_4).bind fun t211 => (if t211 = true then (if a0_0 = 0 then (law14_ZoneOnes.j0 k t197 t210 false a1_0 a1_1 a1_2 a1_3 a1_4 bt201.1 bt201.2.1 bt201.2.2.1 bt201.2.2.2.1 bt201.2.2.2.2.1 bt201.2.2.2.2.2.1 bt201.2.2.2.2.2.2.1 bt201.2.2.2.2.2.2.2) else (if a1_1 < 7 then (law14_ZoneOnes.j0 k t197 t210 (a0_0 != a1_2) a1_0 a1_1 a1_2 a1_3 a1_4 bt201.1 bt201.2.1 bt201.2.2.1 bt201.2.2.2.1 bt201.2.2.2.2.1 bt201.2.2.2.2.2.1 bt201.2.2.2.2.2.2.1 bt201.2.2.2.2.2.2.2) else (law14_ZoneOnes.j0 k t197 t210 false a1_0 a1_1 a1_2 a1_3 a1_4 bt201.1 bt201.2.1 bt201.2.2.1 bt201.2.2.2.1 bt201.2.2.2.2.1 bt201.2.2.2.2.2.1 bt201.2.2.2.2.2.2.1 bt201.2.2.2.2.2.2.2))) else (law14_ZoneOnes.j0 k t197 t210 true a1_0 a1_1 a1_2 a1_3 a1_4 bt201.1 bt201.2.1 bt201.2.2.1 bt201.2.2.2.1 bt201.2.2.2.2.1 bt201.2.2.2.2.2.1 bt201.2.2.2.2.2.2.1 bt201.2.2.2.2.2.2.2)))))
theorem law14_ZoneOnes.mono_l : ∀ k, (∀ y0 y1 y2 y3 y4 y5 y6 y7 y8 y9 y10 y11 y12 y13 y14 y15, LeO (law14_ZoneOnes.j0 k y0 y1 y2 y3 y4 y5 y6 y7 y8 y9 y10 y11 y12 y13 y14 y15) (law14_ZoneOnes.j0 (k + 1) y0 y1 y2 y3 y4 y5 y6 y7 y8 y9 y10 y11 y12 y13 y14 y15))
  | 0 => fun _ _ _ _ _ _ _ _ _ _ _ _ _ _ _ _ r h => by simp [law14_ZoneOnes.j0] at h
  | k + 1 => by
    have ih0 := law14_ZoneOnes.mono_l k
    · intro y0 y1 y2 y3 y4 y5 y6 y7 y8 y9 y10 y11 y12 y13 y14 y15
      unfold law14_ZoneOnes.j0
      repeat' first
      | (with_reducible exact ih0 _ _ _ _ _ _ _ _ _ _ _ _ _ _ _ _)
      | (with_reducible exact ref11_Zone.mono _ _)
      | (with_reducible exact ref13_Holds.mono _ _ _ _ _ _ _ _ _)
      | (with_reducible exact ref13_May.mono _ _ _ _ _ _)
      | (with_reducible exact LeO.refl _)
      | (with_reducible exact LeO.none _)
      | (with_reducible refine LeO.ite ?_ ?_)
      | (with_reducible refine LeO.bind ?_ (fun _ => ?_))
      | exact ih0 _ _ _ _ _ _ _ _ _ _ _ _ _ _ _ _
      | exact ref11_Zone.mono _ _
      | exact ref13_Holds.mono _ _ _ _ _ _ _ _ _
      | exact ref13_May.mono _ _ _ _ _ _
      | exact LeO.none _
      | refine LeO.ite ?_ ?_
      | refine LeO.bind ?_ (fun _ => ?_)
theorem law14_ZoneOnes.mono : ∀ a0 a1 a2 a3 a4 a5 a6 a7 k, LeO (law14_ZoneOnes.f k a0 a1 a2 a3 a4 a5 a6 a7) (law14_ZoneOnes.f (k + 1) a0 a1 a2 a3 a4 a5 a6 a7) := by
  intro a0 a1 a2 a3 a4 a5 a6 a7 k
  have ih0 := law14_ZoneOnes.mono_l k
  unfold law14_ZoneOnes.f
  repeat' first
      | (with_reducible exact ih0 _ _ _ _ _ _ _ _ _ _ _ _ _ _ _ _)
      | (with_reducible exact ref11_Zone.mono _ _)
      | (with_reducible exact ref13_Holds.mono _ _ _ _ _ _ _ _ _)
      | (with_reducible exact ref13_May.mono _ _ _ _ _ _)
      | (with_reducible exact LeO.refl _)
      | (with_reducible exact LeO.none _)
      | (with_reducible refine LeO.ite ?_ ?_)
      | (with_reducible refine LeO.bind ?_ (fun _ => ?_))
      | exact ih0 _ _ _ _ _ _ _ _ _ _ _ _ _ _ _ _
      | exact ref11_Zone.mono _ _
      | exact ref13_Holds.mono _ _ _ _ _ _ _ _ _
      | exact ref13_May.mono _ _ _ _ _ _
      | exact LeO.none _
      | refine LeO.ite ?_ ?_
      | refine LeO.bind ?_ (fun _ => ?_)
set_option maxHeartbeats 8000000 in
set_option maxRecDepth 100000 in
theorem law14_ZoneOnes.calls (k : Nat) (a0_0 : Int) (a0_1 : Int) (a0_2 : ByteArray) (a1_0 : Int) (a1_1 : Int) (a1_2 : Int) (a1_3 : Int) (a1_4 : ByteArray) (r : Bool) (w : World) (hr_ : Aside0 (r = true)) (h : law14_ZoneOnes.f k a0_0 a0_1 a0_2 a1_0 a1_1 a1_2 a1_3 a1_4 = some r) :
    Calls Try.prog 4 #[.agg #[.int .i64 a0_0, .int .i64 a0_1, .string a0_2], .agg #[.int .i64 a1_0, .int .i64 a1_1, .int .i64 a1_2, .int .i64 a1_3, .string a1_4]] w fun e w' => e = .returned (.bool r) ∧ Below w.heap.size w w' := by
  have hu24 := Try.underlying24
  have hu26 := Try.underlying26
  have hu30 := Try.underlying30
  have HB := Aside0.mk (Below.refl w.heap.size w)
  have H : ((law14_shown.f).bind fun t197 => ((ref11_Zone.f k (([(⟨a0_0, a0_1, a0_2⟩ : S24)] : List (S24)))).bind fun bt201 => ((ref13_Holds.f k a1_0 a1_1 a1_2 a1_3 a1_4 a0_0 a0_1 a0_2).bind fun t210 => ((ref13_May.f k a1_0 a1_1 a1_2 a1_3 a1_4).bind fun t211 => (if t211 = true then (if a0_0 = 0 then (law14_ZoneOnes.j0 k t197 t210 false a1_0 a1_1 a1_2 a1_3 a1_4 bt201.1 bt201.2.1 bt201.2.2.1 bt201.2.2.2.1 bt201.2.2.2.2.1 bt201.2.2.2.2.2.1 bt201.2.2.2.2.2.2.1 bt201.2.2.2.2.2.2.2) else (if a1_1 < 7 then (law14_ZoneOnes.j0 k t197 t210 (a0_0 != a1_2) a1_0 a1_1 a1_2 a1_3 a1_4 bt201.1 bt201.2.1 bt201.2.2.1 bt201.2.2.2.1 bt201.2.2.2.2.1 bt201.2.2.2.2.2.1 bt201.2.2.2.2.2.2.1 bt201.2.2.2.2.2.2.2) else (law14_ZoneOnes.j0 k t197 t210 false a1_0 a1_1 a1_2 a1_3 a1_4 bt201.1 bt201.2.1 bt201.2.2.1 bt201.2.2.2.1 bt201.2.2.2.2.1 bt201.2.2.2.2.2.1 bt201.2.2.2.2.2.2.1 bt201.2.2.2.2.2.2.2))) else (law14_ZoneOnes.j0 k t197 t210 true a1_0 a1_1 a1_2 a1_3 a1_4 bt201.1 bt201.2.1 bt201.2.2.1 bt201.2.2.2.1 bt201.2.2.2.2.1 bt201.2.2.2.2.2.1 bt201.2.2.2.2.2.2.1 bt201.2.2.2.2.2.2.2)))))) = some r := h
  clear h
  replace H := Option.bind_eq_some_iff.mp H
  obtain ⟨t197, A30, H⟩ := H
  replace H : ((ref11_Zone.f k (([(⟨a0_0, a0_1, a0_2⟩ : S24)] : List (S24)))).bind fun bt201 => ((ref13_Holds.f k a1_0 a1_1 a1_2 a1_3 a1_4 a0_0 a0_1 a0_2).bind fun t210 => ((ref13_May.f k a1_0 a1_1 a1_2 a1_3 a1_4).bind fun t211 => (if t211 = true then (if a0_0 = 0 then (law14_ZoneOnes.j0 k t197 t210 false a1_0 a1_1 a1_2 a1_3 a1_4 bt201.1 bt201.2.1 bt201.2.2.1 bt201.2.2.2.1 bt201.2.2.2.2.1 bt201.2.2.2.2.2.1 bt201.2.2.2.2.2.2.1 bt201.2.2.2.2.2.2.2) else (if a1_1 < 7 then (law14_ZoneOnes.j0 k t197 t210 (a0_0 != a1_2) a1_0 a1_1 a1_2 a1_3 a1_4 bt201.1 bt201.2.1 bt201.2.2.1 bt201.2.2.2.1 bt201.2.2.2.2.1 bt201.2.2.2.2.2.1 bt201.2.2.2.2.2.2.1 bt201.2.2.2.2.2.2.2) else (law14_ZoneOnes.j0 k t197 t210 false a1_0 a1_1 a1_2 a1_3 a1_4 bt201.1 bt201.2.1 bt201.2.2.1 bt201.2.2.2.1 bt201.2.2.2.2.1 bt201.2.2.2.2.2.1 bt201.2.2.2.2.2.2.1 bt201.2.2.2.2.2.2.2))) else (law14_ZoneOnes.j0 k t197 t210 true a1_0 a1_1 a1_2 a1_3 a1_4 bt201.1 bt201.2.1 bt201.2.2.1 bt201.2.2.2.1 bt201.2.2.2.2.1 bt201.2.2.2.2.2.1 bt201.2.2.2.2.2.2.1 bt201.2.2.2.2.2.2.2))))) = some r := H
  have A3 := Aside0.mk A30
  clear A30
  obtain ⟨y198, hy198⟩ : ∃ y_ : List (S24), y_ = (([(⟨a0_0, a0_1, a0_2⟩ : S24)] : List (S24))) := ⟨_, rfl⟩
  replace H : ((ref11_Zone.f k y198).bind fun bt201 => ((ref13_Holds.f k a1_0 a1_1 a1_2 a1_3 a1_4 a0_0 a0_1 a0_2).bind fun t210 => ((ref13_May.f k a1_0 a1_1 a1_2 a1_3 a1_4).bind fun t211 => (if t211 = true then (if a0_0 = 0 then (law14_ZoneOnes.j0 k t197 t210 false a1_0 a1_1 a1_2 a1_3 a1_4 bt201.1 bt201.2.1 bt201.2.2.1 bt201.2.2.2.1 bt201.2.2.2.2.1 bt201.2.2.2.2.2.1 bt201.2.2.2.2.2.2.1 bt201.2.2.2.2.2.2.2) else (if a1_1 < 7 then (law14_ZoneOnes.j0 k t197 t210 (a0_0 != a1_2) a1_0 a1_1 a1_2 a1_3 a1_4 bt201.1 bt201.2.1 bt201.2.2.1 bt201.2.2.2.1 bt201.2.2.2.2.1 bt201.2.2.2.2.2.1 bt201.2.2.2.2.2.2.1 bt201.2.2.2.2.2.2.2) else (law14_ZoneOnes.j0 k t197 t210 false a1_0 a1_1 a1_2 a1_3 a1_4 bt201.1 bt201.2.1 bt201.2.2.1 bt201.2.2.2.1 bt201.2.2.2.2.1 bt201.2.2.2.2.2.1 bt201.2.2.2.2.2.2.1 bt201.2.2.2.2.2.2.2))) else (law14_ZoneOnes.j0 k t197 t210 true a1_0 a1_1 a1_2 a1_3 a1_4 bt201.1 bt201.2.1 bt201.2.2.1 bt201.2.2.2.1 bt201.2.2.2.2.1 bt201.2.2.2.2.2.1 bt201.2.2.2.2.2.2.1 bt201.2.2.2.2.2.2.2))))) = some r := by first | (rw [hy198]; with_reducible exact H) | (have H2_ := (Option.bind_some _ _).symm.trans H; rw [hy198]; with_reducible exact H2_) | (have H2_ := (Option.bind_some _ _).symm.trans H; with_reducible exact H2_) | with_reducible exact H | (rw [hy198]; exact H) | exact H
  have Ny198 := Aside0.mk hy198
  clear hy198
  replace H := Option.bind_eq_some_iff.mp H
  obtain ⟨⟨t201, t202, t203, t204, t205, t206, t207, t208⟩, A40, H⟩ := H
  replace H : ((ref13_Holds.f k a1_0 a1_1 a1_2 a1_3 a1_4 a0_0 a0_1 a0_2).bind fun t210 => ((ref13_May.f k a1_0 a1_1 a1_2 a1_3 a1_4).bind fun t211 => (if t211 = true then (if a0_0 = 0 then (law14_ZoneOnes.j0 k t197 t210 false a1_0 a1_1 a1_2 a1_3 a1_4 t201 t202 t203 t204 t205 t206 t207 t208) else (if a1_1 < 7 then (law14_ZoneOnes.j0 k t197 t210 (a0_0 != a1_2) a1_0 a1_1 a1_2 a1_3 a1_4 t201 t202 t203 t204 t205 t206 t207 t208) else (law14_ZoneOnes.j0 k t197 t210 false a1_0 a1_1 a1_2 a1_3 a1_4 t201 t202 t203 t204 t205 t206 t207 t208))) else (law14_ZoneOnes.j0 k t197 t210 true a1_0 a1_1 a1_2 a1_3 a1_4 t201 t202 t203 t204 t205 t206 t207 t208)))) = some r := H
  have A4 := Aside0.mk A40
  clear A40
  replace H := Option.bind_eq_some_iff.mp H
  obtain ⟨t210, A50, H⟩ := H
  replace H : ((ref13_May.f k a1_0 a1_1 a1_2 a1_3 a1_4).bind fun t211 => (if t211 = true then (if a0_0 = 0 then (law14_ZoneOnes.j0 k t197 t210 false a1_0 a1_1 a1_2 a1_3 a1_4 t201 t202 t203 t204 t205 t206 t207 t208) else (if a1_1 < 7 then (law14_ZoneOnes.j0 k t197 t210 (a0_0 != a1_2) a1_0 a1_1 a1_2 a1_3 a1_4 t201 t202 t203 t204 t205 t206 t207 t208) else (law14_ZoneOnes.j0 k t197 t210 false a1_0 a1_1 a1_2 a1_3 a1_4 t201 t202 t203 t204 t205 t206 t207 t208))) else (law14_ZoneOnes.j0 k t197 t210 true a1_0 a1_1 a1_2 a1_3 a1_4 t201 t202 t203 t204 t205 t206 t207 t208))) = some r := H
  have A5 := Aside0.mk A50
  clear A50
  have HC6 := Aside0.mk H
  clear H
  go_enter Try.func4, Try.ntmps4
  go_upto_region 4 with (first | ((with_reducible refine gate_dst (N := 2) rfl ?_); refine box_event ?hg (N := 2) ?hd (cs := #[.int .i64 a0_0, .int .i64 a0_1, .string a0_2]) (t := 24) ?hr ?_; (case hd => rfl); (case hg => rfl); (case hr => first | (go_simp; done) | (go_simp; rfl)); intro gb195 hg w7 hbox hb; have n0_ := Aside0.mk (below_step (by repeat (first | (with_reducible first | exact HB.out | apply below_alloc | apply pw_below_drewN | apply below_drew1) | exact HB.out)) hb); have n1_ := Aside0.mk (hbox); have n2_ := Aside0.mk ((by rw [hg]; exact (below_size (by repeat (first | (with_reducible first | exact HB.out | apply below_alloc | apply pw_below_drewN | apply below_drew1) | exact HB.out))) : w.heap.size ≤ gb195)); have n3_ := Aside0.mk ((by rw [hg]; exact (below_size (by repeat (first | (with_reducible first | exact HB.out | apply below_alloc | apply pw_below_drewN | apply below_drew1) | exact HB.out))) : w.heap.size ≤ gb195)); clear HB; have HB := n0_; have BK195 := n1_; have GW195 := n2_; have GE195 := n3_; clear n0_ n1_ n2_ n3_; clear hb hbox hg) | ((with_reducible refine gate_dst (N := 3) rfl ?_); refine box_event ?hg (N := 3) ?hd (cs := #[.int .i64 a1_0, .int .i64 a1_1, .int .i64 a1_2, .int .i64 a1_3, .string a1_4]) (t := 26) ?hr ?_; (case hd => rfl); (case hg => rfl); (case hr => first | (go_simp; done) | (go_simp; rfl)); intro gb196 hg w8 hbox hb; have n0_ := Aside0.mk (blk_below (g := gb195) (o := .cells #[.int .i64 a0_0, .int .i64 a0_1, .string a0_2] 24 (0, 0)) (by (with_reducible repeat (first | refine blk_drewN ?_ _ | refine blk_drew ?_ | refine blk_alloc ?_ _)); exact BK195.out) hb); have n1_ := Aside0.mk (below_step (by repeat (first | (with_reducible first | exact HB.out | apply below_alloc | apply pw_below_drewN | apply below_drew1 | refine below_set ?_ GE195.out) | exact HB.out)) hb); have n2_ := Aside0.mk (hbox); have n3_ := Aside0.mk ((by rw [hg]; exact (below_size (by repeat (first | (with_reducible first | exact HB.out | apply below_alloc | apply pw_below_drewN | apply below_drew1 | refine below_set ?_ GE195.out) | exact HB.out))) : w.heap.size ≤ gb196)); have n4_ := Aside0.mk ((by rw [hg]; exact (below_size (by repeat (first | (with_reducible first | exact HB.out | apply below_alloc | apply pw_below_drewN | apply below_drew1 | refine below_set ?_ GE195.out) | exact HB.out))) : w.heap.size ≤ gb196)); have n5_ := Aside0.mk ((by rw [hg]; exact Nat.ne_of_lt (blk_lt (g := gb195) (o := .cells #[.int .i64 a0_0, .int .i64 a0_1, .string a0_2] 24 (0, 0)) (by (with_reducible repeat (first | refine blk_drewN ?_ _ | refine blk_drew ?_ | refine blk_alloc ?_ _)); exact BK195.out)) : gb195 ≠ gb196)); have n6_ := Aside0.mk ((by rw [hg]; exact Nat.ne_of_gt (blk_lt (g := gb195) (o := .cells #[.int .i64 a0_0, .int .i64 a0_1, .string a0_2] 24 (0, 0)) (by (with_reducible repeat (first | refine blk_drewN ?_ _ | refine blk_drew ?_ | refine blk_alloc ?_ _)); exact BK195.out)) : gb196 ≠ gb195)); clear BK195; clear HB; have BK195 := n0_; have HB := n1_; have BK196 := n2_; have GW196 := n3_; have GE196 := n4_; have NB195_196 := n5_; have NB196_195 := n6_; clear n0_ n1_ n2_ n3_ n4_ n5_ n6_; clear hb hbox hg) | ((with_reducible refine gate_callee (f := 8) rfl ?_); refine goesL_ (some 8) rfl rfl Try.func8 (by kernel_rfl) rfl #[] rfl (by (try simp only [List.map_toArray, List.map_cons, List.map_nil]); first | done | rfl | (simp only [List.length_drop, List.length_take]; rfl)) ?_; (with_reducible refine (law14_shown.calls  t197 _ A3.out).mono ?_); rintro e w9 ⟨rfl, hb⟩; refine ⟨_, rfl, ?_⟩; have n0_ := Aside0.mk (blk_below (g := gb195) (o := .cells #[.int .i64 a0_0, .int .i64 a0_1, .string a0_2] 24 (0, 0)) (by (with_reducible repeat (first | refine blk_drewN ?_ _ | refine blk_drew ?_ | refine blk_alloc ?_ _)); exact BK195.out) hb); have n1_ := Aside0.mk (blk_below (g := gb196) (o := .cells #[.int .i64 a1_0, .int .i64 a1_1, .int .i64 a1_2, .int .i64 a1_3, .string a1_4] 26 (0, 0)) (by (with_reducible repeat (first | refine blk_drewN ?_ _ | refine blk_drew ?_ | refine blk_alloc ?_ _)); exact BK196.out) hb); have n2_ := Aside0.mk (below_step (by repeat (first | (with_reducible first | exact HB.out | apply below_alloc | apply pw_below_drewN | apply below_drew1 | refine below_set ?_ GE195.out | refine below_set ?_ GE196.out) | exact HB.out)) hb); clear BK195; clear BK196; clear HB; have BK195 := n0_; have BK196 := n1_; have HB := n2_; clear n0_ n1_ n2_; (try clear hb); (try clear hb2); (try clear hk); (try clear hi); have hnb10 := NB195_196.out; have hnc10 := NB196_195.out; have hcz11_0 : w9.cell? ⟨gb195, 0, none⟩ = some (.int .i64 a0_0) := (blk_cell BK195.out 0).trans rfl; have hcz11_1 : w9.cell? ⟨gb195, 1, none⟩ = some (.int .i64 a0_1) := (blk_cell BK195.out 1).trans rfl; have hcz11_2 : w9.cell? ⟨gb195, 2, none⟩ = some (.string a0_2) := (blk_cell BK195.out 2).trans rfl; have hfz11_0 := blk_frozen BK195.out 0; have hfz11_1 := blk_frozen BK195.out 1; have hfz11_2 := blk_frozen BK195.out 2) | ((with_reducible refine gate_dst (N := 10) rfl ?_); refine Kd.R_lit k24 _ 24 ?hg (N := 10) ?hd (xs := ([(⟨a0_0, a0_1, a0_2⟩ : S24)] : List (S24))) (inner := [.int .i64 a0_0, .int .i64 a0_1, .string a0_2]) (ok := fun _ => True) (okp := fun _ => True) ?hr ?hp (fun _ hk => hk) trivial (Below.refl _ _) (Nat.le_refl _) (by simp) ?_; (case hd => rfl); (case hg => rfl); (case hr => first | (go_simp; done) | (go_simp; rfl)); (case hp => exact (Reps.c3 (show Kd.M k24 _ _ _ (⟨a0_0, a0_1, a0_2⟩ : S24) [.int .i64 a0_0, .int .i64 a0_1, .string a0_2] from (k24_mkM _ _ _ (⟨a0_0, a0_1, a0_2⟩ : S24) )) (Reps.none _ _))); intro v199 w12 ho13 hb hg_ hnew_; clear hg_ hnew_; (first | rw [← Ny198.out] at ho13 | (simp only [Int.reduceToNat] at ho13; rw [← Ny198.out] at ho13)); have n0_ := Aside0.mk (Kd.R_lower (Kd.R_newB ho13 (g := gb195) (o := .cells #[.int .i64 a0_0, .int .i64 a0_1, .string a0_2] 24 (0, 0)) (by (with_reducible repeat (first | refine blk_drewN ?_ _ | refine blk_drew ?_ | refine blk_alloc ?_ _)); exact BK195.out)) (below_size (by repeat (first | (with_reducible first | exact HB.out | apply below_alloc | apply pw_below_drewN | apply below_drew1 | refine below_set ?_ GE195.out | refine below_set ?_ GE196.out) | exact HB.out)))); have n1_ := Aside0.mk (blk_below (g := gb195) (o := .cells #[.int .i64 a0_0, .int .i64 a0_1, .string a0_2] 24 (0, 0)) (by (with_reducible repeat (first | refine blk_drewN ?_ _ | refine blk_drew ?_ | refine blk_alloc ?_ _)); exact BK195.out) hb); have n2_ := Aside0.mk (blk_below (g := gb196) (o := .cells #[.int .i64 a1_0, .int .i64 a1_1, .int .i64 a1_2, .int .i64 a1_3, .string a1_4] 26 (0, 0)) (by (with_reducible repeat (first | refine blk_drewN ?_ _ | refine blk_drew ?_ | refine blk_alloc ?_ _)); exact BK196.out) hb); have n3_ := Aside0.mk (below_step (by repeat (first | (with_reducible first | exact HB.out | apply below_alloc | apply pw_below_drewN | apply below_drew1 | refine below_set ?_ GE195.out | refine below_set ?_ GE196.out) | exact HB.out)) hb); clear BK195; clear BK196; clear HB; have HO200 := n0_; have BK195 := n1_; have BK196 := n2_; have HB := n3_; clear n0_ n1_ n2_ n3_; clear hb ho13; obtain ⟨Ao14, co14, eo14⟩ := Kd.R_slice HO200.out; subst eo14) | ((with_reducible refine gate_callee (f := 10) rfl ?_); refine goesL_ (some 11) rfl rfl Try.func10 (by kernel_rfl) rfl #[.slice Ao14 y198.length co14] rfl (by (try simp only [List.map_toArray, List.map_cons, List.map_nil]); first | done | rfl | (simp only [List.length_drop, List.length_take]; rfl)) ?_; (with_reducible refine (ref11_Zone.calls k _ _ y198 t201 t202 t203 t204 t205 t206 t207 t208 _ ?side1 ?side2 A4.out).mono ?_); (case side1 => repeat (first | exact (Kd.R_reads' HO200.out).2.2 | (with_reducible refine Kd.C_alloc ?_ _) | (with_reducible refine Kd.C_drewN ?_ _) | (with_reducible refine Kd.C_drew ?_))); (case side2 => exact (Kd.R_reads' HO200.out).2.1); rintro e w15 ⟨rfl, hb⟩; refine ⟨_, rfl, ?_⟩; have n0_ := Aside0.mk (Kd.R_below (by (with_reducible repeat (first | apply Kd.R_alloc | apply Kd.R_drewN | apply Kd.R_drew)); exact HO200.out) hb); have n1_ := Aside0.mk (blk_below (g := gb195) (o := .cells #[.int .i64 a0_0, .int .i64 a0_1, .string a0_2] 24 (0, 0)) (by (with_reducible repeat (first | refine blk_drewN ?_ _ | refine blk_drew ?_ | refine blk_alloc ?_ _)); exact BK195.out) hb); have n2_ := Aside0.mk (blk_below (g := gb196) (o := .cells #[.int .i64 a1_0, .int .i64 a1_1, .int .i64 a1_2, .int .i64 a1_3, .string a1_4] 26 (0, 0)) (by (with_reducible repeat (first | refine blk_drewN ?_ _ | refine blk_drew ?_ | refine blk_alloc ?_ _)); exact BK196.out) hb); have n3_ := Aside0.mk (below_step (by repeat (first | (with_reducible first | exact HB.out | apply below_alloc | apply pw_below_drewN | apply below_drew1 | refine below_set ?_ GE195.out | refine below_set ?_ GE196.out) | exact HB.out)) hb); clear HO200; clear BK195; clear BK196; clear HB; have HO200 := n0_; have BK195 := n1_; have BK196 := n2_; have HB := n3_; clear n0_ n1_ n2_ n3_; (try clear hb); (try clear hb2); (try clear hk); (try clear hi)) | ((with_reducible refine gate_dst (N := 6) rfl ?_); refine box_event ?hg (N := 6) ?hd (cs := #[.int .i64 0, .int .i64 0, .int .i64 0, .int .i64 0, .string (⟨#[]⟩ : ByteArray), .int .i64 0, .int .i64 0, .string (⟨#[]⟩ : ByteArray)]) (t := 30) ?hr ?_; (case hd => rfl); (case hg => rfl); (case hr => first | (go_simp; done) | (go_simp; rfl)); intro gb209 hg w16 hbox hb; have n0_ := Aside0.mk (Kd.R_below (by (with_reducible repeat (first | apply Kd.R_alloc | apply Kd.R_drewN | apply Kd.R_drew)); exact HO200.out) hb); have n1_ := Aside0.mk (blk_below (g := gb195) (o := .cells #[.int .i64 a0_0, .int .i64 a0_1, .string a0_2] 24 (0, 0)) (by (with_reducible repeat (first | refine blk_drewN ?_ _ | refine blk_drew ?_ | refine blk_alloc ?_ _)); exact BK195.out) hb); have n2_ := Aside0.mk (blk_below (g := gb196) (o := .cells #[.int .i64 a1_0, .int .i64 a1_1, .int .i64 a1_2, .int .i64 a1_3, .string a1_4] 26 (0, 0)) (by (with_reducible repeat (first | refine blk_drewN ?_ _ | refine blk_drew ?_ | refine blk_alloc ?_ _)); exact BK196.out) hb); have n3_ := Aside0.mk (below_step (by repeat (first | (with_reducible first | exact HB.out | apply below_alloc | apply pw_below_drewN | apply below_drew1 | refine below_set ?_ GE195.out | refine below_set ?_ GE196.out) | exact HB.out)) hb); have n4_ := Aside0.mk (hbox); have n5_ := Aside0.mk ((by rw [hg]; exact (below_size (by repeat (first | (with_reducible first | exact HB.out | apply below_alloc | apply pw_below_drewN | apply below_drew1 | refine below_set ?_ GE195.out | refine below_set ?_ GE196.out) | exact HB.out))) : w.heap.size ≤ gb209)); have n6_ := Aside0.mk ((by rw [hg]; exact (below_size (by repeat (first | (with_reducible first | exact HB.out | apply below_alloc | apply pw_below_drewN | apply below_drew1 | refine below_set ?_ GE195.out | refine below_set ?_ GE196.out) | exact HB.out))) : w.heap.size ≤ gb209)); have n7_ := Aside0.mk ((by rw [hg]; exact Nat.ne_of_lt (blk_lt (g := gb195) (o := .cells #[.int .i64 a0_0, .int .i64 a0_1, .string a0_2] 24 (0, 0)) (by (with_reducible repeat (first | refine blk_drewN ?_ _ | refine blk_drew ?_ | refine blk_alloc ?_ _)); exact BK195.out)) : gb195 ≠ gb209)); have n8_ := Aside0.mk ((by rw [hg]; exact Nat.ne_of_gt (blk_lt (g := gb195) (o := .cells #[.int .i64 a0_0, .int .i64 a0_1, .string a0_2] 24 (0, 0)) (by (with_reducible repeat (first | refine blk_drewN ?_ _ | refine blk_drew ?_ | refine blk_alloc ?_ _)); exact BK195.out)) : gb209 ≠ gb195)); have n9_ := Aside0.mk ((by rw [hg]; exact Nat.ne_of_lt (blk_lt (g := gb196) (o := .cells #[.int .i64 a1_0, .int .i64 a1_1, .int .i64 a1_2, .int .i64 a1_3, .string a1_4] 26 (0, 0)) (by (with_reducible repeat (first | refine blk_drewN ?_ _ | refine blk_drew ?_ | refine blk_alloc ?_ _)); exact BK196.out)) : gb196 ≠ gb209)); have n10_ := Aside0.mk ((by rw [hg]; exact Nat.ne_of_gt (blk_lt (g := gb196) (o := .cells #[.int .i64 a1_0, .int .i64 a1_1, .int .i64 a1_2, .int .i64 a1_3, .string a1_4] 26 (0, 0)) (by (with_reducible repeat (first | refine blk_drewN ?_ _ | refine blk_drew ?_ | refine blk_alloc ?_ _)); exact BK196.out)) : gb209 ≠ gb196)); clear HO200; clear BK195; clear BK196; clear HB; have HO200 := n0_; have BK195 := n1_; have BK196 := n2_; have HB := n3_; have BK209 := n4_; have GW209 := n5_; have GE209 := n6_; have NB195_209 := n7_; have NB209_195 := n8_; have NB196_209 := n9_; have NB209_196 := n10_; clear n0_ n1_ n2_ n3_ n4_ n5_ n6_ n7_ n8_ n9_ n10_; clear hb hbox hg; have hnb17 := NB209_195.out; have hnc17 := NB195_209.out; have hnb18 := NB209_196.out; have hnc18 := NB196_209.out; have hcz19_0 : w16.cell? ⟨gb209, 0, none⟩ = some (.int .i64 0) := (blk_cell BK209.out 0).trans rfl; have hcz19_1 : w16.cell? ⟨gb209, 1, none⟩ = some (.int .i64 0) := (blk_cell BK209.out 1).trans rfl; have hcz19_2 : w16.cell? ⟨gb209, 2, none⟩ = some (.int .i64 0) := (blk_cell BK209.out 2).trans rfl; have hcz19_3 : w16.cell? ⟨gb209, 3, none⟩ = some (.int .i64 0) := (blk_cell BK209.out 3).trans rfl; have hcz19_4 : w16.cell? ⟨gb209, 4, none⟩ = some (.string (⟨#[]⟩ : ByteArray)) := (blk_cell BK209.out 4).trans rfl; have hcz19_5 : w16.cell? ⟨gb209, 5, none⟩ = some (.int .i64 0) := (blk_cell BK209.out 5).trans rfl; have hcz19_6 : w16.cell? ⟨gb209, 6, none⟩ = some (.int .i64 0) := (blk_cell BK209.out 6).trans rfl; have hcz19_7 : w16.cell? ⟨gb209, 7, none⟩ = some (.string (⟨#[]⟩ : ByteArray)) := (blk_cell BK209.out 7).trans rfl; have hfz19_0 := blk_frozen BK209.out 0; have hfz19_1 := blk_frozen BK209.out 1; have hfz19_2 := blk_frozen BK209.out 2; have hfz19_3 := blk_frozen BK209.out 3; have hfz19_4 := blk_frozen BK209.out 4; have hfz19_5 := blk_frozen BK209.out 5; have hfz19_6 := blk_frozen BK209.out 6; have hfz19_7 := blk_frozen BK209.out 7; have hcz20_0 : w16.cell? ⟨gb196, 0, none⟩ = some (.int .i64 a1_0) := (blk_cell BK196.out 0).trans rfl; have hcz20_1 : w16.cell? ⟨gb196, 1, none⟩ = some (.int .i64 a1_1) := (blk_cell BK196.out 1).trans rfl; have hcz20_2 : w16.cell? ⟨gb196, 2, none⟩ = some (.int .i64 a1_2) := (blk_cell BK196.out 2).trans rfl; have hcz20_3 : w16.cell? ⟨gb196, 3, none⟩ = some (.int .i64 a1_3) := (blk_cell BK196.out 3).trans rfl; have hcz20_4 : w16.cell? ⟨gb196, 4, none⟩ = some (.string a1_4) := (blk_cell BK196.out 4).trans rfl; have hfz20_0 := blk_frozen BK196.out 0; have hfz20_1 := blk_frozen BK196.out 1; have hfz20_2 := blk_frozen BK196.out 2; have hfz20_3 := blk_frozen BK196.out 3; have hfz20_4 := blk_frozen BK196.out 4; have hcz21_0 : w16.cell? ⟨gb195, 0, none⟩ = some (.int .i64 a0_0) := (blk_cell BK195.out 0).trans rfl; have hcz21_1 : w16.cell? ⟨gb195, 1, none⟩ = some (.int .i64 a0_1) := (blk_cell BK195.out 1).trans rfl; have hcz21_2 : w16.cell? ⟨gb195, 2, none⟩ = some (.string a0_2) := (blk_cell BK195.out 2).trans rfl; have hfz21_0 := blk_frozen BK195.out 0; have hfz21_1 := blk_frozen BK195.out 1; have hfz21_2 := blk_frozen BK195.out 2) | ((with_reducible refine gate_callee (f := 11) rfl ?_); refine goesL_ (some 14) rfl rfl Try.func11 (by kernel_rfl) rfl #[.agg #[.int .i64 a1_0, .int .i64 a1_1, .int .i64 a1_2, .int .i64 a1_3, .string a1_4], .agg #[.int .i64 a0_0, .int .i64 a0_1, .string a0_2]] rfl (by (try simp only [List.map_toArray, List.map_cons, List.map_nil]); first | done | rfl | (simp only [List.length_drop, List.length_take]; rfl)) ?_; (with_reducible refine (ref13_Holds.calls k a1_0 a1_1 a1_2 a1_3 a1_4 a0_0 a0_1 a0_2 t210 _ A5.out).mono ?_); rintro e w22 ⟨rfl, hb⟩; refine ⟨_, rfl, ?_⟩; have n0_ := Aside0.mk (Kd.R_below (by (with_reducible repeat (first | apply Kd.R_alloc | apply Kd.R_drewN | apply Kd.R_drew)); exact (Kd.R_mono (Kd.R_far (p := ⟨gb209, 7, none⟩) (Kd.R_far (p := ⟨gb209, 6, none⟩) (Kd.R_far (p := ⟨gb209, 5, none⟩) (Kd.R_far (p := ⟨gb209, 4, none⟩) (Kd.R_far (p := ⟨gb209, 3, none⟩) (Kd.R_far (p := ⟨gb209, 2, none⟩) (Kd.R_far (p := ⟨gb209, 1, none⟩) (Kd.R_far (p := ⟨gb209, 0, none⟩) (Kd.R_types HO200.out BK209.out (by decide)) (fun _ hk => hk.2) (.int .i64 t201)) (fun _ hk => hk.2) (.int .i64 t202)) (fun _ hk => hk.2) (.int .i64 t203)) (fun _ hk => hk.2) (.int .i64 t204)) (fun _ hk => hk.2) (.string t205)) (fun _ hk => hk.2) (.int .i64 t206)) (fun _ hk => hk.2) (.int .i64 t207)) (fun _ hk => hk.2) (.string t208)) (fun _ h_ => h_.1))) hb); have n1_ := Aside0.mk (blk_below (g := gb195) (o := .cells #[.int .i64 a0_0, .int .i64 a0_1, .string a0_2] 24 (0, 0)) (by (with_reducible repeat (first | refine blk_drewN ?_ _ | refine blk_drew ?_ | refine blk_alloc ?_ _)); refine blk_far ?_ NB195_209.out _; (with_reducible repeat (first | refine blk_drewN ?_ _ | refine blk_drew ?_ | refine blk_alloc ?_ _)); refine blk_far ?_ NB195_209.out _; (with_reducible repeat (first | refine blk_drewN ?_ _ | refine blk_drew ?_ | refine blk_alloc ?_ _)); refine blk_far ?_ NB195_209.out _; (with_reducible repeat (first | refine blk_drewN ?_ _ | refine blk_drew ?_ | refine blk_alloc ?_ _)); refine blk_far ?_ NB195_209.out _; (with_reducible repeat (first | refine blk_drewN ?_ _ | refine blk_drew ?_ | refine blk_alloc ?_ _)); refine blk_far ?_ NB195_209.out _; (with_reducible repeat (first | refine blk_drewN ?_ _ | refine blk_drew ?_ | refine blk_alloc ?_ _)); refine blk_far ?_ NB195_209.out _; (with_reducible repeat (first | refine blk_drewN ?_ _ | refine blk_drew ?_ | refine blk_alloc ?_ _)); refine blk_far ?_ NB195_209.out _; (with_reducible repeat (first | refine blk_drewN ?_ _ | refine blk_drew ?_ | refine blk_alloc ?_ _)); refine blk_far ?_ NB195_209.out _; (with_reducible repeat (first | refine blk_drewN ?_ _ | refine blk_drew ?_ | refine blk_alloc ?_ _)); exact BK195.out) hb); have n2_ := Aside0.mk (blk_below (g := gb196) (o := .cells #[.int .i64 a1_0, .int .i64 a1_1, .int .i64 a1_2, .int .i64 a1_3, .string a1_4] 26 (0, 0)) (by (with_reducible repeat (first | refine blk_drewN ?_ _ | refine blk_drew ?_ | refine blk_alloc ?_ _)); refine blk_far ?_ NB196_209.out _; (with_reducible repeat (first | refine blk_drewN ?_ _ | refine blk_drew ?_ | refine blk_alloc ?_ _)); refine blk_far ?_ NB196_209.out _; (with_reducible repeat (first | refine blk_drewN ?_ _ | refine blk_drew ?_ | refine blk_alloc ?_ _)); refine blk_far ?_ NB196_209.out _; (with_reducible repeat (first | refine blk_drewN ?_ _ | refine blk_drew ?_ | refine blk_alloc ?_ _)); refine blk_far ?_ NB196_209.out _; (with_reducible repeat (first | refine blk_drewN ?_ _ | refine blk_drew ?_ | refine blk_alloc ?_ _)); refine blk_far ?_ NB196_209.out _; (with_reducible repeat (first | refine blk_drewN ?_ _ | refine blk_drew ?_ | refine blk_alloc ?_ _)); refine blk_far ?_ NB196_209.out _; (with_reducible repeat (first | refine blk_drewN ?_ _ | refine blk_drew ?_ | refine blk_alloc ?_ _)); refine blk_far ?_ NB196_209.out _; (with_reducible repeat (first | refine blk_drewN ?_ _ | refine blk_drew ?_ | refine blk_alloc ?_ _)); refine blk_far ?_ NB196_209.out _; (with_reducible repeat (first | refine blk_drewN ?_ _ | refine blk_drew ?_ | refine blk_alloc ?_ _)); exact BK196.out) hb); have n3_ := Aside0.mk (blk_below (g := gb209) (o := .cells #[.int .i64 t201, .int .i64 t202, .int .i64 t203, .int .i64 t204, .string t205, .int .i64 t206, .int .i64 t207, .string t208] 30 (0, 0)) (by (with_reducible repeat (first | refine blk_drewN ?_ _ | refine blk_drew ?_ | refine blk_alloc ?_ _)); refine blk_put (cs := #[.int .i64 t201, .int .i64 t202, .int .i64 t203, .int .i64 t204, .string t205, .int .i64 t206, .int .i64 t207, .string (⟨#[]⟩ : ByteArray)]) ?_ 7 _ rfl; (with_reducible repeat (first | refine blk_drewN ?_ _ | refine blk_drew ?_ | refine blk_alloc ?_ _)); refine blk_put (cs := #[.int .i64 t201, .int .i64 t202, .int .i64 t203, .int .i64 t204, .string t205, .int .i64 t206, .int .i64 0, .string (⟨#[]⟩ : ByteArray)]) ?_ 6 _ rfl; (with_reducible repeat (first | refine blk_drewN ?_ _ | refine blk_drew ?_ | refine blk_alloc ?_ _)); refine blk_put (cs := #[.int .i64 t201, .int .i64 t202, .int .i64 t203, .int .i64 t204, .string t205, .int .i64 0, .int .i64 0, .string (⟨#[]⟩ : ByteArray)]) ?_ 5 _ rfl; (with_reducible repeat (first | refine blk_drewN ?_ _ | refine blk_drew ?_ | refine blk_alloc ?_ _)); refine blk_put (cs := #[.int .i64 t201, .int .i64 t202, .int .i64 t203, .int .i64 t204, .string (⟨#[]⟩ : ByteArray), .int .i64 0, .int .i64 0, .string (⟨#[]⟩ : ByteArray)]) ?_ 4 _ rfl; (with_reducible repeat (first | refine blk_drewN ?_ _ | refine blk_drew ?_ | refine blk_alloc ?_ _)); refine blk_put (cs := #[.int .i64 t201, .int .i64 t202, .int .i64 t203, .int .i64 0, .string (⟨#[]⟩ : ByteArray), .int .i64 0, .int .i64 0, .string (⟨#[]⟩ : ByteArray)]) ?_ 3 _ rfl; (with_reducible repeat (first | refine blk_drewN ?_ _ | refine blk_drew ?_ | refine blk_alloc ?_ _)); refine blk_put (cs := #[.int .i64 t201, .int .i64 t202, .int .i64 0, .int .i64 0, .string (⟨#[]⟩ : ByteArray), .int .i64 0, .int .i64 0, .string (⟨#[]⟩ : ByteArray)]) ?_ 2 _ rfl; (with_reducible repeat (first | refine blk_drewN ?_ _ | refine blk_drew ?_ | refine blk_alloc ?_ _)); refine blk_put (cs := #[.int .i64 t201, .int .i64 0, .int .i64 0, .int .i64 0, .string (⟨#[]⟩ : ByteArray), .int .i64 0, .int .i64 0, .string (⟨#[]⟩ : ByteArray)]) ?_ 1 _ rfl; (with_reducible repeat (first | refine blk_drewN ?_ _ | refine blk_drew ?_ | refine blk_alloc ?_ _)); refine blk_put (cs := #[.int .i64 0, .int .i64 0, .int .i64 0, .int .i64 0, .string (⟨#[]⟩ : ByteArray), .int .i64 0, .int .i64 0, .string (⟨#[]⟩ : ByteArray)]) ?_ 0 _ rfl; (with_reducible repeat (first | refine blk_drewN ?_ _ | refine blk_drew ?_ | refine blk_alloc ?_ _)); exact BK209.out) hb); have n4_ := Aside0.mk (below_step (by repeat (first | (with_reducible first | exact HB.out | apply below_alloc | apply pw_below_drewN | apply below_drew1 | refine below_set ?_ GE195.out | refine below_set ?_ GE196.out | refine below_set ?_ GE209.out) | exact HB.out)) hb); clear HO200; clear BK195; clear BK196; clear BK209; clear HB; have HO200 := n0_; have BK195 := n1_; have BK196 := n2_; have BK209 := n3_; have HB := n4_; clear n0_ n1_ n2_ n3_ n4_; (try clear hb); (try clear hb2); (try clear hk); (try clear hi)))
  (try simp only [Act.put, List.setIfInBounds_toArray, List.set_cons_zero, List.set_cons_succ])
  go_cut [35] (fun v35 wc => ∃ (kq : Nat) (x35_5 : Bool), v35 = .bool x35_5 ∧ Aside0 (law14_ZoneOnes.j0 kq t197 t210 x35_5 a1_0 a1_1 a1_2 a1_3 a1_4 t201 t202 t203 t204 t205 t206 t207 t208 = some r) ∧ Aside0 (kq ≤ k) ∧ Aside0 (wc.heap[gb195]? = some (.cells #[.int .i64 a0_0, .int .i64 a0_1, .string a0_2] 24 (0, 0))) ∧ Aside0 (wc.heap[gb196]? = some (.cells #[.int .i64 a1_0, .int .i64 a1_1, .int .i64 a1_2, .int .i64 a1_3, .string a1_4] 26 (0, 0))) ∧ Aside0 (wc.heap[gb209]? = some (.cells #[.int .i64 t201, .int .i64 t202, .int .i64 t203, .int .i64 t204, .string t205, .int .i64 t206, .int .i64 t207, .string t208] 30 (0, 0))) ∧ Aside0 (Below w.heap.size w wc))
  case first =>
    have H := HC6.out
    clear HC6
    replace H := Option.bind_eq_some_iff.mp H
    obtain ⟨t211, A230, H⟩ := H
    replace H : (if t211 = true then (if a0_0 = 0 then (law14_ZoneOnes.j0 k t197 t210 false a1_0 a1_1 a1_2 a1_3 a1_4 t201 t202 t203 t204 t205 t206 t207 t208) else (if a1_1 < 7 then (law14_ZoneOnes.j0 k t197 t210 (a0_0 != a1_2) a1_0 a1_1 a1_2 a1_3 a1_4 t201 t202 t203 t204 t205 t206 t207 t208) else (law14_ZoneOnes.j0 k t197 t210 false a1_0 a1_1 a1_2 a1_3 a1_4 t201 t202 t203 t204 t205 t206 t207 t208))) else (law14_ZoneOnes.j0 k t197 t210 true a1_0 a1_1 a1_2 a1_3 a1_4 t201 t202 t203 t204 t205 t206 t207 t208)) = some r := H
    have A23 := Aside0.mk A230
    clear A230
    by_cases c24 : t211 = true
    · subst c24
      have H1 : (if a0_0 = 0 then (law14_ZoneOnes.j0 k t197 t210 false a1_0 a1_1 a1_2 a1_3 a1_4 t201 t202 t203 t204 t205 t206 t207 t208) else (if a1_1 < 7 then (law14_ZoneOnes.j0 k t197 t210 (a0_0 != a1_2) a1_0 a1_1 a1_2 a1_3 a1_4 t201 t202 t203 t204 t205 t206 t207 t208) else (law14_ZoneOnes.j0 k t197 t210 false a1_0 a1_1 a1_2 a1_3 a1_4 t201 t202 t203 t204 t205 t206 t207 t208))) = some r := by rw [if_pos rfl] at H; exact H
      clear H
      have H := H1
      clear H1
      by_cases c25 : a0_0 = 0
      · rw [if_pos c25] at H
        have c25b0 : (a0_0 == 0) = true := beq_iff_eq.mpr c25
        have c25b1 : (a0_0 != 0) = false := bne_eq_false_iff_eq.mpr c25
        clear c25
        (first | rw [c25b0] | (simp only [i64_w, i32_w]; rw [c25b0]) | skip)
        have H' := Aside0.mk H
        clear H
        have hnb26 := NB196_195.out
        have hnc26 := NB195_196.out
        have hnb27 := NB196_209.out
        have hnc27 := NB209_196.out
        have hcz28_0 : w22.cell? ⟨gb196, 0, none⟩ = some (.int .i64 a1_0) := (blk_cell BK196.out 0).trans rfl
        have hcz28_1 : w22.cell? ⟨gb196, 1, none⟩ = some (.int .i64 a1_1) := (blk_cell BK196.out 1).trans rfl
        have hcz28_2 : w22.cell? ⟨gb196, 2, none⟩ = some (.int .i64 a1_2) := (blk_cell BK196.out 2).trans rfl
        have hcz28_3 : w22.cell? ⟨gb196, 3, none⟩ = some (.int .i64 a1_3) := (blk_cell BK196.out 3).trans rfl
        have hcz28_4 : w22.cell? ⟨gb196, 4, none⟩ = some (.string a1_4) := (blk_cell BK196.out 4).trans rfl
        have hfz28_0 := blk_frozen BK196.out 0
        have hfz28_1 := blk_frozen BK196.out 1
        have hfz28_2 := blk_frozen BK196.out 2
        have hfz28_3 := blk_frozen BK196.out 3
        have hfz28_4 := blk_frozen BK196.out 4
        go_wp2_with (first | ((with_reducible refine gate_callee (f := 14) rfl ?_); refine goesL_ (some 16) rfl rfl Try.func14 (by kernel_rfl) rfl #[.agg #[.int .i64 a1_0, .int .i64 a1_1, .int .i64 a1_2, .int .i64 a1_3, .string a1_4]] rfl (by (try simp only [List.map_toArray, List.map_cons, List.map_nil]); first | done | rfl | (simp only [List.length_drop, List.length_take]; rfl)) ?_; (with_reducible refine (ref13_May.calls k a1_0 a1_1 a1_2 a1_3 a1_4 true _ A23.out).mono ?_); rintro e w29 ⟨rfl, hb⟩; refine ⟨_, rfl, ?_⟩; have n0_ := Aside0.mk (Kd.R_below (by (with_reducible repeat (first | apply Kd.R_alloc | apply Kd.R_drewN | apply Kd.R_drew)); exact HO200.out) hb); have n1_ := Aside0.mk (blk_below (g := gb195) (o := .cells #[.int .i64 a0_0, .int .i64 a0_1, .string a0_2] 24 (0, 0)) (by (with_reducible repeat (first | refine blk_drewN ?_ _ | refine blk_drew ?_ | refine blk_alloc ?_ _)); exact BK195.out) hb); have n2_ := Aside0.mk (blk_below (g := gb196) (o := .cells #[.int .i64 a1_0, .int .i64 a1_1, .int .i64 a1_2, .int .i64 a1_3, .string a1_4] 26 (0, 0)) (by (with_reducible repeat (first | refine blk_drewN ?_ _ | refine blk_drew ?_ | refine blk_alloc ?_ _)); exact BK196.out) hb); have n3_ := Aside0.mk (blk_below (g := gb209) (o := .cells #[.int .i64 t201, .int .i64 t202, .int .i64 t203, .int .i64 t204, .string t205, .int .i64 t206, .int .i64 t207, .string t208] 30 (0, 0)) (by (with_reducible repeat (first | refine blk_drewN ?_ _ | refine blk_drew ?_ | refine blk_alloc ?_ _)); exact BK209.out) hb); have n4_ := Aside0.mk (below_step (by repeat (first | (with_reducible first | exact HB.out | apply below_alloc | apply pw_below_drewN | apply below_drew1 | refine below_set ?_ GE195.out | refine below_set ?_ GE196.out | refine below_set ?_ GE209.out) | exact HB.out)) hb); clear HO200; clear BK195; clear BK196; clear BK209; clear HB; have HO200 := n0_; have BK195 := n1_; have BK196 := n2_; have BK209 := n3_; have HB := n4_; clear n0_ n1_ n2_ n3_ n4_; (try clear hb); (try clear hb2); (try clear hk); (try clear hi); have hnb30 := NB195_209.out; have hnc30 := NB209_195.out; have hcz31_0 : w29.cell? ⟨gb195, 0, none⟩ = some (.int .i64 a0_0) := (blk_cell BK195.out 0).trans rfl; have hcz31_1 : w29.cell? ⟨gb195, 1, none⟩ = some (.int .i64 a0_1) := (blk_cell BK195.out 1).trans rfl; have hcz31_2 : w29.cell? ⟨gb195, 2, none⟩ = some (.string a0_2) := (blk_cell BK195.out 2).trans rfl; have hfz31_0 := blk_frozen BK195.out 0; have hfz31_1 := blk_frozen BK195.out 1; have hfz31_2 := blk_frozen BK195.out 2))
        go_meet
        case rel => exact ⟨_, (false), (by first | rfl | (simp; done) | (simp [*]; done)), H', ⟨by first | omega | exact Nat.le_refl _⟩, ⟨by (with_reducible repeat (first | refine blk_drewN ?_ _ | refine blk_drew ?_ | refine blk_alloc ?_ _)); exact BK195.out⟩, ⟨by (with_reducible repeat (first | refine blk_drewN ?_ _ | refine blk_drew ?_ | refine blk_alloc ?_ _)); exact BK196.out⟩, ⟨by (with_reducible repeat (first | refine blk_drewN ?_ _ | refine blk_drew ?_ | refine blk_alloc ?_ _)); exact BK209.out⟩, ⟨by repeat (first | (with_reducible first | exact HB.out | apply below_alloc | apply pw_below_drewN | apply below_drew1 | refine below_set ?_ GE195.out | refine below_set ?_ GE196.out | refine below_set ?_ GE209.out) | exact HB.out)⟩⟩
      · rw [if_neg c25] at H
        have c25b0 : (a0_0 == 0) = false := beq_eq_false_iff_ne.mpr c25
        have c25b1 : (a0_0 != 0) = true := bne_iff_ne.mpr c25
        (first | rw [c25b0] | (simp only [i64_w, i32_w]; rw [c25b0]) | skip)
        by_cases c32 : a1_1 < 7
        · rw [if_pos c32] at H
          have c32b0 : decide (a1_1 < 7) = true := decide_eq_true c32
          clear c32
          have H' := Aside0.mk H
          clear H
          have hnb33 := NB196_195.out
          have hnc33 := NB195_196.out
          have hnb34 := NB196_209.out
          have hnc34 := NB209_196.out
          have hcz35_0 : w22.cell? ⟨gb196, 0, none⟩ = some (.int .i64 a1_0) := (blk_cell BK196.out 0).trans rfl
          have hcz35_1 : w22.cell? ⟨gb196, 1, none⟩ = some (.int .i64 a1_1) := (blk_cell BK196.out 1).trans rfl
          have hcz35_2 : w22.cell? ⟨gb196, 2, none⟩ = some (.int .i64 a1_2) := (blk_cell BK196.out 2).trans rfl
          have hcz35_3 : w22.cell? ⟨gb196, 3, none⟩ = some (.int .i64 a1_3) := (blk_cell BK196.out 3).trans rfl
          have hcz35_4 : w22.cell? ⟨gb196, 4, none⟩ = some (.string a1_4) := (blk_cell BK196.out 4).trans rfl
          have hfz35_0 := blk_frozen BK196.out 0
          have hfz35_1 := blk_frozen BK196.out 1
          have hfz35_2 := blk_frozen BK196.out 2
          have hfz35_3 := blk_frozen BK196.out 3
          have hfz35_4 := blk_frozen BK196.out 4
          go_wp2_with (first | ((with_reducible refine gate_callee (f := 14) rfl ?_); refine goesL_ (some 16) rfl rfl Try.func14 (by kernel_rfl) rfl #[.agg #[.int .i64 a1_0, .int .i64 a1_1, .int .i64 a1_2, .int .i64 a1_3, .string a1_4]] rfl (by (try simp only [List.map_toArray, List.map_cons, List.map_nil]); first | done | rfl | (simp only [List.length_drop, List.length_take]; rfl)) ?_; (with_reducible refine (ref13_May.calls k a1_0 a1_1 a1_2 a1_3 a1_4 true _ A23.out).mono ?_); rintro e w36 ⟨rfl, hb⟩; refine ⟨_, rfl, ?_⟩; have n0_ := Aside0.mk (Kd.R_below (by (with_reducible repeat (first | apply Kd.R_alloc | apply Kd.R_drewN | apply Kd.R_drew)); exact HO200.out) hb); have n1_ := Aside0.mk (blk_below (g := gb195) (o := .cells #[.int .i64 a0_0, .int .i64 a0_1, .string a0_2] 24 (0, 0)) (by (with_reducible repeat (first | refine blk_drewN ?_ _ | refine blk_drew ?_ | refine blk_alloc ?_ _)); exact BK195.out) hb); have n2_ := Aside0.mk (blk_below (g := gb196) (o := .cells #[.int .i64 a1_0, .int .i64 a1_1, .int .i64 a1_2, .int .i64 a1_3, .string a1_4] 26 (0, 0)) (by (with_reducible repeat (first | refine blk_drewN ?_ _ | refine blk_drew ?_ | refine blk_alloc ?_ _)); exact BK196.out) hb); have n3_ := Aside0.mk (blk_below (g := gb209) (o := .cells #[.int .i64 t201, .int .i64 t202, .int .i64 t203, .int .i64 t204, .string t205, .int .i64 t206, .int .i64 t207, .string t208] 30 (0, 0)) (by (with_reducible repeat (first | refine blk_drewN ?_ _ | refine blk_drew ?_ | refine blk_alloc ?_ _)); exact BK209.out) hb); have n4_ := Aside0.mk (below_step (by repeat (first | (with_reducible first | exact HB.out | apply below_alloc | apply pw_below_drewN | apply below_drew1 | refine below_set ?_ GE195.out | refine below_set ?_ GE196.out | refine below_set ?_ GE209.out) | exact HB.out)) hb); clear HO200; clear BK195; clear BK196; clear BK209; clear HB; have HO200 := n0_; have BK195 := n1_; have BK196 := n2_; have BK209 := n3_; have HB := n4_; clear n0_ n1_ n2_ n3_ n4_; (try clear hb); (try clear hb2); (try clear hk); (try clear hi); have hnb37 := NB195_209.out; have hnc37 := NB209_195.out; have hcz38_0 : w36.cell? ⟨gb195, 0, none⟩ = some (.int .i64 a0_0) := (blk_cell BK195.out 0).trans rfl; have hcz38_1 : w36.cell? ⟨gb195, 1, none⟩ = some (.int .i64 a0_1) := (blk_cell BK195.out 1).trans rfl; have hcz38_2 : w36.cell? ⟨gb195, 2, none⟩ = some (.string a0_2) := (blk_cell BK195.out 2).trans rfl; have hfz38_0 := blk_frozen BK195.out 0; have hfz38_1 := blk_frozen BK195.out 1; have hfz38_2 := blk_frozen BK195.out 2; have hcz39_0 : w36.cell? ⟨gb196, 0, none⟩ = some (.int .i64 a1_0) := (blk_cell BK196.out 0).trans rfl; have hcz39_1 : w36.cell? ⟨gb196, 1, none⟩ = some (.int .i64 a1_1) := (blk_cell BK196.out 1).trans rfl; have hcz39_2 : w36.cell? ⟨gb196, 2, none⟩ = some (.int .i64 a1_2) := (blk_cell BK196.out 2).trans rfl; have hcz39_3 : w36.cell? ⟨gb196, 3, none⟩ = some (.int .i64 a1_3) := (blk_cell BK196.out 3).trans rfl; have hcz39_4 : w36.cell? ⟨gb196, 4, none⟩ = some (.string a1_4) := (blk_cell BK196.out 4).trans rfl; have hfz39_0 := blk_frozen BK196.out 0; have hfz39_1 := blk_frozen BK196.out 1; have hfz39_2 := blk_frozen BK196.out 2; have hfz39_3 := blk_frozen BK196.out 3; have hfz39_4 := blk_frozen BK196.out 4))
          go_meet
          case rel => exact ⟨_, ((a0_0 != a1_2)), (by first | rfl | (simp; done) | (simp [*]; done)), H', ⟨by first | omega | exact Nat.le_refl _⟩, ⟨by (with_reducible repeat (first | refine blk_drewN ?_ _ | refine blk_drew ?_ | refine blk_alloc ?_ _)); exact BK195.out⟩, ⟨by (with_reducible repeat (first | refine blk_drewN ?_ _ | refine blk_drew ?_ | refine blk_alloc ?_ _)); exact BK196.out⟩, ⟨by (with_reducible repeat (first | refine blk_drewN ?_ _ | refine blk_drew ?_ | refine blk_alloc ?_ _)); exact BK209.out⟩, ⟨by repeat (first | (with_reducible first | exact HB.out | apply below_alloc | apply pw_below_drewN | apply below_drew1 | refine below_set ?_ GE195.out | refine below_set ?_ GE196.out | refine below_set ?_ GE209.out) | exact HB.out)⟩⟩
        · rw [if_neg c32] at H
          have c32b0 : decide (a1_1 < 7) = false := decide_eq_false c32
          clear c32
          have H' := Aside0.mk H
          clear H
          have hnb40 := NB196_195.out
          have hnc40 := NB195_196.out
          have hnb41 := NB196_209.out
          have hnc41 := NB209_196.out
          have hcz42_0 : w22.cell? ⟨gb196, 0, none⟩ = some (.int .i64 a1_0) := (blk_cell BK196.out 0).trans rfl
          have hcz42_1 : w22.cell? ⟨gb196, 1, none⟩ = some (.int .i64 a1_1) := (blk_cell BK196.out 1).trans rfl
          have hcz42_2 : w22.cell? ⟨gb196, 2, none⟩ = some (.int .i64 a1_2) := (blk_cell BK196.out 2).trans rfl
          have hcz42_3 : w22.cell? ⟨gb196, 3, none⟩ = some (.int .i64 a1_3) := (blk_cell BK196.out 3).trans rfl
          have hcz42_4 : w22.cell? ⟨gb196, 4, none⟩ = some (.string a1_4) := (blk_cell BK196.out 4).trans rfl
          have hfz42_0 := blk_frozen BK196.out 0
          have hfz42_1 := blk_frozen BK196.out 1
          have hfz42_2 := blk_frozen BK196.out 2
          have hfz42_3 := blk_frozen BK196.out 3
          have hfz42_4 := blk_frozen BK196.out 4
          go_wp2_with (first | ((with_reducible refine gate_callee (f := 14) rfl ?_); refine goesL_ (some 16) rfl rfl Try.func14 (by kernel_rfl) rfl #[.agg #[.int .i64 a1_0, .int .i64 a1_1, .int .i64 a1_2, .int .i64 a1_3, .string a1_4]] rfl (by (try simp only [List.map_toArray, List.map_cons, List.map_nil]); first | done | rfl | (simp only [List.length_drop, List.length_take]; rfl)) ?_; (with_reducible refine (ref13_May.calls k a1_0 a1_1 a1_2 a1_3 a1_4 true _ A23.out).mono ?_); rintro e w43 ⟨rfl, hb⟩; refine ⟨_, rfl, ?_⟩; have n0_ := Aside0.mk (Kd.R_below (by (with_reducible repeat (first | apply Kd.R_alloc | apply Kd.R_drewN | apply Kd.R_drew)); exact HO200.out) hb); have n1_ := Aside0.mk (blk_below (g := gb195) (o := .cells #[.int .i64 a0_0, .int .i64 a0_1, .string a0_2] 24 (0, 0)) (by (with_reducible repeat (first | refine blk_drewN ?_ _ | refine blk_drew ?_ | refine blk_alloc ?_ _)); exact BK195.out) hb); have n2_ := Aside0.mk (blk_below (g := gb196) (o := .cells #[.int .i64 a1_0, .int .i64 a1_1, .int .i64 a1_2, .int .i64 a1_3, .string a1_4] 26 (0, 0)) (by (with_reducible repeat (first | refine blk_drewN ?_ _ | refine blk_drew ?_ | refine blk_alloc ?_ _)); exact BK196.out) hb); have n3_ := Aside0.mk (blk_below (g := gb209) (o := .cells #[.int .i64 t201, .int .i64 t202, .int .i64 t203, .int .i64 t204, .string t205, .int .i64 t206, .int .i64 t207, .string t208] 30 (0, 0)) (by (with_reducible repeat (first | refine blk_drewN ?_ _ | refine blk_drew ?_ | refine blk_alloc ?_ _)); exact BK209.out) hb); have n4_ := Aside0.mk (below_step (by repeat (first | (with_reducible first | exact HB.out | apply below_alloc | apply pw_below_drewN | apply below_drew1 | refine below_set ?_ GE195.out | refine below_set ?_ GE196.out | refine below_set ?_ GE209.out) | exact HB.out)) hb); clear HO200; clear BK195; clear BK196; clear BK209; clear HB; have HO200 := n0_; have BK195 := n1_; have BK196 := n2_; have BK209 := n3_; have HB := n4_; clear n0_ n1_ n2_ n3_ n4_; (try clear hb); (try clear hb2); (try clear hk); (try clear hi); have hnb44 := NB195_209.out; have hnc44 := NB209_195.out; have hcz45_0 : w43.cell? ⟨gb195, 0, none⟩ = some (.int .i64 a0_0) := (blk_cell BK195.out 0).trans rfl; have hcz45_1 : w43.cell? ⟨gb195, 1, none⟩ = some (.int .i64 a0_1) := (blk_cell BK195.out 1).trans rfl; have hcz45_2 : w43.cell? ⟨gb195, 2, none⟩ = some (.string a0_2) := (blk_cell BK195.out 2).trans rfl; have hfz45_0 := blk_frozen BK195.out 0; have hfz45_1 := blk_frozen BK195.out 1; have hfz45_2 := blk_frozen BK195.out 2; have hcz46_0 : w43.cell? ⟨gb196, 0, none⟩ = some (.int .i64 a1_0) := (blk_cell BK196.out 0).trans rfl; have hcz46_1 : w43.cell? ⟨gb196, 1, none⟩ = some (.int .i64 a1_1) := (blk_cell BK196.out 1).trans rfl; have hcz46_2 : w43.cell? ⟨gb196, 2, none⟩ = some (.int .i64 a1_2) := (blk_cell BK196.out 2).trans rfl; have hcz46_3 : w43.cell? ⟨gb196, 3, none⟩ = some (.int .i64 a1_3) := (blk_cell BK196.out 3).trans rfl; have hcz46_4 : w43.cell? ⟨gb196, 4, none⟩ = some (.string a1_4) := (blk_cell BK196.out 4).trans rfl; have hfz46_0 := blk_frozen BK196.out 0; have hfz46_1 := blk_frozen BK196.out 1; have hfz46_2 := blk_frozen BK196.out 2; have hfz46_3 := blk_frozen BK196.out 3; have hfz46_4 := blk_frozen BK196.out 4))
          go_meet
          case rel => exact ⟨_, (false), (by first | rfl | (simp; done) | (simp [*]; done)), H', ⟨by first | omega | exact Nat.le_refl _⟩, ⟨by (with_reducible repeat (first | refine blk_drewN ?_ _ | refine blk_drew ?_ | refine blk_alloc ?_ _)); exact BK195.out⟩, ⟨by (with_reducible repeat (first | refine blk_drewN ?_ _ | refine blk_drew ?_ | refine blk_alloc ?_ _)); exact BK196.out⟩, ⟨by (with_reducible repeat (first | refine blk_drewN ?_ _ | refine blk_drew ?_ | refine blk_alloc ?_ _)); exact BK209.out⟩, ⟨by repeat (first | (with_reducible first | exact HB.out | apply below_alloc | apply pw_below_drewN | apply below_drew1 | refine below_set ?_ GE195.out | refine below_set ?_ GE196.out | refine below_set ?_ GE209.out) | exact HB.out)⟩⟩
    · replace c24 := Bool.eq_false_iff.mpr c24
      subst c24
      have H1 : (law14_ZoneOnes.j0 k t197 t210 true a1_0 a1_1 a1_2 a1_3 a1_4 t201 t202 t203 t204 t205 t206 t207 t208) = some r := by rw [if_neg (show ¬ (false = true) by decide)] at H; exact H
      clear H
      have H := H1
      clear H1
      have H' := Aside0.mk H
      clear H
      have hnb47 := NB196_195.out
      have hnc47 := NB195_196.out
      have hnb48 := NB196_209.out
      have hnc48 := NB209_196.out
      have hcz49_0 : w22.cell? ⟨gb196, 0, none⟩ = some (.int .i64 a1_0) := (blk_cell BK196.out 0).trans rfl
      have hcz49_1 : w22.cell? ⟨gb196, 1, none⟩ = some (.int .i64 a1_1) := (blk_cell BK196.out 1).trans rfl
      have hcz49_2 : w22.cell? ⟨gb196, 2, none⟩ = some (.int .i64 a1_2) := (blk_cell BK196.out 2).trans rfl
      have hcz49_3 : w22.cell? ⟨gb196, 3, none⟩ = some (.int .i64 a1_3) := (blk_cell BK196.out 3).trans rfl
      have hcz49_4 : w22.cell? ⟨gb196, 4, none⟩ = some (.string a1_4) := (blk_cell BK196.out 4).trans rfl
      have hfz49_0 := blk_frozen BK196.out 0
      have hfz49_1 := blk_frozen BK196.out 1
      have hfz49_2 := blk_frozen BK196.out 2
      have hfz49_3 := blk_frozen BK196.out 3
      have hfz49_4 := blk_frozen BK196.out 4
      go_wp2_with (first | ((with_reducible refine gate_callee (f := 14) rfl ?_); refine goesL_ (some 16) rfl rfl Try.func14 (by kernel_rfl) rfl #[.agg #[.int .i64 a1_0, .int .i64 a1_1, .int .i64 a1_2, .int .i64 a1_3, .string a1_4]] rfl (by (try simp only [List.map_toArray, List.map_cons, List.map_nil]); first | done | rfl | (simp only [List.length_drop, List.length_take]; rfl)) ?_; (with_reducible refine (ref13_May.calls k a1_0 a1_1 a1_2 a1_3 a1_4 false _ A23.out).mono ?_); rintro e w50 ⟨rfl, hb⟩; refine ⟨_, rfl, ?_⟩; have n0_ := Aside0.mk (Kd.R_below (by (with_reducible repeat (first | apply Kd.R_alloc | apply Kd.R_drewN | apply Kd.R_drew)); exact HO200.out) hb); have n1_ := Aside0.mk (blk_below (g := gb195) (o := .cells #[.int .i64 a0_0, .int .i64 a0_1, .string a0_2] 24 (0, 0)) (by (with_reducible repeat (first | refine blk_drewN ?_ _ | refine blk_drew ?_ | refine blk_alloc ?_ _)); exact BK195.out) hb); have n2_ := Aside0.mk (blk_below (g := gb196) (o := .cells #[.int .i64 a1_0, .int .i64 a1_1, .int .i64 a1_2, .int .i64 a1_3, .string a1_4] 26 (0, 0)) (by (with_reducible repeat (first | refine blk_drewN ?_ _ | refine blk_drew ?_ | refine blk_alloc ?_ _)); exact BK196.out) hb); have n3_ := Aside0.mk (blk_below (g := gb209) (o := .cells #[.int .i64 t201, .int .i64 t202, .int .i64 t203, .int .i64 t204, .string t205, .int .i64 t206, .int .i64 t207, .string t208] 30 (0, 0)) (by (with_reducible repeat (first | refine blk_drewN ?_ _ | refine blk_drew ?_ | refine blk_alloc ?_ _)); exact BK209.out) hb); have n4_ := Aside0.mk (below_step (by repeat (first | (with_reducible first | exact HB.out | apply below_alloc | apply pw_below_drewN | apply below_drew1 | refine below_set ?_ GE195.out | refine below_set ?_ GE196.out | refine below_set ?_ GE209.out) | exact HB.out)) hb); clear HO200; clear BK195; clear BK196; clear BK209; clear HB; have HO200 := n0_; have BK195 := n1_; have BK196 := n2_; have BK209 := n3_; have HB := n4_; clear n0_ n1_ n2_ n3_ n4_; (try clear hb); (try clear hb2); (try clear hk); (try clear hi)))
      go_meet
      case rel => exact ⟨_, (true), (by first | rfl | (simp; done) | (simp [*]; done)), H', ⟨by first | omega | exact Nat.le_refl _⟩, ⟨by (with_reducible repeat (first | refine blk_drewN ?_ _ | refine blk_drew ?_ | refine blk_alloc ?_ _)); exact BK195.out⟩, ⟨by (with_reducible repeat (first | refine blk_drewN ?_ _ | refine blk_drew ?_ | refine blk_alloc ?_ _)); exact BK196.out⟩, ⟨by (with_reducible repeat (first | refine blk_drewN ?_ _ | refine blk_drew ?_ | refine blk_alloc ?_ _)); exact BK209.out⟩, ⟨by repeat (first | (with_reducible first | exact HB.out | apply below_alloc | apply pw_below_drewN | apply below_drew1 | refine below_set ?_ GE195.out | refine below_set ?_ GE196.out | refine below_set ?_ GE209.out) | exact HB.out)⟩⟩
  case rest =>
    clear HC6
    try clear c1
    try clear c2
    try clear p2
    try clear c3
    try clear c4
    try clear c8
    try clear c10
    try clear c11
    try clear c14
    try clear c17
    try clear c18
    try clear c24
    try clear c25
    try clear c25b0
    try clear c25b1
    try clear c26
    try clear c27
    try clear c30
    try clear c32
    try clear c32b0
    try clear c33
    try clear c34
    try clear c37
    try clear c40
    try clear c41
    try clear c44
    try clear c47
    try clear c48
    try clear hcz11_0
    try clear hcz11_1
    try clear hcz11_2
    try clear hcz19_0
    try clear hcz19_1
    try clear hcz19_2
    try clear hcz19_3
    try clear hcz19_4
    try clear hcz19_5
    try clear hcz19_6
    try clear hcz19_7
    try clear hcz20_0
    try clear hcz20_1
    try clear hcz20_2
    try clear hcz20_3
    try clear hcz20_4
    try clear hcz21_0
    try clear hcz21_1
    try clear hcz21_2
    try clear hcz28_0
    try clear hcz28_1
    try clear hcz28_2
    try clear hcz28_3
    try clear hcz28_4
    try clear hcz31_0
    try clear hcz31_1
    try clear hcz31_2
    try clear hcz35_0
    try clear hcz35_1
    try clear hcz35_2
    try clear hcz35_3
    try clear hcz35_4
    try clear hcz38_0
    try clear hcz38_1
    try clear hcz38_2
    try clear hcz39_0
    try clear hcz39_1
    try clear hcz39_2
    try clear hcz39_3
    try clear hcz39_4
    try clear hcz42_0
    try clear hcz42_1
    try clear hcz42_2
    try clear hcz42_3
    try clear hcz42_4
    try clear hcz45_0
    try clear hcz45_1
    try clear hcz45_2
    try clear hcz46_0
    try clear hcz46_1
    try clear hcz46_2
    try clear hcz46_3
    try clear hcz46_4
    try clear hcz49_0
    try clear hcz49_1
    try clear hcz49_2
    try clear hcz49_3
    try clear hcz49_4
    try clear hfz11_0
    try clear hfz11_1
    try clear hfz11_2
    try clear hfz19_0
    try clear hfz19_1
    try clear hfz19_2
    try clear hfz19_3
    try clear hfz19_4
    try clear hfz19_5
    try clear hfz19_6
    try clear hfz19_7
    try clear hfz20_0
    try clear hfz20_1
    try clear hfz20_2
    try clear hfz20_3
    try clear hfz20_4
    try clear hfz21_0
    try clear hfz21_1
    try clear hfz21_2
    try clear hfz28_0
    try clear hfz28_1
    try clear hfz28_2
    try clear hfz28_3
    try clear hfz28_4
    try clear hfz31_0
    try clear hfz31_1
    try clear hfz31_2
    try clear hfz35_0
    try clear hfz35_1
    try clear hfz35_2
    try clear hfz35_3
    try clear hfz35_4
    try clear hfz38_0
    try clear hfz38_1
    try clear hfz38_2
    try clear hfz39_0
    try clear hfz39_1
    try clear hfz39_2
    try clear hfz39_3
    try clear hfz39_4
    try clear hfz42_0
    try clear hfz42_1
    try clear hfz42_2
    try clear hfz42_3
    try clear hfz42_4
    try clear hfz45_0
    try clear hfz45_1
    try clear hfz45_2
    try clear hfz46_0
    try clear hfz46_1
    try clear hfz46_2
    try clear hfz46_3
    try clear hfz46_4
    try clear hfz49_0
    try clear hfz49_1
    try clear hfz49_2
    try clear hfz49_3
    try clear hfz49_4
    obtain ⟨kq, x35_5, rfl, HA, HJ5, BK195, BK196, BK209, HB⟩ := hcut
    cases kq with
    | zero => exact absurd HA.out (by simp [law14_ZoneOnes.j0])
    | succ kj5 =>
      have H := HA.out
      clear HA
      simp only [law14_ZoneOnes.j0] at H
      by_cases c51 : x35_5 = true
      · subst c51
        have H1 : (some t197) = some r := by rw [if_pos rfl] at H; exact H
        clear H
        have H := H1
        clear H1
        obtain rfl := Option.some.inj H
        go_wp2
        go_ret
        exact ⟨by first | rfl | (simp [errW_none, errW_some] <;> rfl) | (simp [*, errW_none, errW_some] <;> rfl), by repeat (first | (with_reducible first | exact HB.out | apply below_alloc | apply pw_below_drewN | apply below_drew1 | refine below_set ?_ GE195.out | refine below_set ?_ GE196.out | refine below_set ?_ GE209.out) | exact HB.out)⟩
      · replace c51 := Bool.eq_false_iff.mpr c51
        subst c51
        have H1 : (if t197 = true then ((zone_None.f t201 t202 t203 t204 t205 t206 t207 t208 a1_0 a1_1 a1_2 a1_3 a1_4).bind fun t212 => (if (t212 == (!t210)) = true then ((zone_Every.f t201 t202 t203 t204 t205 t206 t207 t208 a1_0 a1_1 a1_2 a1_3 a1_4).bind fun t213 => (some (t213 == t210))) else (some false))) else (some false)) = some r := by rw [if_neg (show ¬ (false = true) by decide)] at H; exact H
        clear H
        have H := H1
        clear H1
        by_cases c52 : t197 = true
        · subst c52
          have H1 : ((zone_None.f t201 t202 t203 t204 t205 t206 t207 t208 a1_0 a1_1 a1_2 a1_3 a1_4).bind fun t212 => (if (t212 == (!t210)) = true then ((zone_Every.f t201 t202 t203 t204 t205 t206 t207 t208 a1_0 a1_1 a1_2 a1_3 a1_4).bind fun t213 => (some (t213 == t210))) else (some false))) = some r := by rw [if_pos rfl] at H; exact H
          clear H
          have H := H1
          clear H1
          replace H := Option.bind_eq_some_iff.mp H
          obtain ⟨t212, A530, H⟩ := H
          replace H : (if (t212 == (!t210)) = true then ((zone_Every.f t201 t202 t203 t204 t205 t206 t207 t208 a1_0 a1_1 a1_2 a1_3 a1_4).bind fun t213 => (some (t213 == t210))) else (some false)) = some r := H
          have A53 := Aside0.mk A530
          clear A530
          by_cases c54 : (t212 == (!t210)) = true
          · rw [if_pos c54] at H
            have c54b0 : (t212 == (!t210)) = true := c54
            (try (have c54b1 : decide (t212 = (!t210)) = true := by simpa using c54))
            (try (have c54b2 : (t212 == (!t210)) = true := by simpa using c54))
            clear c54
            replace H := Option.bind_eq_some_iff.mp H
            obtain ⟨t213, A550, H⟩ := H
            replace H : (some (t213 == t210)) = some r := H
            have A55 := Aside0.mk A550
            clear A550
            obtain rfl := Option.some.inj H
            have hnb56 := NB209_195.out
            have hnc56 := NB195_209.out
            have hnb57 := NB209_196.out
            have hnc57 := NB196_209.out
            have hcz58_0 : wc.cell? ⟨gb209, 0, none⟩ = some (.int .i64 t201) := (blk_cell BK209.out 0).trans rfl
            have hcz58_1 : wc.cell? ⟨gb209, 1, none⟩ = some (.int .i64 t202) := (blk_cell BK209.out 1).trans rfl
            have hcz58_2 : wc.cell? ⟨gb209, 2, none⟩ = some (.int .i64 t203) := (blk_cell BK209.out 2).trans rfl
            have hcz58_3 : wc.cell? ⟨gb209, 3, none⟩ = some (.int .i64 t204) := (blk_cell BK209.out 3).trans rfl
            have hcz58_4 : wc.cell? ⟨gb209, 4, none⟩ = some (.string t205) := (blk_cell BK209.out 4).trans rfl
            have hcz58_5 : wc.cell? ⟨gb209, 5, none⟩ = some (.int .i64 t206) := (blk_cell BK209.out 5).trans rfl
            have hcz58_6 : wc.cell? ⟨gb209, 6, none⟩ = some (.int .i64 t207) := (blk_cell BK209.out 6).trans rfl
            have hcz58_7 : wc.cell? ⟨gb209, 7, none⟩ = some (.string t208) := (blk_cell BK209.out 7).trans rfl
            have hfz58_0 := blk_frozen BK209.out 0
            have hfz58_1 := blk_frozen BK209.out 1
            have hfz58_2 := blk_frozen BK209.out 2
            have hfz58_3 := blk_frozen BK209.out 3
            have hfz58_4 := blk_frozen BK209.out 4
            have hfz58_5 := blk_frozen BK209.out 5
            have hfz58_6 := blk_frozen BK209.out 6
            have hfz58_7 := blk_frozen BK209.out 7
            have hnb59 := NB196_195.out
            have hnc59 := NB195_196.out
            have hcz60_0 : wc.cell? ⟨gb196, 0, none⟩ = some (.int .i64 a1_0) := (blk_cell BK196.out 0).trans rfl
            have hcz60_1 : wc.cell? ⟨gb196, 1, none⟩ = some (.int .i64 a1_1) := (blk_cell BK196.out 1).trans rfl
            have hcz60_2 : wc.cell? ⟨gb196, 2, none⟩ = some (.int .i64 a1_2) := (blk_cell BK196.out 2).trans rfl
            have hcz60_3 : wc.cell? ⟨gb196, 3, none⟩ = some (.int .i64 a1_3) := (blk_cell BK196.out 3).trans rfl
            have hcz60_4 : wc.cell? ⟨gb196, 4, none⟩ = some (.string a1_4) := (blk_cell BK196.out 4).trans rfl
            have hfz60_0 := blk_frozen BK196.out 0
            have hfz60_1 := blk_frozen BK196.out 1
            have hfz60_2 := blk_frozen BK196.out 2
            have hfz60_3 := blk_frozen BK196.out 3
            have hfz60_4 := blk_frozen BK196.out 4
            go_wp2_with (first | (go_at_call 12; (with_reducible refine (zone_None.calls t201 t202 t203 t204 t205 t206 t207 t208 a1_0 a1_1 a1_2 a1_3 a1_4 t212 _ A53.out).mono ?_); rintro e w61 ⟨rfl, hb⟩; have n0_ := Aside0.mk (blk_below (g := gb195) (o := .cells #[.int .i64 a0_0, .int .i64 a0_1, .string a0_2] 24 (0, 0)) (by (with_reducible repeat (first | refine blk_drewN ?_ _ | refine blk_drew ?_ | refine blk_alloc ?_ _)); exact BK195.out) hb); have n1_ := Aside0.mk (blk_below (g := gb196) (o := .cells #[.int .i64 a1_0, .int .i64 a1_1, .int .i64 a1_2, .int .i64 a1_3, .string a1_4] 26 (0, 0)) (by (with_reducible repeat (first | refine blk_drewN ?_ _ | refine blk_drew ?_ | refine blk_alloc ?_ _)); exact BK196.out) hb); have n2_ := Aside0.mk (blk_below (g := gb209) (o := .cells #[.int .i64 t201, .int .i64 t202, .int .i64 t203, .int .i64 t204, .string t205, .int .i64 t206, .int .i64 t207, .string t208] 30 (0, 0)) (by (with_reducible repeat (first | refine blk_drewN ?_ _ | refine blk_drew ?_ | refine blk_alloc ?_ _)); exact BK209.out) hb); have n3_ := Aside0.mk (below_step (by repeat (first | (with_reducible first | exact HB.out | apply below_alloc | apply pw_below_drewN | apply below_drew1 | refine below_set ?_ GE195.out | refine below_set ?_ GE196.out | refine below_set ?_ GE209.out) | exact HB.out)) hb); clear BK195; clear BK196; clear BK209; clear HB; have BK195 := n0_; have BK196 := n1_; have BK209 := n2_; have HB := n3_; clear n0_ n1_ n2_ n3_; (try clear hb); (try clear hb2); (try clear hk); (try clear hi); have hcz62_0 : w61.cell? ⟨gb209, 0, none⟩ = some (.int .i64 t201) := (blk_cell BK209.out 0).trans rfl; have hcz62_1 : w61.cell? ⟨gb209, 1, none⟩ = some (.int .i64 t202) := (blk_cell BK209.out 1).trans rfl; have hcz62_2 : w61.cell? ⟨gb209, 2, none⟩ = some (.int .i64 t203) := (blk_cell BK209.out 2).trans rfl; have hcz62_3 : w61.cell? ⟨gb209, 3, none⟩ = some (.int .i64 t204) := (blk_cell BK209.out 3).trans rfl; have hcz62_4 : w61.cell? ⟨gb209, 4, none⟩ = some (.string t205) := (blk_cell BK209.out 4).trans rfl; have hcz62_5 : w61.cell? ⟨gb209, 5, none⟩ = some (.int .i64 t206) := (blk_cell BK209.out 5).trans rfl; have hcz62_6 : w61.cell? ⟨gb209, 6, none⟩ = some (.int .i64 t207) := (blk_cell BK209.out 6).trans rfl; have hcz62_7 : w61.cell? ⟨gb209, 7, none⟩ = some (.string t208) := (blk_cell BK209.out 7).trans rfl; have hfz62_0 := blk_frozen BK209.out 0; have hfz62_1 := blk_frozen BK209.out 1; have hfz62_2 := blk_frozen BK209.out 2; have hfz62_3 := blk_frozen BK209.out 3; have hfz62_4 := blk_frozen BK209.out 4; have hfz62_5 := blk_frozen BK209.out 5; have hfz62_6 := blk_frozen BK209.out 6; have hfz62_7 := blk_frozen BK209.out 7; have hcz63_0 : w61.cell? ⟨gb196, 0, none⟩ = some (.int .i64 a1_0) := (blk_cell BK196.out 0).trans rfl; have hcz63_1 : w61.cell? ⟨gb196, 1, none⟩ = some (.int .i64 a1_1) := (blk_cell BK196.out 1).trans rfl; have hcz63_2 : w61.cell? ⟨gb196, 2, none⟩ = some (.int .i64 a1_2) := (blk_cell BK196.out 2).trans rfl; have hcz63_3 : w61.cell? ⟨gb196, 3, none⟩ = some (.int .i64 a1_3) := (blk_cell BK196.out 3).trans rfl; have hcz63_4 : w61.cell? ⟨gb196, 4, none⟩ = some (.string a1_4) := (blk_cell BK196.out 4).trans rfl; have hfz63_0 := blk_frozen BK196.out 0; have hfz63_1 := blk_frozen BK196.out 1; have hfz63_2 := blk_frozen BK196.out 2; have hfz63_3 := blk_frozen BK196.out 3; have hfz63_4 := blk_frozen BK196.out 4) | (go_at_call 13; (with_reducible refine (zone_Every.calls t201 t202 t203 t204 t205 t206 t207 t208 a1_0 a1_1 a1_2 a1_3 a1_4 t213 _ A55.out).mono ?_); rintro e w64 ⟨rfl, hb⟩; have n0_ := Aside0.mk (blk_below (g := gb195) (o := .cells #[.int .i64 a0_0, .int .i64 a0_1, .string a0_2] 24 (0, 0)) (by (with_reducible repeat (first | refine blk_drewN ?_ _ | refine blk_drew ?_ | refine blk_alloc ?_ _)); exact BK195.out) hb); have n1_ := Aside0.mk (blk_below (g := gb196) (o := .cells #[.int .i64 a1_0, .int .i64 a1_1, .int .i64 a1_2, .int .i64 a1_3, .string a1_4] 26 (0, 0)) (by (with_reducible repeat (first | refine blk_drewN ?_ _ | refine blk_drew ?_ | refine blk_alloc ?_ _)); exact BK196.out) hb); have n2_ := Aside0.mk (blk_below (g := gb209) (o := .cells #[.int .i64 t201, .int .i64 t202, .int .i64 t203, .int .i64 t204, .string t205, .int .i64 t206, .int .i64 t207, .string t208] 30 (0, 0)) (by (with_reducible repeat (first | refine blk_drewN ?_ _ | refine blk_drew ?_ | refine blk_alloc ?_ _)); exact BK209.out) hb); have n3_ := Aside0.mk (below_step (by repeat (first | (with_reducible first | exact HB.out | apply below_alloc | apply pw_below_drewN | apply below_drew1 | refine below_set ?_ GE195.out | refine below_set ?_ GE196.out | refine below_set ?_ GE209.out) | exact HB.out)) hb); clear BK195; clear BK196; clear BK209; clear HB; have BK195 := n0_; have BK196 := n1_; have BK209 := n2_; have HB := n3_; clear n0_ n1_ n2_ n3_; (try clear hb); (try clear hb2); (try clear hk); (try clear hi)))
            go_ret
            exact ⟨by first | rfl | (simp [errW_none, errW_some] <;> rfl) | (simp [*, errW_none, errW_some] <;> rfl), by repeat (first | (with_reducible first | exact HB.out | apply below_alloc | apply pw_below_drewN | apply below_drew1 | refine below_set ?_ GE195.out | refine below_set ?_ GE196.out | refine below_set ?_ GE209.out) | exact HB.out)⟩
          · rw [if_neg c54] at H
            have c54b0 : (t212 == (!t210)) = false := by simpa using c54
            (try (have c54b1 : decide (t212 = (!t210)) = false := by simpa using c54))
            (try (have c54b2 : (t212 == (!t210)) = false := by simpa using c54))
            (try (have c54b3 : ¬ (t212 = (!t210)) := by simpa using c54))
            clear c54
            exact absurd ((Option.some.inj H).trans hr_.out) (by decide)
        · replace c52 := Bool.eq_false_iff.mpr c52
          subst c52
          have H1 : (some false) = some r := by rw [if_neg (show ¬ (false = true) by decide)] at H; exact H
          clear H
          have H := H1
          clear H1
          exact absurd ((Option.some.inj H).trans hr_.out) (by decide)

/-- THE ONE PURE STATEMENT of law14_ZoneOnes: yours. -/
def law14_ZoneOnes.Pure : Prop := ∀ (a0_0 : Int) (a0_1 : Int) (a0_2 : ByteArray) (a1_0 : Int) (a1_1 : Int) (a1_2 : Int) (a1_3 : Int) (a1_4 : ByteArray), (Lit.int .i64 a0_0).wf = true → (Lit.int .i64 a0_1).wf = true → a0_2.size ≤ 140737488351232 → (Lit.int .i64 a1_0).wf = true → (Lit.int .i64 a1_1).wf = true → (Lit.int .i64 a1_2).wf = true → (Lit.int .i64 a1_3).wf = true → a1_4.size ≤ 140737488351232 → ∃ k, law14_ZoneOnes.f k a0_0 a0_1 a0_2 a1_0 a1_1 a1_2 a1_3 a1_4 = some true
theorem law14_ZoneOnes.walk (P : law14_ZoneOnes.Pure) (a0_0 : Int) (a0_1 : Int) (a0_2 : ByteArray) (a1_0 : Int) (a1_1 : Int) (a1_2 : Int) (a1_3 : Int) (a1_4 : ByteArray) (w : World) (w0_0 : (Lit.int .i64 a0_0).wf = true) (w0_1 : (Lit.int .i64 a0_1).wf = true) (w0_2 : a0_2.size ≤ 140737488351232) (w1_0 : (Lit.int .i64 a1_0).wf = true) (w1_1 : (Lit.int .i64 a1_1).wf = true) (w1_2 : (Lit.int .i64 a1_2).wf = true) (w1_3 : (Lit.int .i64 a1_3).wf = true) (w1_4 : a1_4.size ≤ 140737488351232) :
    Calls Try.prog 4 #[.agg #[.int .i64 a0_0, .int .i64 a0_1, .string a0_2], .agg #[.int .i64 a1_0, .int .i64 a1_1, .int .i64 a1_2, .int .i64 a1_3, .string a1_4]] w fun e w' => e = .returned (.bool true) ∧ Below w.heap.size w w' := by
  obtain ⟨k, h⟩ := P a0_0 a0_1 a0_2 a1_0 a1_1 a1_2 a1_3 a1_4 w0_0 w0_1 w0_2 w1_0 w1_1 w1_2 w1_3 w1_4
  refine (law14_ZoneOnes.calls k a0_0 a0_1 a0_2 a1_0 a1_1 a1_2 a1_3 a1_4 true w ⟨rfl⟩ h).mono ?_
  rintro e w' ⟨rfl, hd⟩
  exact ⟨rfl, hd⟩

end Go.Proofs.Ytnpfanmkjhpmlaa.PZon
