-- Written by this session's program wip/gprint/gprint.py, over the kit's print, with given functions; no text of print.sh's.
import Derived.Test.YtedgfhijkkedaaaPAggx0
import Derived.Test.YtedgfhijkkedaaaPAggx1
import Derived.Test.YtedgfhijkkedaaaPAggx3
import Derived.Test.YtedgfhijkkedaaaPAggx8
import Derived.Test.YtedgfhijkkedaaaPAggx10
import Derived.Test.YtedgfhijkkedaaaPAggx12
namespace Go.Proofs.Ytedgfhijkkedaaa.PAgg
open Go.RowKit Go.Proofs.YtedgfhijkkedaaaW.PrintWords Go.Proofs.YtedgfhijkkedaaaW.PrintLast Go.Proofs.YtedgfhijkkedaaaW.PrintMore
attribute [local go_sem] max2_int min2_int max_two min_two max_three min_three max_four min_four   -- for this text's walks alone
set_option linter.unusedVariables false
set_option linter.unusedSimpArgs false

attribute [local go_sem high] eqA39
/-! ### law20_AggEnds: function 7 -/
mutual
def law20_AggEnds.j0 : Nat → Int → Bool → List (List (S39)) → List (List (S39)) → Bool → Option (Bool)
  | 0, _, _, _, _, _ => none
  | k + 1, x1, x5, x6, x7, x40 => if x40 = true then (some false) else (law20_AggEnds.l0 k x1 x5 x6 x7 false false false 0)
def law20_AggEnds.l0 : Nat → Int → Bool → List (List (S39)) → List (List (S39)) → Bool → Bool → Bool → Int → Option (Bool)
  | 0, _, _, _, _, _, _, _, _ => none
  | k + 1, x1, x5, x6, x7, x9, x10, x11, x12 => if x12 < (x6.length : Int) then (if 0 ≤ x12 then ((ref16_At.f (rd_L3 x6 x12) x1).bind fun bt261 => (if bt261.1 = 0 then (law20_AggEnds.l0 k x1 x5 x6 x7 x9 x10 x11 (wrap64 (x12 + 1))) else (if x9 = true then (law20_AggEnds.j2 k x1 x5 x6 x7 true x10 true x12 bt261.1 bt261.2.1 bt261.2.2) else (if 0 < (x7.length : Int) then (if 0 < ((rd_L3 x7 0).length : Int) then (law20_AggEnds.j2 k x1 x5 x6 x7 (bt261.1 == ((rd_T39 (rd_L3 x7 0) 0).f0) && (bt261.2.1 == ((rd_T39 (rd_L3 x7 0) 0).f1) && (bt261.2.2.toList == (((rd_T39 (rd_L3 x7 0) 0).f2).toList)))) x10 true x12 bt261.1 bt261.2.1 bt261.2.2) else (none)) else (none))))) else (none)) else (if x11 = true then (if x5 = true then (if x9 = true then (some x10) else (some false)) else (some false)) else (if x5 = true then (if 0 < (x7.length : Int) then (if 0 < ((rd_L3 x7 0).length : Int) then (if (((rd_T39 (rd_L3 x7 0) 0).f0) == 0 && (((rd_T39 (rd_L3 x7 0) 0).f1) == 0 && ((((rd_T39 (rd_L3 x7 0) 0).f2).toList) == ([] : List UInt8)))) = true then (if 1 < ((rd_L3 x7 0).length : Int) then (some (((rd_T39 (rd_L3 x7 0) 1).f0) == 0 && (((rd_T39 (rd_L3 x7 0) 1).f1) == 0 && ((((rd_T39 (rd_L3 x7 0) 1).f2).toList) == ([] : List UInt8))))) else (none)) else (some false)) else (none)) else (none)) else (some false)))
def law20_AggEnds.j2 : Nat → Int → Bool → List (List (S39)) → List (List (S39)) → Bool → Bool → Bool → Int → Int → Int → ByteArray → Option (Bool)
  | 0, _, _, _, _, _, _, _, _, _, _, _ => none
  | k + 1, x1, x5, x6, x7, x9, x10, x11, x12, x265000, x265001, x265002 => if x10 = true then (law20_AggEnds.j3 k x1 x5 x6 x7 x9 true x11 x12 x265000 x265001 x265002) else (if 0 < (x7.length : Int) then (if 1 < ((rd_L3 x7 0).length : Int) then (law20_AggEnds.j3 k x1 x5 x6 x7 x9 (x265000 == ((rd_T39 (rd_L3 x7 0) 1).f0) && (x265001 == ((rd_T39 (rd_L3 x7 0) 1).f1) && (x265002.toList == (((rd_T39 (rd_L3 x7 0) 1).f2).toList)))) x11 x12 x265000 x265001 x265002) else (none)) else (none))
def law20_AggEnds.j3 : Nat → Int → Bool → List (List (S39)) → List (List (S39)) → Bool → Bool → Bool → Int → Int → Int → ByteArray → Option (Bool)
  | 0, _, _, _, _, _, _, _, _, _, _, _ => none
  | k + 1, x1, x5, x6, x7, x9, x10, x11, x12, x265000, x265001, x265002 => if 0 < (x7.length : Int) then (if 0 < ((rd_L3 x7 0).length : Int) then ((ref05_Compare.f k x265000 x265001 x265002 ((rd_T39 (rd_L3 x7 0) 0).f0) ((rd_T39 (rd_L3 x7 0) 0).f1) ((rd_T39 (rd_L3 x7 0) 0).f2)).bind fun t271 => (if t271 < 0 then (some false) else (if 1 < ((rd_L3 x7 0).length : Int) then ((ref05_Compare.f k x265000 x265001 x265002 ((rd_T39 (rd_L3 x7 0) 1).f0) ((rd_T39 (rd_L3 x7 0) 1).f1) ((rd_T39 (rd_L3 x7 0) 1).f2)).bind fun t274 => (if t274 > 0 then (some false) else (law20_AggEnds.l0 k x1 x5 x6 x7 x9 x10 x11 (wrap64 (x12 + 1))))) else (none)))) else (none)) else (none)
end
def law20_AggEnds.f (k : Nat) (l0 : List (List (S39))) (a1 : Int) : Option (Bool) := (law20_shown.f).bind fun t244 => ((law20_few.f k l0).bind fun t245 => ((agg_Group.f k t245 0 (([(⟨3, a1⟩ : S36), (⟨4, a1⟩ : S36)] : List (S36)))).bind fun bt251 => (if bt251.2 = 0 then (if (bt251.1.length : Int) = 1 then (if 0 < (bt251.1.length : Int) then (law20_AggEnds.j0 k a1 t244 t245 bt251.1 (((rd_L3 bt251.1 0).length : Int) != 2)) else (none)) else (law20_AggEnds.j0 k a1 t244 t245 bt251.1 true)) else (law20_AggEnds.j0 k a1 t244 t245 bt251.1 true))))
theorem law20_AggEnds.mono_l : ∀ k, (∀ y0 y1 y2 y3 y4, LeO (law20_AggEnds.j0 k y0 y1 y2 y3 y4) (law20_AggEnds.j0 (k + 1) y0 y1 y2 y3 y4)) ∧ (∀ y0 y1 y2 y3 y4 y5 y6 y7, LeO (law20_AggEnds.l0 k y0 y1 y2 y3 y4 y5 y6 y7) (law20_AggEnds.l0 (k + 1) y0 y1 y2 y3 y4 y5 y6 y7)) ∧ (∀ y0 y1 y2 y3 y4 y5 y6 y7 y8 y9 y10, LeO (law20_AggEnds.j2 k y0 y1 y2 y3 y4 y5 y6 y7 y8 y9 y10) (law20_AggEnds.j2 (k + 1) y0 y1 y2 y3 y4 y5 y6 y7 y8 y9 y10)) ∧ (∀ y0 y1 y2 y3 y4 y5 y6 y7 y8 y9 y10, LeO (law20_AggEnds.j3 k y0 y1 y2 y3 y4 y5 y6 y7 y8 y9 y10) (law20_AggEnds.j3 (k + 1) y0 y1 y2 y3 y4 y5 y6 y7 y8 y9 y10))
  | 0 => ⟨fun _ _ _ _ _ r h => by simp [law20_AggEnds.j0] at h, fun _ _ _ _ _ _ _ _ r h => by simp [law20_AggEnds.l0] at h, fun _ _ _ _ _ _ _ _ _ _ _ r h => by simp [law20_AggEnds.j2] at h, fun _ _ _ _ _ _ _ _ _ _ _ r h => by simp [law20_AggEnds.j3] at h⟩
  | k + 1 => by
    obtain ⟨ih0, ih1, ih2, ih3⟩ := law20_AggEnds.mono_l k
    refine ⟨?_, ?_, ?_, ?_⟩
    · intro y0 y1 y2 y3 y4
      unfold law20_AggEnds.j0
      repeat' first
      | (with_reducible exact ih0 _ _ _ _ _)
      | (with_reducible exact ih1 _ _ _ _ _ _ _ _)
      | (with_reducible exact ih2 _ _ _ _ _ _ _ _ _ _ _)
      | (with_reducible exact ih3 _ _ _ _ _ _ _ _ _ _ _)
      | (with_reducible exact agg_Group.mono _ _ _ _)
      | (with_reducible exact law20_few.mono _ _)
      | (with_reducible exact ref05_Compare.mono _ _ _ _ _ _ _)
      | (with_reducible exact LeO.refl _)
      | (with_reducible exact LeO.none _)
      | (with_reducible refine LeO.ite ?_ ?_)
      | (with_reducible refine LeO.bind ?_ (fun _ => ?_))
      | exact ih0 _ _ _ _ _
      | exact ih1 _ _ _ _ _ _ _ _
      | exact ih2 _ _ _ _ _ _ _ _ _ _ _
      | exact ih3 _ _ _ _ _ _ _ _ _ _ _
      | exact agg_Group.mono _ _ _ _
      | exact law20_few.mono _ _
      | exact ref05_Compare.mono _ _ _ _ _ _ _
      | exact LeO.none _
      | refine LeO.ite ?_ ?_
      | refine LeO.bind ?_ (fun _ => ?_)
    · intro y0 y1 y2 y3 y4 y5 y6 y7
      unfold law20_AggEnds.l0
      repeat' first
      | (with_reducible exact ih0 _ _ _ _ _)
      | (with_reducible exact ih1 _ _ _ _ _ _ _ _)
      | (with_reducible exact ih2 _ _ _ _ _ _ _ _ _ _ _)
      | (with_reducible exact ih3 _ _ _ _ _ _ _ _ _ _ _)
      | (with_reducible exact agg_Group.mono _ _ _ _)
      | (with_reducible exact law20_few.mono _ _)
      | (with_reducible exact ref05_Compare.mono _ _ _ _ _ _ _)
      | (with_reducible exact LeO.refl _)
      | (with_reducible exact LeO.none _)
      | (with_reducible refine LeO.ite ?_ ?_)
      | (with_reducible refine LeO.bind ?_ (fun _ => ?_))
      | exact ih0 _ _ _ _ _
      | exact ih1 _ _ _ _ _ _ _ _
      | exact ih2 _ _ _ _ _ _ _ _ _ _ _
      | exact ih3 _ _ _ _ _ _ _ _ _ _ _
      | exact agg_Group.mono _ _ _ _
      | exact law20_few.mono _ _
      | exact ref05_Compare.mono _ _ _ _ _ _ _
      | exact LeO.none _
      | refine LeO.ite ?_ ?_
      | refine LeO.bind ?_ (fun _ => ?_)
    · intro y0 y1 y2 y3 y4 y5 y6 y7 y8 y9 y10
      unfold law20_AggEnds.j2
      repeat' first
      | (with_reducible exact ih0 _ _ _ _ _)
      | (with_reducible exact ih1 _ _ _ _ _ _ _ _)
      | (with_reducible exact ih2 _ _ _ _ _ _ _ _ _ _ _)
      | (with_reducible exact ih3 _ _ _ _ _ _ _ _ _ _ _)
      | (with_reducible exact agg_Group.mono _ _ _ _)
      | (with_reducible exact law20_few.mono _ _)
      | (with_reducible exact ref05_Compare.mono _ _ _ _ _ _ _)
      | (with_reducible exact LeO.refl _)
      | (with_reducible exact LeO.none _)
      | (with_reducible refine LeO.ite ?_ ?_)
      | (with_reducible refine LeO.bind ?_ (fun _ => ?_))
      | exact ih0 _ _ _ _ _
      | exact ih1 _ _ _ _ _ _ _ _
      | exact ih2 _ _ _ _ _ _ _ _ _ _ _
      | exact ih3 _ _ _ _ _ _ _ _ _ _ _
      | exact agg_Group.mono _ _ _ _
      | exact law20_few.mono _ _
      | exact ref05_Compare.mono _ _ _ _ _ _ _
      | exact LeO.none _
      | refine LeO.ite ?_ ?_
      | refine LeO.bind ?_ (fun _ => ?_)
    · intro y0 y1 y2 y3 y4 y5 y6 y7 y8 y9 y10
      unfold law20_AggEnds.j3
      repeat' first
      | (with_reducible exact ih0 _ _ _ _ _)
      | (with_reducible exact ih1 _ _ _ _ _ _ _ _)
      | (with_reducible exact ih2 _ _ _ _ _ _ _ _ _ _ _)
      | (with_reducible exact ih3 _ _ _ _ _ _ _ _ _ _ _)
      | (with_reducible exact agg_Group.mono _ _ _ _)
      | (with_reducible exact law20_few.mono _ _)
      | (with_reducible exact ref05_Compare.mono _ _ _ _ _ _ _)
      | (with_reducible exact LeO.refl _)
      | (with_reducible exact LeO.none _)
      | (with_reducible refine LeO.ite ?_ ?_)
      | (with_reducible refine LeO.bind ?_ (fun _ => ?_))
      | exact ih0 _ _ _ _ _
      | exact ih1 _ _ _ _ _ _ _ _
      | exact ih2 _ _ _ _ _ _ _ _ _ _ _
      | exact ih3 _ _ _ _ _ _ _ _ _ _ _
      | exact agg_Group.mono _ _ _ _
      | exact law20_few.mono _ _
      | exact ref05_Compare.mono _ _ _ _ _ _ _
      | exact LeO.none _
      | refine LeO.ite ?_ ?_
      | refine LeO.bind ?_ (fun _ => ?_)
theorem law20_AggEnds.mono : ∀ a0 a1 k, LeO (law20_AggEnds.f k a0 a1) (law20_AggEnds.f (k + 1) a0 a1) := by
  intro a0 a1 k
  obtain ⟨ih0, ih1, ih2, ih3⟩ := law20_AggEnds.mono_l k
  unfold law20_AggEnds.f
  repeat' first
      | (with_reducible exact ih0 _ _ _ _ _)
      | (with_reducible exact ih1 _ _ _ _ _ _ _ _)
      | (with_reducible exact ih2 _ _ _ _ _ _ _ _ _ _ _)
      | (with_reducible exact ih3 _ _ _ _ _ _ _ _ _ _ _)
      | (with_reducible exact agg_Group.mono _ _ _ _)
      | (with_reducible exact law20_few.mono _ _)
      | (with_reducible exact ref05_Compare.mono _ _ _ _ _ _ _)
      | (with_reducible exact LeO.refl _)
      | (with_reducible exact LeO.none _)
      | (with_reducible refine LeO.ite ?_ ?_)
      | (with_reducible refine LeO.bind ?_ (fun _ => ?_))
      | exact ih0 _ _ _ _ _
      | exact ih1 _ _ _ _ _ _ _ _
      | exact ih2 _ _ _ _ _ _ _ _ _ _ _
      | exact ih3 _ _ _ _ _ _ _ _ _ _ _
      | exact agg_Group.mono _ _ _ _
      | exact law20_few.mono _ _
      | exact ref05_Compare.mono _ _ _ _ _ _ _
      | exact LeO.none _
      | refine LeO.ite ?_ ?_
      | refine LeO.bind ?_ (fun _ => ?_)
def law20_AggEnds.T15 : Bool × List (List Nat × List Nat) := (true, [([], []), ([0], [0]), ([1], [1]), ([1], [1]), ([3, 1], [1, 3]), ([4, 1], [1, 4]), ([5, 1], [1, 5]), ([6, 1], [1, 6]), ([2, 7, 1], [1, 2, 7]), ([1, 8], [1, 8]), ([9, 1, 0, 1, 2, 3, 4, 5, 6, 7, 8, 9], [0, 9])])
def law20_AggEnds.B15 : List Nat := [0, 1, 3, 3, 11, 27, 59, 123, 255, 511, 1023]
theorem law20_AggEnds.tab15 : rtab .any (opsOf Try.f7 15) = law20_AggEnds.T15 := by kernel_rfl
theorem law20_AggEnds.bits15 : waitsOk law20_AggEnds.T15.2 law20_AggEnds.B15 = true := by kernel_rfl
def law20_AggEnds.T16 : Bool × List (List Nat × List Nat) := (true, [([], []), ([0], [0]), ([1], [1]), ([1], [1]), ([3, 1], [1, 3]), ([4, 1], [1, 4]), ([5, 1], [1, 5]), ([6, 1], [1, 6]), ([2, 7, 1], [1, 2, 7]), ([1, 8], [1, 8]), ([9, 1, 0, 1, 2, 3, 4, 5, 6, 7, 8, 9], [0, 9])])
def law20_AggEnds.B16 : List Nat := [0, 1, 3, 3, 11, 27, 59, 123, 255, 511, 1023]
theorem law20_AggEnds.tab16 : rtab .any (opsOf Try.f7 16) = law20_AggEnds.T16 := by kernel_rfl
theorem law20_AggEnds.bits16 : waitsOk law20_AggEnds.T16.2 law20_AggEnds.B16 = true := by kernel_rfl
def law20_AggEnds.T17 : Bool × List (List Nat × List Nat) := (true, [([], []), ([], []), ([1], [1]), ([2], [2]), ([3], [3]), ([4], [4]), ([0, 5], [0, 5]), ([6], [6]), ([7, 6], [7]), ([8], [8]), ([8], [8]), ([10, 8], [8, 10]), ([11, 8], [8, 11]), ([12, 8], [8, 12]), ([13, 8], [8, 13]), ([9, 14, 8, 8], [8, 9, 14]), ([15, 8], [8, 15]), ([8, 16], [8, 16])])
def law20_AggEnds.B17 : List Nat := [0, 0, 2, 6, 14, 30, 63, 127, 255, 511, 511, 1535, 3583, 7679, 15871, 32767, 65535, 131071]
theorem law20_AggEnds.tab17 : rtab .any (opsOf Try.f7 17) = law20_AggEnds.T17 := by kernel_rfl
theorem law20_AggEnds.bits17 : waitsOk law20_AggEnds.T17.2 law20_AggEnds.B17 = true := by kernel_rfl
set_option maxHeartbeats 8000000 in
set_option maxRecDepth 100000 in
theorem law20_AggEnds.calls (k : Nat) (A0 : Option Addr) (c0 : Nat) (l0 : List (List (S39))) (a1 : Int) (r : Bool) (w : World) (hr0 : Kd.C (Kd.slice 39 k39) w A0 l0.length l0) (hc0 : l0.length ≤ c0) (hr_ : Aside0 (r = true)) (h : law20_AggEnds.f k l0 a1 = some r) :
    Calls Try.prog 7 #[.slice A0 l0.length c0, .int .i64 a1] w fun e w' => e = .returned (.bool r) ∧ Below w.heap.size w w' := by
  have hu36 := Try.underlying36
  have hu39 := Try.underlying39
  have HR0 := Aside0.mk hr0
  have HC0 := Aside0.mk hc0
  clear hr0 hc0
  have HB := Aside0.mk (Below.refl w.heap.size w)
  have H : ((law20_shown.f).bind fun t244 => ((law20_few.f k l0).bind fun t245 => ((agg_Group.f k t245 0 (([(⟨3, a1⟩ : S36), (⟨4, a1⟩ : S36)] : List (S36)))).bind fun bt251 => (if bt251.2 = 0 then (if (bt251.1.length : Int) = 1 then (if 0 < (bt251.1.length : Int) then (law20_AggEnds.j0 k a1 t244 t245 bt251.1 (((rd_L3 bt251.1 0).length : Int) != 2)) else (none)) else (law20_AggEnds.j0 k a1 t244 t245 bt251.1 true)) else (law20_AggEnds.j0 k a1 t244 t245 bt251.1 true))))) = some r := h
  clear h
  replace H := Option.bind_eq_some_iff.mp H
  obtain ⟨t244, A30, H⟩ := H
  replace H : ((law20_few.f k l0).bind fun t245 => ((agg_Group.f k t245 0 (([(⟨3, a1⟩ : S36), (⟨4, a1⟩ : S36)] : List (S36)))).bind fun bt251 => (if bt251.2 = 0 then (if (bt251.1.length : Int) = 1 then (if 0 < (bt251.1.length : Int) then (law20_AggEnds.j0 k a1 t244 t245 bt251.1 (((rd_L3 bt251.1 0).length : Int) != 2)) else (none)) else (law20_AggEnds.j0 k a1 t244 t245 bt251.1 true)) else (law20_AggEnds.j0 k a1 t244 t245 bt251.1 true)))) = some r := H
  have A3 := Aside0.mk A30
  clear A30
  replace H := Option.bind_eq_some_iff.mp H
  obtain ⟨t245, A40, H⟩ := H
  replace H : ((agg_Group.f k t245 0 (([(⟨3, a1⟩ : S36), (⟨4, a1⟩ : S36)] : List (S36)))).bind fun bt251 => (if bt251.2 = 0 then (if (bt251.1.length : Int) = 1 then (if 0 < (bt251.1.length : Int) then (law20_AggEnds.j0 k a1 t244 t245 bt251.1 (((rd_L3 bt251.1 0).length : Int) != 2)) else (none)) else (law20_AggEnds.j0 k a1 t244 t245 bt251.1 true)) else (law20_AggEnds.j0 k a1 t244 t245 bt251.1 true))) = some r := H
  have A4 := Aside0.mk A40
  clear A40
  obtain ⟨y248, hy248⟩ : ∃ y_ : List (S36), y_ = (([(⟨3, a1⟩ : S36), (⟨4, a1⟩ : S36)] : List (S36))) := ⟨_, rfl⟩
  replace H : ((agg_Group.f k t245 0 y248).bind fun bt251 => (if bt251.2 = 0 then (if (bt251.1.length : Int) = 1 then (if 0 < (bt251.1.length : Int) then (law20_AggEnds.j0 k a1 t244 t245 bt251.1 (((rd_L3 bt251.1 0).length : Int) != 2)) else (none)) else (law20_AggEnds.j0 k a1 t244 t245 bt251.1 true)) else (law20_AggEnds.j0 k a1 t244 t245 bt251.1 true))) = some r := by first | (rw [hy248]; with_reducible exact H) | (have H2_ := (Option.bind_some _ _).symm.trans H; rw [hy248]; with_reducible exact H2_) | (have H2_ := (Option.bind_some _ _).symm.trans H; with_reducible exact H2_) | with_reducible exact H | (rw [hy248]; exact H) | exact H
  have Ny248 := Aside0.mk hy248
  clear hy248
  replace H := Option.bind_eq_some_iff.mp H
  obtain ⟨⟨t251, t252⟩, A50, H⟩ := H
  replace H : (if t252 = 0 then (if (t251.length : Int) = 1 then (if 0 < (t251.length : Int) then (law20_AggEnds.j0 k a1 t244 t245 t251 (((rd_L3 t251 0).length : Int) != 2)) else (none)) else (law20_AggEnds.j0 k a1 t244 t245 t251 true)) else (law20_AggEnds.j0 k a1 t244 t245 t251 true)) = some r := H
  have A5 := Aside0.mk A50
  clear A50
  have HC6 := Aside0.mk H
  clear H
  go_enter Try.func7, Try.ntmps7
  go_upto_region 4 with (first | ((with_reducible refine gate_callee (f := 9) rfl ?_); refine goesL_ (some 14) rfl rfl Try.func9 (by kernel_rfl) rfl #[] rfl (by (try simp only [List.map_toArray, List.map_cons, List.map_nil]); first | done | rfl | (simp only [List.length_drop, List.length_take]; rfl)) ?_; (with_reducible refine (law20_shown.calls  t244 _ A3.out).mono ?_); rintro e w7 ⟨rfl, hb⟩; refine ⟨_, rfl, ?_⟩; have n0_ := Aside0.mk (below_step (by repeat (first | (with_reducible first | exact HB.out | apply below_alloc | apply pw_below_drewN | apply below_drew1) | exact HB.out)) hb); clear HB; have HB := n0_; clear n0_; (try clear hb); (try clear hb2); (try clear hk); (try clear hi)) | ((with_reducible refine gate_callee (f := 11) rfl ?_); refine goesL_ (some 16) rfl rfl Try.func11 (by kernel_rfl) rfl #[.slice A0 l0.length c0] rfl (by (try simp only [List.map_toArray, List.map_cons, List.map_nil]); first | done | rfl | (simp only [List.length_drop, List.length_take]; rfl)) ?_; (with_reducible refine (law20_few.calls k (fun k_ => k_ < w.heap.size) _ _ l0 t245 _ ?side1 A4.out).mono ?_); (case side1 => exact Kd.V_mk HC0.out (Kd.F_below (Kd.C_F (Kd.heap_slice 39 k39_heap) HR0.out) (by repeat (first | (with_reducible first | exact HB.out | apply below_alloc | apply pw_below_drewN | apply below_drew1) | exact HB.out)))); rintro e w8 ⟨v246, rfl, ho0, hb⟩; refine ⟨_, rfl, ?_⟩; have n0_ := Aside0.mk (Kd.N_lower (Kd.N_mono (ok' := fun k_ => True) ho0 (fun k_ hk_ => trivial)) (below_size (by repeat (first | (with_reducible first | exact HB.out | apply below_alloc | apply pw_below_drewN | apply below_drew1) | exact HB.out)))); have n1_ := Aside0.mk (below_step (by repeat (first | (with_reducible first | exact HB.out | apply below_alloc | apply pw_below_drewN | apply below_drew1) | exact HB.out)) hb); clear HB; have HO247 := n0_; have HB := n1_; clear n0_ n1_; (try clear hb); (try clear hb2); (try clear hk); (try clear hi); (try clear ho0)) | ((with_reducible refine gate_dst (N := 23) rfl ?_); (try (refine gate_guard (by rfl) ?_; dsimp only)); refine Kd.R_lit k36 _ 36 ?hg (N := 23) ?hd (xs := ([(⟨3, a1⟩ : S36), (⟨4, a1⟩ : S36)] : List (S36))) (inner := [.int .i64 3, .int .i64 a1, .int .i64 4, .int .i64 a1]) (ok := fun _ => True) (okp := fun _ => True) ?hr ?hp (fun _ hk => hk) trivial (Below.refl _ _) (Nat.le_refl _) (by simp) ?_; (case hd => rfl); (case hg => rfl); (case hr => first | (go_simp; done) | (go_simp; rfl)); (case hp => exact (Reps.c2 (show Kd.M k36 _ _ _ (⟨3, a1⟩ : S36) [.int .i64 3, .int .i64 a1] from (k36_mkM _ _ _ (⟨3, a1⟩ : S36) )) (Reps.c2 (show Kd.M k36 _ _ _ (⟨4, a1⟩ : S36) [.int .i64 4, .int .i64 a1] from (k36_mkM _ _ _ (⟨4, a1⟩ : S36) )) (Reps.none _ _)))); intro v249 w9 ho10 hb hg_ hnew_; clear hg_ hnew_; (first | rw [← Ny248.out] at ho10 | (simp only [Int.reduceToNat] at ho10; rw [← Ny248.out] at ho10)); have n0_ := Aside0.mk (Kd.N_elder' (by (with_reducible repeat (first | apply Kd.N_alloc | apply Kd.N_drewN | apply Kd.N_drew)); exact HO247.out) (Kd.R_base ho10) hb); have n1_ := Aside0.mk (Kd.R_lower ho10 (below_size (by repeat (first | (with_reducible first | exact HB.out | apply below_alloc | apply pw_below_drewN | apply below_drew1) | exact HB.out)))); have n2_ := Aside0.mk (below_step (by repeat (first | (with_reducible first | exact HB.out | apply below_alloc | apply pw_below_drewN | apply below_drew1) | exact HB.out)) hb); clear HO247; clear HB; have HO247 := n0_; have HO250 := n1_; have HB := n2_; clear n0_ n1_ n2_; clear hb ho10; obtain ⟨Ao11, co11, eo11⟩ := Kd.N_slice HO247.out; subst eo11; obtain ⟨Ao12, co12, eo12⟩ := Kd.R_slice HO250.out; subst eo12) | ((with_reducible refine gate_callee (f := 12) rfl ?_); refine goesL_ (some 24) rfl rfl Try.func12 (by kernel_rfl) rfl #[.slice Ao11 t245.length co11, .int .i64 0, .slice Ao12 y248.length co12] rfl (by (try simp only [List.map_toArray, List.map_cons, List.map_nil]); first | done | rfl | (simp only [List.length_drop, List.length_take]; rfl)) ?_; (with_reducible refine (agg_Group.calls k _ _ t245 0 _ _ y248 t251 t252 _ ?side1 ?side2 ?side3 ?side4 A5.out).mono ?_); (case side1 => repeat (first | exact (Kd.N_reads' HO247.out).2.2 | (with_reducible refine Kd.C_alloc ?_ _) | (with_reducible refine Kd.C_drewN ?_ _) | (with_reducible refine Kd.C_drew ?_))); (case side2 => exact (Kd.N_reads' HO247.out).2.1); (case side3 => repeat (first | exact (Kd.R_reads' HO250.out).2.2 | (with_reducible refine Kd.C_alloc ?_ _) | (with_reducible refine Kd.C_drewN ?_ _) | (with_reducible refine Kd.C_drew ?_))); (case side4 => exact (Kd.R_reads' HO250.out).2.1); rintro e w13 ⟨v253, rfl, ho0, hb⟩; refine ⟨_, rfl, ?_⟩; have n0_ := Aside0.mk (Kd.N_elder' (by (with_reducible repeat (first | apply Kd.N_alloc | apply Kd.N_drewN | apply Kd.N_drew)); exact HO247.out) (Kd.S_base ho0) hb); have n1_ := Aside0.mk (Kd.R_below (by (with_reducible repeat (first | apply Kd.R_alloc | apply Kd.R_drewN | apply Kd.R_drew)); exact HO250.out) hb); have n2_ := Aside0.mk (Kd.N_lower (Kd.N_mono (ok' := fun k_ => some k_ ≠ (.slice Ao11 t245.length co11 : Value).ownBlock ∧ some k_ ≠ (.slice Ao12 y248.length co12 : Value).ownBlock) (Kd.S_N (Kd.S_bound ho0)) (fun k_ hk_ => ⟨(Kd.fresh' (Kd.N_lt (by (with_reducible repeat (first | apply Kd.N_alloc | apply Kd.N_drewN | apply Kd.N_drew)); exact HO247.out)) k_ hk_.2.1), (Kd.fresh' (Kd.R_lt (by (with_reducible repeat (first | apply Kd.R_alloc | apply Kd.R_drewN | apply Kd.R_drew)); exact HO250.out)) k_ hk_.2.1)⟩)) (below_size (by repeat (first | (with_reducible first | exact HB.out | apply below_alloc | apply pw_below_drewN | apply below_drew1) | exact HB.out)))); have n3_ := Aside0.mk (below_step (by repeat (first | (with_reducible first | exact HB.out | apply below_alloc | apply pw_below_drewN | apply below_drew1) | exact HB.out)) hb); clear HO247; clear HO250; clear HB; have HO247 := n0_; have HO250 := n1_; have HO254 := n2_; have HB := n3_; clear n0_ n1_ n2_ n3_; (try clear hb); (try clear hb2); (try clear hk); (try clear hi); (try clear ho0)))
  (try simp only [Act.put, List.setIfInBounds_toArray, List.set_cons_zero, List.set_cons_succ])
  go_cut [40] (fun v40 wc => ∃ (kq : Nat) (x40_5 : Bool), v40 = .bool x40_5 ∧ Aside0 (law20_AggEnds.j0 kq a1 t244 t245 t251 x40_5 = some r) ∧ Aside0 (kq ≤ k) ∧ Aside0 (Kd.N (Kd.slice 39 k39) 32 wc w.heap.size (fun k_ => some k_ ≠ (v253 : Value).ownBlock) (.slice Ao11 t245.length co11) t245) ∧ Aside0 (Kd.N (Kd.slice 39 k39) 32 wc w.heap.size (fun k_ => some k_ ≠ ((.slice Ao11 t245.length co11) : Value).ownBlock) v253 t251) ∧ Aside0 (Below w.heap.size w wc))
  case first =>
    have H := HC6.out
    clear HC6
    by_cases c14 : t252 = 0
    · rw [if_pos c14] at H
      have c14b0 : (t252 == 0) = true := beq_iff_eq.mpr c14
      have c14b1 : (t252 != 0) = false := bne_eq_false_iff_eq.mpr c14
      clear c14
      (first | rw [c14b0] | (simp only [i64_w, i32_w]; rw [c14b0]) | skip)
      by_cases c15 : (t251.length : Int) = 1
      · rw [if_pos c15] at H
        have c15b0 : ((t251.length : Int) == 1) = true := beq_iff_eq.mpr c15
        have c15b1 : ((t251.length : Int) != 1) = false := bne_eq_false_iff_eq.mpr c15
        clear c15
        by_cases c16 : 0 < (t251.length : Int)
        · rw [if_pos c16] at H
          have c16b0 : decide (0 < (t251.length : Int)) = true := decide_eq_true c16
          have c16b1 : decide (0 < t251.length) = true := decide_eq_true (by omega)
          clear c16
          have H' := Aside0.mk H
          clear H
          obtain ⟨Ao17, co17, eo17⟩ := Kd.N_slice HO254.out
          subst eo17
          have p255 : 0 ≤ (0 : Int) := (by omega)
          have q255 : 0 < (t251.length : Int) := of_decide_eq_true (by first | (with_reducible assumption) | assumption)
          obtain ⟨ad255, A255_0, c255_0, e255, hx255_0, hl255_0, hi255_0⟩ := at_L3 (Kd.N_reads' HO254.out).2.2 0 p255 q255
          cases e255
          obtain ⟨ce255, hce255, hMe255, hcc255⟩ := Kd.N_get HO254.out [] 0 p255 (by first | exact q255 | exact of_decide_eq_true (by first | (with_reducible assumption) | assumption) | (have e_ := (Kd.N_reads' HO254.out).1; omega))
          obtain ⟨ua255_0, uc255_0, rfl, ul255_0, ge255_0⟩ := Kd.FK_slice_open hMe255
          have hv255_0 := hcc255 0 _ rfl
          rw [Nat.add_zero, show ((Kd.slice 39 k39)).sz = 1 from rfl, Nat.mul_one] at hv255_0
          replace hv255_0 := Option.some.inj (hv255_0.symm.trans hx255_0)
          injection hv255_0 with hva_ hvn_ hvc_
          rw [hva_] at ge255_0
          rw [hvc_] at ul255_0
          have HL255_0 := Aside0.mk (show Kd.V k39 39 _ w.heap.size _ _ (rd_L3 t251 0) from Kd.V_mk ul255_0 ge255_0)
          clear hva_ hvn_ hvc_ ge255_0 ul255_0
          clear hcc255 hce255
          have qi255 : (0 < t251.length) = True := eq_true (by omega)
          (try rw [show ((0 : Int)).toNat = 0 from rfl] at hx255_0)
          (try rw [Addr.add_zero'] at hx255_0)
          have HR255_0 := Aside0.mk hi255_0
          have HC255_0 := Aside0.mk hl255_0
          clear hi255_0 hl255_0
          replace p255 := eq_true p255
          replace q255 := eq_true q255
          go_wp2
          go_meet
          case rel => exact ⟨_, ((((rd_L3 t251 0).length : Int) != 2)), (by first | rfl | (simp; done) | (simp [*]; done)), H', ⟨by first | omega | exact Nat.le_refl _⟩, ⟨by (with_reducible repeat (first | apply Kd.N_alloc | apply Kd.N_drewN | apply Kd.N_drew)); exact Kd.N_mono HO247.out (fun _ hk => hk.2)⟩, ⟨by (with_reducible repeat (first | apply Kd.N_alloc | apply Kd.N_drewN | apply Kd.N_drew)); exact Kd.N_mono HO254.out (fun _ hk => hk.1)⟩, ⟨by repeat (first | (with_reducible first | exact HB.out | apply below_alloc | apply pw_below_drewN | apply below_drew1) | exact HB.out)⟩⟩
        · rw [if_neg c16] at H
          exact absurd H (by simp)
      · rw [if_neg c15] at H
        have c15b0 : ((t251.length : Int) == 1) = false := beq_eq_false_iff_ne.mpr c15
        (try (have c15b0q_hl255_0 := c15b0; rw [hl255_0] at c15b0q_hl255_0))
        have c15b1 : ((t251.length : Int) != 1) = true := bne_iff_ne.mpr c15
        (try (have c15b1q_hl255_0 := c15b1; rw [hl255_0] at c15b1q_hl255_0))
        have H' := Aside0.mk H
        clear H
        obtain ⟨Ao18, co18, eo18⟩ := Kd.N_slice HO254.out
        subst eo18
        go_wp2
        go_meet
        case rel => exact ⟨_, (true), (by first | rfl | (simp; done) | (simp [*]; done)), H', ⟨by first | omega | exact Nat.le_refl _⟩, ⟨by (with_reducible repeat (first | apply Kd.N_alloc | apply Kd.N_drewN | apply Kd.N_drew)); exact Kd.N_mono HO247.out (fun _ hk => hk.2)⟩, ⟨by (with_reducible repeat (first | apply Kd.N_alloc | apply Kd.N_drewN | apply Kd.N_drew)); exact Kd.N_mono HO254.out (fun _ hk => hk.1)⟩, ⟨by repeat (first | (with_reducible first | exact HB.out | apply below_alloc | apply pw_below_drewN | apply below_drew1) | exact HB.out)⟩⟩
    · rw [if_neg c14] at H
      have c14b0 : (t252 == 0) = false := beq_eq_false_iff_ne.mpr c14
      have c14b1 : (t252 != 0) = true := bne_iff_ne.mpr c14
      (first | rw [c14b0] | (simp only [i64_w, i32_w]; rw [c14b0]) | skip)
      have H' := Aside0.mk H
      clear H
      go_wp2
      go_meet
      case rel => exact ⟨_, (true), (by first | rfl | (simp; done) | (simp [*]; done)), H', ⟨by first | omega | exact Nat.le_refl _⟩, ⟨by (with_reducible repeat (first | apply Kd.N_alloc | apply Kd.N_drewN | apply Kd.N_drew)); exact Kd.N_mono HO247.out (fun _ hk => hk.2)⟩, ⟨by (with_reducible repeat (first | apply Kd.N_alloc | apply Kd.N_drewN | apply Kd.N_drew)); exact Kd.N_mono HO254.out (fun _ hk => hk.1)⟩, ⟨by repeat (first | (with_reducible first | exact HB.out | apply below_alloc | apply pw_below_drewN | apply below_drew1) | exact HB.out)⟩⟩
  case rest =>
    clear HC6
    try clear c1
    try clear c2
    try clear p2
    try clear q2
    try clear hx2
    try clear qi2
    try clear c7
    try clear c9
    try clear c11
    try clear c12
    try clear c14
    try clear c14b0
    try clear c14b1
    try clear c15
    try clear c15b0
    try clear c15b1
    try clear c16
    try clear c16b0
    try clear c16b1
    try clear hx255_0
    try clear p255
    try clear q255
    obtain ⟨kq, x40_5, rfl, HA, HJ5, HO_6, HO_7, HB⟩ := hcut
    cases kq with
    | zero => exact absurd HA.out (by simp [law20_AggEnds.j0])
    | succ kj5 =>
      have H := HA.out
      clear HA
      simp only [law20_AggEnds.j0] at H
      by_cases c19 : x40_5 = true
      · subst c19
        have H1 : (some false) = some r := by rw [if_pos rfl] at H; exact H
        clear H
        have H := H1
        clear H1
        exact absurd ((Option.some.inj H).trans hr_.out) (by decide)
      · replace c19 := Bool.eq_false_iff.mpr c19
        subst c19
        have H1 : (law20_AggEnds.l0 kj5 a1 t244 t245 t251 false false false 0) = some r := by rw [if_neg (show ¬ (false = true) by decide)] at H; exact H
        clear H
        have H := H1
        clear H1
        have H' := Aside0.mk H
        clear H
        go_wp2
        go_loopg [9, 10, 11, 12] kj5 (fun kq v9 v10 v11 v12 w' => ∃ (x9_2 : Bool) (x10_2 : Bool) (x11_2 : Bool) (x12_2 : Int), v9 = .bool x9_2 ∧ v10 = .bool x10_2 ∧ v11 = .bool x11_2 ∧ v12 = .int .i64 x12_2 ∧ Aside0 (law20_AggEnds.l0 kq a1 t244 t245 t251 x9_2 x10_2 x11_2 x12_2 = some r) ∧ Aside0 (kq ≤ kj5) ∧ Aside0 (Kd.N (Kd.slice 39 k39) 32 w' w.heap.size (fun k_ => some k_ ≠ (v253 : Value).ownBlock) (.slice Ao11 t245.length co11) t245) ∧ Aside0 (Kd.N (Kd.slice 39 k39) 32 w' w.heap.size (fun k_ => some k_ ≠ ((.slice Ao11 t245.length co11) : Value).ownBlock) v253 t251) ∧ Aside0 (Below w.heap.size w w'))
        case atStart => exact ⟨(false), (false), (false), (0), (by first | rfl | (simp; done) | (simp [*]; done)), (by first | rfl | (simp; done) | (simp [*]; done)), (by first | rfl | (simp; done) | (simp [*]; done)), (by first | rfl | (simp; done) | (simp [*]; done)), H', ⟨Nat.le_refl _⟩, ⟨by (with_reducible repeat (first | apply Kd.N_alloc | apply Kd.N_drewN | apply Kd.N_drew)); exact HO_6.out⟩, ⟨by (with_reducible repeat (first | apply Kd.N_alloc | apply Kd.N_drewN | apply Kd.N_drew)); exact HO_7.out⟩, ⟨by repeat (first | (with_reducible first | exact HB.out | apply below_alloc | apply pw_below_drewN | apply below_drew1) | exact HB.out)⟩⟩
        case round =>
          clear H'
          try clear c1
          try clear c2
          try clear p2
          try clear q2
          try clear hx2
          try clear qi2
          try clear c7
          try clear c9
          try clear c11
          try clear c12
          try clear c14
          try clear c14b0
          try clear c14b1
          try clear c15
          try clear c15b0
          try clear c15b1
          try clear c16
          try clear c16b0
          try clear c16b1
          try clear c19
          try clear hx255_0
          try clear p2
          try clear p255
          try clear q2
          try clear q255
          obtain ⟨x9_2, x10_2, x11_2, x12_2, rfl, rfl, rfl, rfl, HA, HK2, HO_6, HO_7, HB⟩ := hrel
          cases gk with
          | zero => exact absurd HA.out (by simp [law20_AggEnds.l0])
          | succ k2 =>
            have H := HA.out
            clear HA
            simp only [law20_AggEnds.l0] at H
            by_cases c20 : x12_2 < (t245.length : Int)
            · rw [if_pos c20] at H
              have c20b0 : decide (x12_2 < (t245.length : Int)) = true := decide_eq_true c20
              (try (have c20b0q_hl255_0 := c20b0; rw [hl255_0] at c20b0q_hl255_0))
              clear c20
              by_cases c21 : 0 ≤ x12_2
              · rw [if_pos c21] at H
                have c21b0 : decide (0 ≤ x12_2) = true := decide_eq_true c21
                clear c21
                replace H := Option.bind_eq_some_iff.mp H
                obtain ⟨⟨t261, t262, t263⟩, A220, H⟩ := H
                replace H : (if t261 = 0 then (law20_AggEnds.l0 k2 a1 t244 t245 t251 x9_2 x10_2 x11_2 (wrap64 (x12_2 + 1))) else (if x9_2 = true then (law20_AggEnds.j2 k2 a1 t244 t245 t251 true x10_2 true x12_2 t261 t262 t263) else (if 0 < (t251.length : Int) then (if 0 < ((rd_L3 t251 0).length : Int) then (law20_AggEnds.j2 k2 a1 t244 t245 t251 (t261 == ((rd_T39 (rd_L3 t251 0) 0).f0) && (t262 == ((rd_T39 (rd_L3 t251 0) 0).f1) && (t263.toList == (((rd_T39 (rd_L3 t251 0) 0).f2).toList)))) x10_2 true x12_2 t261 t262 t263) else (none)) else (none)))) = some r := H
                have A22 := Aside0.mk A220
                clear A220
                by_cases c23 : t261 = 0
                · rw [if_pos c23] at H
                  have c23b0 : (t261 == 0) = true := beq_iff_eq.mpr c23
                  have c23b1 : (t261 != 0) = false := bne_eq_false_iff_eq.mpr c23
                  clear c23
                  have H' := Aside0.mk H
                  clear H
                  have p260 : 0 ≤ (x12_2 : Int) := of_decide_eq_true (by first | (with_reducible assumption) | assumption)
                  have q260 : x12_2 < (t245.length : Int) := of_decide_eq_true (by first | (with_reducible assumption) | assumption)
                  obtain ⟨ad260, A260_0, c260_0, e260, hx260_0, hl260_0, hi260_0⟩ := at_L3 (Kd.N_reads' HO_6.out).2.2 x12_2 p260 q260
                  cases e260
                  obtain ⟨ce260, hce260, hMe260, hcc260⟩ := Kd.N_get HO_6.out [] x12_2 p260 (by first | exact q260 | exact of_decide_eq_true (by first | (with_reducible assumption) | assumption) | (have e_ := (Kd.N_reads' HO_6.out).1; omega))
                  obtain ⟨ua260_0, uc260_0, rfl, ul260_0, ge260_0⟩ := Kd.FK_slice_open hMe260
                  have hv260_0 := hcc260 0 _ rfl
                  rw [Nat.add_zero, show ((Kd.slice 39 k39)).sz = 1 from rfl, Nat.mul_one] at hv260_0
                  replace hv260_0 := Option.some.inj (hv260_0.symm.trans hx260_0)
                  injection hv260_0 with hva_ hvn_ hvc_
                  rw [hva_] at ge260_0
                  rw [hvc_] at ul260_0
                  have HL260_0 := Aside0.mk (show Kd.V k39 39 _ w.heap.size _ _ (rd_L3 t245 x12_2) from Kd.V_mk ul260_0 ge260_0)
                  clear hva_ hvn_ hvc_ ge260_0 ul260_0
                  clear hcc260 hce260
                  have HR260_0 := Aside0.mk hi260_0
                  have HC260_0 := Aside0.mk hl260_0
                  clear hi260_0 hl260_0
                  replace p260 := eq_true p260
                  replace q260 := eq_true q260
                  go_wp2_with (first | ((with_reducible refine gate_callee (f := 16) rfl ?_); refine goesL_ (some 52) rfl rfl Try.func16 (by kernel_rfl) rfl #[.slice A260_0 (rd_L3 t245 x12_2).length c260_0, .int .i64 a1] rfl (by (try simp only [List.map_toArray, List.map_cons, List.map_nil]); first | done | rfl | (simp only [List.length_drop, List.length_take]; rfl)) ?_; (with_reducible refine (ref16_At.calls _ _ (rd_L3 t245 x12_2) a1 t261 t262 t263 _ ?side1 ?side2 A22.out).mono ?_); (case side1 => repeat (first | exact (by repeat (first | (with_reducible exact HR260_0.out) | (with_reducible refine Kd.C_alloc ?_ _) | (with_reducible refine Kd.C_drewN ?_ _) | (with_reducible refine Kd.C_drew ?_) | exact HR260_0.out)) | (with_reducible refine Kd.C_alloc ?_ _) | (with_reducible refine Kd.C_drewN ?_ _) | (with_reducible refine Kd.C_drew ?_))); (case side2 => exact HC260_0.out); rintro e w24 ⟨rfl, hb⟩; refine ⟨_, rfl, ?_⟩; have n0_ := Aside0.mk (Kd.N_below (by (with_reducible repeat (first | apply Kd.N_alloc | apply Kd.N_drewN | apply Kd.N_drew)); exact HO_6.out) hb); have n1_ := Aside0.mk (Kd.N_below (by (with_reducible repeat (first | apply Kd.N_alloc | apply Kd.N_drewN | apply Kd.N_drew)); exact HO_7.out) hb); have n2_ := Aside0.mk (Kd.V_below (by (with_reducible repeat (first | apply Kd.V_alloc | apply Kd.V_drewN | apply Kd.V_drew)); exact HL260_0.out) hb); have n3_ := Aside0.mk (Kd.C_below (by repeat (first | (with_reducible exact HR260_0.out) | (with_reducible refine Kd.C_alloc ?_ _) | (with_reducible refine Kd.C_drewN ?_ _) | (with_reducible refine Kd.C_drew ?_) | exact HR260_0.out)) hb); have n4_ := Aside0.mk (below_step (by repeat (first | (with_reducible first | exact HB.out | apply below_alloc | apply pw_below_drewN | apply below_drew1) | exact HB.out)) hb); clear HO_6; clear HO_7; clear HL260_0; clear HR260_0; clear HB; have HO_6 := n0_; have HO_7 := n1_; have HL260_0 := n2_; have HR260_0 := n3_; have HB := n4_; clear n0_ n1_ n2_ n3_ n4_; (try clear hb); (try clear hb2); (try clear hk); (try clear hi)) | ((with_reducible refine gate_dst (N := 13) rfl ?_); (try (refine gate_guard (by rfl) ?_; dsimp only)); refine box_event ?hg (N := 13) ?hd (cs := #[.int .i64 0, .int .i64 0, .string (⟨#[]⟩ : ByteArray)]) (t := 39) ?hr ?_; (case hd => rfl); (case hg => rfl); (case hr => first | (go_simp; done) | (go_simp; rfl)); intro gb264 hg w25 hbox hb; have n0_ := Aside0.mk (Kd.N_below (Kd.N_elderB (by (with_reducible repeat (first | apply Kd.N_alloc | apply Kd.N_drewN | apply Kd.N_drew)); exact HO_6.out) gb264 (Nat.le_of_eq hg.symm)) hb); have n1_ := Aside0.mk (Kd.N_below (Kd.N_elderB (by (with_reducible repeat (first | apply Kd.N_alloc | apply Kd.N_drewN | apply Kd.N_drew)); exact HO_7.out) gb264 (Nat.le_of_eq hg.symm)) hb); have n2_ := Aside0.mk (Kd.V_below (Kd.V_elderB (by (with_reducible repeat (first | apply Kd.V_alloc | apply Kd.V_drewN | apply Kd.V_drew)); exact HL260_0.out) gb264 (Nat.le_of_eq hg.symm)) hb); have n3_ := Aside0.mk (Kd.C_below (by repeat (first | (with_reducible exact HR260_0.out) | (with_reducible refine Kd.C_alloc ?_ _) | (with_reducible refine Kd.C_drewN ?_ _) | (with_reducible refine Kd.C_drew ?_) | exact HR260_0.out)) hb); have n4_ := Aside0.mk (below_step (by repeat (first | (with_reducible first | exact HB.out | apply below_alloc | apply pw_below_drewN | apply below_drew1) | exact HB.out)) hb); have n5_ := Aside0.mk (hbox); have n6_ := Aside0.mk ((by rw [hg]; exact (below_size (by repeat (first | (with_reducible first | exact HB.out | apply below_alloc | apply pw_below_drewN | apply below_drew1) | exact HB.out))) : w.heap.size ≤ gb264)); have n7_ := Aside0.mk ((by rw [hg]; exact (below_size (by repeat (first | (with_reducible first | exact HB.out | apply below_alloc | apply pw_below_drewN | apply below_drew1) | exact HB.out))) : w.heap.size ≤ gb264)); clear HO_6; clear HO_7; clear HL260_0; clear HR260_0; clear HB; have HO_6 := n0_; have HO_7 := n1_; have HL260_0 := n2_; have HR260_0 := n3_; have HB := n4_; have BK264 := n5_; have GW264 := n6_; have GE264 := n7_; clear n0_ n1_ n2_ n3_ n4_ n5_ n6_ n7_; clear hb hbox hg; have hcz26_0 : w25.cell? ⟨gb264, 0, none⟩ = some (.int .i64 0) := (blk_cell BK264.out 0).trans rfl; have hcz26_1 : w25.cell? ⟨gb264, 1, none⟩ = some (.int .i64 0) := (blk_cell BK264.out 1).trans rfl; have hcz26_2 : w25.cell? ⟨gb264, 2, none⟩ = some (.string (⟨#[]⟩ : ByteArray)) := (blk_cell BK264.out 2).trans rfl; have hfz26_0 := blk_frozen BK264.out 0; have hfz26_1 := blk_frozen BK264.out 1; have hfz26_2 := blk_frozen BK264.out 2))
                  go_roundg k2
                  case measure => have := HJ5.out; have := HK2.out; omega
                  case rel => exact ⟨(x9_2), (x10_2), (x11_2), (wrap64 (x12_2 + 1)), (by first | rfl | (simp; done) | (simp [*]; done)), (by first | rfl | (simp; done) | (simp [*]; done)), (by first | rfl | (simp; done) | (simp [*]; done)), (by first | rfl | (simp; done) | (simp [*]; done)), H', ⟨by have := HJ5.out; have := HK2.out; omega⟩, ⟨by (with_reducible repeat (first | apply Kd.N_alloc | apply Kd.N_drewN | apply Kd.N_drew)); exact Kd.N_mono (Kd.N_far (p := ⟨gb264, 2, none⟩) (Kd.N_far (p := ⟨gb264, 1, none⟩) (Kd.N_far (p := ⟨gb264, 0, none⟩) (Kd.N_mono HO_6.out (fun k_ hk => (⟨hk, hk.2⟩ : _ ∧ k_ ≠ gb264))) (fun _ hk => hk.2) (.int .i64 t261)) (fun _ hk => hk.2) (.int .i64 t262)) (fun _ hk => hk.2) (.string t263)) (fun _ hk => hk.1.1)⟩, ⟨by (with_reducible repeat (first | apply Kd.N_alloc | apply Kd.N_drewN | apply Kd.N_drew)); exact Kd.N_mono (Kd.N_far (p := ⟨gb264, 2, none⟩) (Kd.N_far (p := ⟨gb264, 1, none⟩) (Kd.N_far (p := ⟨gb264, 0, none⟩) (Kd.N_mono HO_7.out (fun k_ hk => (⟨hk, hk.2⟩ : _ ∧ k_ ≠ gb264))) (fun _ hk => hk.2) (.int .i64 t261)) (fun _ hk => hk.2) (.int .i64 t262)) (fun _ hk => hk.2) (.string t263)) (fun _ hk => hk.1.1)⟩, ⟨by repeat (first | (with_reducible first | exact HB.out | apply below_alloc | apply pw_below_drewN | apply below_drew1 | refine below_set ?_ GE264.out) | exact HB.out)⟩⟩
                · rw [if_neg c23] at H
                  have c23b0 : (t261 == 0) = false := beq_eq_false_iff_ne.mpr c23
                  have c23b1 : (t261 != 0) = true := bne_iff_ne.mpr c23
                  have HC27 := Aside0.mk H
                  clear H
                  have p260 : 0 ≤ (x12_2 : Int) := of_decide_eq_true (by first | (with_reducible assumption) | assumption)
                  have q260 : x12_2 < (t245.length : Int) := of_decide_eq_true (by first | (with_reducible assumption) | assumption)
                  obtain ⟨ad260, A260_0, c260_0, e260, hx260_0, hl260_0, hi260_0⟩ := at_L3 (Kd.N_reads' HO_6.out).2.2 x12_2 p260 q260
                  cases e260
                  obtain ⟨ce260, hce260, hMe260, hcc260⟩ := Kd.N_get HO_6.out [] x12_2 p260 (by first | exact q260 | exact of_decide_eq_true (by first | (with_reducible assumption) | assumption) | (have e_ := (Kd.N_reads' HO_6.out).1; omega))
                  obtain ⟨ua260_0, uc260_0, rfl, ul260_0, ge260_0⟩ := Kd.FK_slice_open hMe260
                  have hv260_0 := hcc260 0 _ rfl
                  rw [Nat.add_zero, show ((Kd.slice 39 k39)).sz = 1 from rfl, Nat.mul_one] at hv260_0
                  replace hv260_0 := Option.some.inj (hv260_0.symm.trans hx260_0)
                  injection hv260_0 with hva_ hvn_ hvc_
                  rw [hva_] at ge260_0
                  rw [hvc_] at ul260_0
                  have HL260_0 := Aside0.mk (show Kd.V k39 39 _ w.heap.size _ _ (rd_L3 t245 x12_2) from Kd.V_mk ul260_0 ge260_0)
                  clear hva_ hvn_ hvc_ ge260_0 ul260_0
                  clear hcc260 hce260
                  have HR260_0 := Aside0.mk hi260_0
                  have HC260_0 := Aside0.mk hl260_0
                  clear hi260_0 hl260_0
                  replace p260 := eq_true p260
                  replace q260 := eq_true q260
                  go_upto_region 15 with (first | ((with_reducible refine gate_callee (f := 16) rfl ?_); refine goesL_ (some 52) rfl rfl Try.func16 (by kernel_rfl) rfl #[.slice A260_0 (rd_L3 t245 x12_2).length c260_0, .int .i64 a1] rfl (by (try simp only [List.map_toArray, List.map_cons, List.map_nil]); first | done | rfl | (simp only [List.length_drop, List.length_take]; rfl)) ?_; (with_reducible refine (ref16_At.calls _ _ (rd_L3 t245 x12_2) a1 t261 t262 t263 _ ?side1 ?side2 A22.out).mono ?_); (case side1 => repeat (first | exact (by repeat (first | (with_reducible exact HR260_0.out) | (with_reducible refine Kd.C_alloc ?_ _) | (with_reducible refine Kd.C_drewN ?_ _) | (with_reducible refine Kd.C_drew ?_) | exact HR260_0.out)) | (with_reducible refine Kd.C_alloc ?_ _) | (with_reducible refine Kd.C_drewN ?_ _) | (with_reducible refine Kd.C_drew ?_))); (case side2 => exact HC260_0.out); rintro e w28 ⟨rfl, hb⟩; refine ⟨_, rfl, ?_⟩; have n0_ := Aside0.mk (Kd.N_below (by (with_reducible repeat (first | apply Kd.N_alloc | apply Kd.N_drewN | apply Kd.N_drew)); exact HO_6.out) hb); have n1_ := Aside0.mk (Kd.N_below (by (with_reducible repeat (first | apply Kd.N_alloc | apply Kd.N_drewN | apply Kd.N_drew)); exact HO_7.out) hb); have n2_ := Aside0.mk (Kd.V_below (by (with_reducible repeat (first | apply Kd.V_alloc | apply Kd.V_drewN | apply Kd.V_drew)); exact HL260_0.out) hb); have n3_ := Aside0.mk (Kd.C_below (by repeat (first | (with_reducible exact HR260_0.out) | (with_reducible refine Kd.C_alloc ?_ _) | (with_reducible refine Kd.C_drewN ?_ _) | (with_reducible refine Kd.C_drew ?_) | exact HR260_0.out)) hb); have n4_ := Aside0.mk (below_step (by repeat (first | (with_reducible first | exact HB.out | apply below_alloc | apply pw_below_drewN | apply below_drew1) | exact HB.out)) hb); clear HO_6; clear HO_7; clear HL260_0; clear HR260_0; clear HB; have HO_6 := n0_; have HO_7 := n1_; have HL260_0 := n2_; have HR260_0 := n3_; have HB := n4_; clear n0_ n1_ n2_ n3_ n4_; (try clear hb); (try clear hb2); (try clear hk); (try clear hi)) | ((with_reducible refine gate_dst (N := 13) rfl ?_); (try (refine gate_guard (by rfl) ?_; dsimp only)); refine box_event ?hg (N := 13) ?hd (cs := #[.int .i64 0, .int .i64 0, .string (⟨#[]⟩ : ByteArray)]) (t := 39) ?hr ?_; (case hd => rfl); (case hg => rfl); (case hr => first | (go_simp; done) | (go_simp; rfl)); intro gb264 hg w29 hbox hb; have n0_ := Aside0.mk (Kd.N_below (Kd.N_elderB (by (with_reducible repeat (first | apply Kd.N_alloc | apply Kd.N_drewN | apply Kd.N_drew)); exact HO_6.out) gb264 (Nat.le_of_eq hg.symm)) hb); have n1_ := Aside0.mk (Kd.N_below (Kd.N_elderB (by (with_reducible repeat (first | apply Kd.N_alloc | apply Kd.N_drewN | apply Kd.N_drew)); exact HO_7.out) gb264 (Nat.le_of_eq hg.symm)) hb); have n2_ := Aside0.mk (Kd.V_below (Kd.V_elderB (by (with_reducible repeat (first | apply Kd.V_alloc | apply Kd.V_drewN | apply Kd.V_drew)); exact HL260_0.out) gb264 (Nat.le_of_eq hg.symm)) hb); have n3_ := Aside0.mk (Kd.C_below (by repeat (first | (with_reducible exact HR260_0.out) | (with_reducible refine Kd.C_alloc ?_ _) | (with_reducible refine Kd.C_drewN ?_ _) | (with_reducible refine Kd.C_drew ?_) | exact HR260_0.out)) hb); have n4_ := Aside0.mk (below_step (by repeat (first | (with_reducible first | exact HB.out | apply below_alloc | apply pw_below_drewN | apply below_drew1) | exact HB.out)) hb); have n5_ := Aside0.mk (hbox); have n6_ := Aside0.mk ((by rw [hg]; exact (below_size (by repeat (first | (with_reducible first | exact HB.out | apply below_alloc | apply pw_below_drewN | apply below_drew1) | exact HB.out))) : w.heap.size ≤ gb264)); have n7_ := Aside0.mk ((by rw [hg]; exact (below_size (by repeat (first | (with_reducible first | exact HB.out | apply below_alloc | apply pw_below_drewN | apply below_drew1) | exact HB.out))) : w.heap.size ≤ gb264)); clear HO_6; clear HO_7; clear HL260_0; clear HR260_0; clear HB; have HO_6 := n0_; have HO_7 := n1_; have HL260_0 := n2_; have HR260_0 := n3_; have HB := n4_; have BK264 := n5_; have GW264 := n6_; have GE264 := n7_; clear n0_ n1_ n2_ n3_ n4_ n5_ n6_ n7_; clear hb hbox hg; have hcz30_0 : w29.cell? ⟨gb264, 0, none⟩ = some (.int .i64 0) := (blk_cell BK264.out 0).trans rfl; have hcz30_1 : w29.cell? ⟨gb264, 1, none⟩ = some (.int .i64 0) := (blk_cell BK264.out 1).trans rfl; have hcz30_2 : w29.cell? ⟨gb264, 2, none⟩ = some (.string (⟨#[]⟩ : ByteArray)) := (blk_cell BK264.out 2).trans rfl; have hfz30_0 := blk_frozen BK264.out 0; have hfz30_1 := blk_frozen BK264.out 1; have hfz30_2 := blk_frozen BK264.out 2))
                  (try simp only [Act.put, List.setIfInBounds_toArray, List.set_cons_zero, List.set_cons_succ])
                  go_cut [9] (fun v9 wc => ∃ (kq : Nat) (x9_26 : Bool), v9 = .bool x9_26 ∧ Aside0 (law20_AggEnds.j2 kq a1 t244 t245 t251 x9_26 x10_2 true x12_2 t261 t262 t263 = some r) ∧ Aside0 (kq ≤ k2) ∧ Aside0 (Kd.N (Kd.slice 39 k39) 32 wc w.heap.size (fun k_ => some k_ ≠ (v253 : Value).ownBlock ∧ k_ ≠ gb264) (.slice (some ad260) t245.length co11) t245) ∧ Aside0 (Kd.N (Kd.slice 39 k39) 32 wc w.heap.size (fun k_ => some k_ ≠ ((.slice (some ad260) t245.length co11) : Value).ownBlock ∧ k_ ≠ gb264) v253 t251) ∧ Aside0 (wc.heap[gb264]? = some (.cells #[.int .i64 t261, .int .i64 t262, .string t263] 39 (0, 0))) ∧ Aside0 (Below w.heap.size w wc))
                  case first =>
                    have H := HC27.out
                    clear HC27
                    by_cases c31 : x9_2 = true
                    · subst c31
                      have H1 : (law20_AggEnds.j2 k2 a1 t244 t245 t251 true x10_2 true x12_2 t261 t262 t263) = some r := by rw [if_pos rfl] at H; exact H
                      clear H
                      have H := H1
                      clear H1
                      have H' := Aside0.mk H
                      clear H
                      try go_wp2
                      have n0_ : Aside0 (Kd.N (Kd.slice 39 k39) 32 (((w29.setCell ⟨gb264, 0, none⟩ (.int .i64 t261)).setCell ⟨gb264, 1, none⟩ (.int .i64 t262)).setCell ⟨gb264, 2, none⟩ (.string t263)) w.heap.size (fun k_ => some k_ ≠ (v253 : Value).ownBlock ∧ k_ ≠ gb264) (.slice (some ad260) t245.length co11) t245) := ⟨by (with_reducible repeat (first | apply Kd.N_alloc | apply Kd.N_drewN | apply Kd.N_drew)); exact Kd.N_mono (Kd.N_far (p := ⟨gb264, 2, none⟩) (Kd.N_far (p := ⟨gb264, 1, none⟩) (Kd.N_far (p := ⟨gb264, 0, none⟩) (Kd.N_mono HO_6.out (fun k_ hk => (⟨hk, hk.2⟩ : _ ∧ k_ ≠ gb264))) (fun _ hk => hk.2) (.int .i64 t261)) (fun _ hk => hk.2) (.int .i64 t262)) (fun _ hk => hk.2) (.string t263)) (fun _ hk => ⟨hk.1.1, hk.1.2⟩)⟩
                      have n1_ : Aside0 (Kd.N (Kd.slice 39 k39) 32 (((w29.setCell ⟨gb264, 0, none⟩ (.int .i64 t261)).setCell ⟨gb264, 1, none⟩ (.int .i64 t262)).setCell ⟨gb264, 2, none⟩ (.string t263)) w.heap.size (fun k_ => some k_ ≠ (.slice (some ad260) t245.length co11 : Value).ownBlock ∧ k_ ≠ gb264) v253 t251) := ⟨by (with_reducible repeat (first | apply Kd.N_alloc | apply Kd.N_drewN | apply Kd.N_drew)); exact Kd.N_mono (Kd.N_far (p := ⟨gb264, 2, none⟩) (Kd.N_far (p := ⟨gb264, 1, none⟩) (Kd.N_far (p := ⟨gb264, 0, none⟩) (Kd.N_mono HO_7.out (fun k_ hk => (⟨hk, hk.2⟩ : _ ∧ k_ ≠ gb264))) (fun _ hk => hk.2) (.int .i64 t261)) (fun _ hk => hk.2) (.int .i64 t262)) (fun _ hk => hk.2) (.string t263)) (fun _ hk => ⟨hk.1.1, hk.1.2⟩)⟩
                      have n2_ : Aside0 (Kd.V k39 39 (((w29.setCell ⟨gb264, 0, none⟩ (.int .i64 t261)).setCell ⟨gb264, 1, none⟩ (.int .i64 t262)).setCell ⟨gb264, 2, none⟩ (.string t263)) w.heap.size (fun k_ => some k_ ≠ (.slice (some ad260) t245.length co11 : Value).ownBlock ∧ some k_ ≠ (v253 : Value).ownBlock ∧ k_ ≠ gb264) (.slice A260_0 (rd_L3 t245 x12_2).length c260_0) (rd_L3 t245 x12_2)) := ⟨by (with_reducible repeat (first | apply Kd.V_alloc | apply Kd.V_drewN | apply Kd.V_drew)); exact Kd.V_mono (Kd.V_far (p := ⟨gb264, 2, none⟩) (Kd.V_far (p := ⟨gb264, 1, none⟩) (Kd.V_far (p := ⟨gb264, 0, none⟩) (Kd.V_mono HL260_0.out (fun k_ hk => (⟨hk, hk.2⟩ : _ ∧ k_ ≠ gb264))) (fun _ hk => hk.2) (.int .i64 t261)) (fun _ hk => hk.2) (.int .i64 t262)) (fun _ hk => hk.2) (.string t263)) (fun _ hk => ⟨hk.1.1.2, ⟨hk.1.1.1, hk.1.2⟩⟩)⟩
                      have n3_ : Aside0 ((((w29.setCell ⟨gb264, 0, none⟩ (.int .i64 t261)).setCell ⟨gb264, 1, none⟩ (.int .i64 t262)).setCell ⟨gb264, 2, none⟩ (.string t263)).heap[gb264]? = some (.cells #[.int .i64 t261, .int .i64 t262, .string t263] 39 (0, 0))) := ⟨by (with_reducible repeat (first | refine blk_drewN ?_ _ | refine blk_drew ?_ | refine blk_alloc ?_ _)); refine blk_put (cs := #[.int .i64 t261, .int .i64 t262, .string (⟨#[]⟩ : ByteArray)]) ?_ 2 _ rfl; (with_reducible repeat (first | refine blk_drewN ?_ _ | refine blk_drew ?_ | refine blk_alloc ?_ _)); refine blk_put (cs := #[.int .i64 t261, .int .i64 0, .string (⟨#[]⟩ : ByteArray)]) ?_ 1 _ rfl; (with_reducible repeat (first | refine blk_drewN ?_ _ | refine blk_drew ?_ | refine blk_alloc ?_ _)); refine blk_put (cs := #[.int .i64 0, .int .i64 0, .string (⟨#[]⟩ : ByteArray)]) ?_ 0 _ rfl; (with_reducible repeat (first | refine blk_drewN ?_ _ | refine blk_drew ?_ | refine blk_alloc ?_ _)); exact BK264.out⟩
                      have n4_ : Aside0 (Below w.heap.size w (((w29.setCell ⟨gb264, 0, none⟩ (.int .i64 t261)).setCell ⟨gb264, 1, none⟩ (.int .i64 t262)).setCell ⟨gb264, 2, none⟩ (.string t263))) := ⟨by repeat (first | (with_reducible first | exact HB.out | apply below_alloc | apply pw_below_drewN | apply below_drew1 | refine below_set ?_ GE264.out) | exact HB.out)⟩
                      (try clear HO_6)
                      (try clear HO_7)
                      (try clear HL260_0)
                      (try clear BK264)
                      (try clear HB)
                      generalize (((w29.setCell ⟨gb264, 0, none⟩ (.int .i64 t261)).setCell ⟨gb264, 1, none⟩ (.int .i64 t262)).setCell ⟨gb264, 2, none⟩ (.string t263)) = w32 at n0_ n1_ n2_ n3_ n4_ ⊢
                      have HO_6 := n0_
                      have HO_7 := n1_
                      have HL260_0 := n2_
                      have BK264 := n3_
                      have HB := n4_
                      clear n0_ n1_ n2_ n3_ n4_
                      have n0_ := Aside0.mk (Kd.N_drew HO_6.out)
                      have n1_ := Aside0.mk (Kd.N_drew HO_7.out)
                      have n2_ := Aside0.mk (Kd.V_drew HL260_0.out)
                      have n3_ := Aside0.mk (blk_drew BK264.out)
                      have n4_ := Aside0.mk (below_drew1 HB.out)
                      clear HO_6
                      clear HO_7
                      clear HL260_0
                      clear BK264
                      clear HB
                      have HO_6 := n0_
                      have HO_7 := n1_
                      have HL260_0 := n2_
                      have BK264 := n3_
                      have HB := n4_
                      clear n0_ n1_ n2_ n3_ n4_
                      refine start_ (n := 11) (S := fun w' => True) (ds := []) #[false, false, false, false, false, false, false, false, false, false, false] (by kernel_rfl) rfl rfl trivial (fun hHeld => ?_); refine with_tabW law20_AggEnds.tab15 law20_AggEnds.bits15 (fun HT_ HW_ => ?_)
                      generalize w32.drew = w33 at HO_6 HO_7 HL260_0 BK264 HB hHeld ⊢
                      refine pure_ (i := 0) (N := some 56) (v := ?_) (a' := ?_) #[true, false, false, false, false, false, false, false, false, false, false] rfl rfl (any_of HT_.out (by kernel_rfl)) (fun _ _ _ h => h) (Or.inl ⟨by rfl, ?_⟩) ?_ ?_
                      rotate_left
                      · intro w'
                        go_simp
                        with_reducible rfl
                      rotate_left
                      · simp only [Act.put, List.setIfInBounds_toArray, List.set_cons_zero, List.set_cons_succ, i64_w, i32_w]
                        rfl
                      refine pure_ (i := 1) (N := some 57) (v := ?_) (a' := ?_) #[true, true, false, false, false, false, false, false, false, false, false] rfl rfl (any_of HT_.out (by kernel_rfl)) (fun _ _ _ h => h) (Or.inl ⟨by rfl, ?_⟩) ?_ ?_
                      rotate_left
                      · intro w'
                        go_simp
                        with_reducible rfl
                      rotate_left
                      · simp only [Act.put, List.setIfInBounds_toArray, List.set_cons_zero, List.set_cons_succ, i64_w, i32_w]
                        rfl
                      refine pure_ (i := 2) (N := some 58) (v := undef) (a' := ?_) #[true, true, true, false, false, false, false, false, false, false, false] rfl rfl (any_of HT_.out (by kernel_rfl)) (fun _ _ _ h => h) (Or.inr ⟨by rfl, rfl⟩) ?_ ?_
                      rotate_left
                      · simp only [Act.put, List.setIfInBounds_toArray, List.set_cons_zero, List.set_cons_succ, i64_w, i32_w]
                        rfl
                      refine pure_ (i := 3) (N := some 59) (v := undef) (a' := ?_) #[true, true, true, true, false, false, false, false, false, false, false] rfl rfl (any_of HT_.out (by kernel_rfl)) (fun _ _ _ h => h) (Or.inr ⟨by rfl, rfl⟩) ?_ ?_
                      rotate_left
                      · simp only [Act.put, List.setIfInBounds_toArray, List.set_cons_zero, List.set_cons_succ, i64_w, i32_w]
                        rfl
                      refine pure_ (i := 4) (N := some 60) (v := undef) (a' := ?_) #[true, true, true, true, true, false, false, false, false, false, false] rfl rfl (any_of HT_.out (by kernel_rfl)) (fun _ _ _ h => h) (Or.inr ⟨by rfl, rfl⟩) ?_ ?_
                      rotate_left
                      · simp only [Act.put, List.setIfInBounds_toArray, List.set_cons_zero, List.set_cons_succ, i64_w, i32_w]
                        rfl
                      refine pure_ (i := 5) (N := some 61) (v := undef) (a' := ?_) #[true, true, true, true, true, true, false, false, false, false, false] rfl rfl (any_of HT_.out (by kernel_rfl)) (fun _ _ _ h => h) (Or.inr ⟨by rfl, rfl⟩) ?_ ?_
                      rotate_left
                      · simp only [Act.put, List.setIfInBounds_toArray, List.set_cons_zero, List.set_cons_succ, i64_w, i32_w]
                        rfl
                      refine pure_ (i := 6) (N := some 62) (v := undef) (a' := ?_) #[true, true, true, true, true, true, true, false, false, false, false] rfl rfl (any_of HT_.out (by kernel_rfl)) (fun _ _ _ h => h) (Or.inr ⟨by rfl, rfl⟩) ?_ ?_
                      rotate_left
                      · simp only [Act.put, List.setIfInBounds_toArray, List.set_cons_zero, List.set_cons_succ, i64_w, i32_w]
                        rfl
                      refine pure_ (i := 7) (N := some 63) (v := undef) (a' := ?_) #[true, true, true, true, true, true, true, true, false, false, false] rfl rfl (any_of HT_.out (by kernel_rfl)) (fun _ _ _ h => h) (Or.inr ⟨by rfl, rfl⟩) ?_ ?_
                      rotate_left
                      · simp only [Act.put, List.setIfInBounds_toArray, List.set_cons_zero, List.set_cons_succ, i64_w, i32_w]
                        rfl
                      refine pure_ (i := 8) (N := some 64) (v := undef) (a' := ?_) #[true, true, true, true, true, true, true, true, true, false, false] rfl rfl (any_of HT_.out (by kernel_rfl)) (fun _ _ _ h => h) (Or.inr ⟨by rfl, rfl⟩) ?_ ?_
                      rotate_left
                      · simp only [Act.put, List.setIfInBounds_toArray, List.set_cons_zero, List.set_cons_succ, i64_w, i32_w]
                        rfl
                      refine pure_ (i := 9) (N := some 65) (v := ?_) (a' := ?_) #[true, true, true, true, true, true, true, true, true, true, false] rfl rfl (any_of HT_.out (by kernel_rfl)) (fun _ _ _ h => h) (Or.inl ⟨by rfl, ?_⟩) ?_ ?_
                      rotate_left
                      · intro w'
                        go_simp
                        with_reducible rfl
                      rotate_left
                      · simp only [Act.put, List.setIfInBounds_toArray, List.set_cons_zero, List.set_cons_succ, i64_w, i32_w]
                        rfl
                      refine pure_ (i := 10) (N := some 9) (v := ?_) (a' := ?_) #[true, true, true, true, true, true, true, true, true, true, true] rfl rfl (any_of HT_.out (by kernel_rfl)) (fun _ _ _ h => h) (Or.inl ⟨by rfl, ?_⟩) ?_ ?_
                      rotate_left
                      · intro w'
                        go_simp
                        with_reducible rfl
                      rotate_left
                      · simp only [Act.put, List.setIfInBounds_toArray, List.set_cons_zero, List.set_cons_succ, i64_w, i32_w]
                        rfl
                      refine done_ (done_of HT_.out (by kernel_rfl)) ?_
                      try go_wp2
                      go_meet
                      case rel => exact ⟨_, (true), (by first | rfl | (simp; done) | (simp [*]; done)), H', ⟨by have := HJ5.out; have := HK2.out; first | omega | exact Nat.le_refl _⟩, ⟨by (with_reducible repeat (first | apply Kd.N_alloc | apply Kd.N_drewN | apply Kd.N_drew)); exact HO_6.out⟩, ⟨by (with_reducible repeat (first | apply Kd.N_alloc | apply Kd.N_drewN | apply Kd.N_drew)); exact HO_7.out⟩, ⟨by (with_reducible repeat (first | refine blk_drewN ?_ _ | refine blk_drew ?_ | refine blk_alloc ?_ _)); exact BK264.out⟩, ⟨by repeat (first | (with_reducible first | exact HB.out | apply below_alloc | apply pw_below_drewN | apply below_drew1 | refine below_set ?_ GE264.out) | exact HB.out)⟩⟩
                    · replace c31 := Bool.eq_false_iff.mpr c31
                      subst c31
                      have H1 : (if 0 < (t251.length : Int) then (if 0 < ((rd_L3 t251 0).length : Int) then (law20_AggEnds.j2 k2 a1 t244 t245 t251 (t261 == ((rd_T39 (rd_L3 t251 0) 0).f0) && (t262 == ((rd_T39 (rd_L3 t251 0) 0).f1) && (t263.toList == (((rd_T39 (rd_L3 t251 0) 0).f2).toList)))) x10_2 true x12_2 t261 t262 t263) else (none)) else (none)) = some r := by rw [if_neg (show ¬ (false = true) by decide)] at H; exact H
                      clear H
                      have H := H1
                      clear H1
                      by_cases c34 : 0 < (t251.length : Int)
                      · rw [if_pos c34] at H
                        have c34b0 : decide (0 < (t251.length : Int)) = true := decide_eq_true c34
                        (try (have c34b0q_hl255_0 := c34b0; rw [hl255_0] at c34b0q_hl255_0))
                        (try (have c34b0q_hl260_0 := c34b0; rw [hl260_0] at c34b0q_hl260_0))
                        have c34b1 : decide (0 < t251.length) = true := decide_eq_true (by omega)
                        (try (have c34b1q_hl255_0 := c34b1; rw [hl255_0] at c34b1q_hl255_0))
                        (try (have c34b1q_hl260_0 := c34b1; rw [hl260_0] at c34b1q_hl260_0))
                        clear c34
                        (first | rw [c34b0] | (simp only [i64_w, i32_w]; rw [c34b0]) | skip)
                        by_cases c35 : 0 < ((rd_L3 t251 0).length : Int)
                        · rw [if_pos c35] at H
                          have c35b0 : decide (0 < ((rd_L3 t251 0).length : Int)) = true := decide_eq_true c35
                          (try (have c35b0q_hl255_0 := c35b0; rw [hl255_0] at c35b0q_hl255_0))
                          (try (have c35b0q_hl260_0 := c35b0; rw [hl260_0] at c35b0q_hl260_0))
                          have c35b1 : decide (0 < (rd_L3 t251 0).length) = true := decide_eq_true (by omega)
                          (try (have c35b1q_hl255_0 := c35b1; rw [hl255_0] at c35b1q_hl255_0))
                          (try (have c35b1q_hl260_0 := c35b1; rw [hl260_0] at c35b1q_hl260_0))
                          clear c35
                          have H' := Aside0.mk H
                          clear H
                          try go_wp2
                          have n0_ : Aside0 (Kd.N (Kd.slice 39 k39) 32 (((w29.setCell ⟨gb264, 0, none⟩ (.int .i64 t261)).setCell ⟨gb264, 1, none⟩ (.int .i64 t262)).setCell ⟨gb264, 2, none⟩ (.string t263)) w.heap.size (fun k_ => some k_ ≠ (v253 : Value).ownBlock ∧ k_ ≠ gb264) (.slice (some ad260) t245.length co11) t245) := ⟨by (with_reducible repeat (first | apply Kd.N_alloc | apply Kd.N_drewN | apply Kd.N_drew)); exact Kd.N_mono (Kd.N_far (p := ⟨gb264, 2, none⟩) (Kd.N_far (p := ⟨gb264, 1, none⟩) (Kd.N_far (p := ⟨gb264, 0, none⟩) (Kd.N_mono HO_6.out (fun k_ hk => (⟨hk, hk.2⟩ : _ ∧ k_ ≠ gb264))) (fun _ hk => hk.2) (.int .i64 t261)) (fun _ hk => hk.2) (.int .i64 t262)) (fun _ hk => hk.2) (.string t263)) (fun _ hk => ⟨hk.1.1, hk.1.2⟩)⟩
                          have n1_ : Aside0 (Kd.N (Kd.slice 39 k39) 32 (((w29.setCell ⟨gb264, 0, none⟩ (.int .i64 t261)).setCell ⟨gb264, 1, none⟩ (.int .i64 t262)).setCell ⟨gb264, 2, none⟩ (.string t263)) w.heap.size (fun k_ => some k_ ≠ (.slice (some ad260) t245.length co11 : Value).ownBlock ∧ k_ ≠ gb264) v253 t251) := ⟨by (with_reducible repeat (first | apply Kd.N_alloc | apply Kd.N_drewN | apply Kd.N_drew)); exact Kd.N_mono (Kd.N_far (p := ⟨gb264, 2, none⟩) (Kd.N_far (p := ⟨gb264, 1, none⟩) (Kd.N_far (p := ⟨gb264, 0, none⟩) (Kd.N_mono HO_7.out (fun k_ hk => (⟨hk, hk.2⟩ : _ ∧ k_ ≠ gb264))) (fun _ hk => hk.2) (.int .i64 t261)) (fun _ hk => hk.2) (.int .i64 t262)) (fun _ hk => hk.2) (.string t263)) (fun _ hk => ⟨hk.1.1, hk.1.2⟩)⟩
                          have n2_ : Aside0 (Kd.V k39 39 (((w29.setCell ⟨gb264, 0, none⟩ (.int .i64 t261)).setCell ⟨gb264, 1, none⟩ (.int .i64 t262)).setCell ⟨gb264, 2, none⟩ (.string t263)) w.heap.size (fun k_ => some k_ ≠ (.slice (some ad260) t245.length co11 : Value).ownBlock ∧ some k_ ≠ (v253 : Value).ownBlock ∧ k_ ≠ gb264) (.slice A260_0 (rd_L3 t245 x12_2).length c260_0) (rd_L3 t245 x12_2)) := ⟨by (with_reducible repeat (first | apply Kd.V_alloc | apply Kd.V_drewN | apply Kd.V_drew)); exact Kd.V_mono (Kd.V_far (p := ⟨gb264, 2, none⟩) (Kd.V_far (p := ⟨gb264, 1, none⟩) (Kd.V_far (p := ⟨gb264, 0, none⟩) (Kd.V_mono HL260_0.out (fun k_ hk => (⟨hk, hk.2⟩ : _ ∧ k_ ≠ gb264))) (fun _ hk => hk.2) (.int .i64 t261)) (fun _ hk => hk.2) (.int .i64 t262)) (fun _ hk => hk.2) (.string t263)) (fun _ hk => ⟨hk.1.1.2, ⟨hk.1.1.1, hk.1.2⟩⟩)⟩
                          have n3_ : Aside0 ((((w29.setCell ⟨gb264, 0, none⟩ (.int .i64 t261)).setCell ⟨gb264, 1, none⟩ (.int .i64 t262)).setCell ⟨gb264, 2, none⟩ (.string t263)).heap[gb264]? = some (.cells #[.int .i64 t261, .int .i64 t262, .string t263] 39 (0, 0))) := ⟨by (with_reducible repeat (first | refine blk_drewN ?_ _ | refine blk_drew ?_ | refine blk_alloc ?_ _)); refine blk_put (cs := #[.int .i64 t261, .int .i64 t262, .string (⟨#[]⟩ : ByteArray)]) ?_ 2 _ rfl; (with_reducible repeat (first | refine blk_drewN ?_ _ | refine blk_drew ?_ | refine blk_alloc ?_ _)); refine blk_put (cs := #[.int .i64 t261, .int .i64 0, .string (⟨#[]⟩ : ByteArray)]) ?_ 1 _ rfl; (with_reducible repeat (first | refine blk_drewN ?_ _ | refine blk_drew ?_ | refine blk_alloc ?_ _)); refine blk_put (cs := #[.int .i64 0, .int .i64 0, .string (⟨#[]⟩ : ByteArray)]) ?_ 0 _ rfl; (with_reducible repeat (first | refine blk_drewN ?_ _ | refine blk_drew ?_ | refine blk_alloc ?_ _)); exact BK264.out⟩
                          have n4_ : Aside0 (Below w.heap.size w (((w29.setCell ⟨gb264, 0, none⟩ (.int .i64 t261)).setCell ⟨gb264, 1, none⟩ (.int .i64 t262)).setCell ⟨gb264, 2, none⟩ (.string t263))) := ⟨by repeat (first | (with_reducible first | exact HB.out | apply below_alloc | apply pw_below_drewN | apply below_drew1 | refine below_set ?_ GE264.out) | exact HB.out)⟩
                          (try clear HO_6)
                          (try clear HO_7)
                          (try clear HL260_0)
                          (try clear BK264)
                          (try clear HB)
                          generalize (((w29.setCell ⟨gb264, 0, none⟩ (.int .i64 t261)).setCell ⟨gb264, 1, none⟩ (.int .i64 t262)).setCell ⟨gb264, 2, none⟩ (.string t263)) = w36 at n0_ n1_ n2_ n3_ n4_ ⊢
                          have HO_6 := n0_
                          have HO_7 := n1_
                          have HL260_0 := n2_
                          have BK264 := n3_
                          have HB := n4_
                          clear n0_ n1_ n2_ n3_ n4_
                          have n0_ := Aside0.mk (Kd.N_drew HO_6.out)
                          have n1_ := Aside0.mk (Kd.N_drew HO_7.out)
                          have n2_ := Aside0.mk (Kd.V_drew HL260_0.out)
                          have n3_ := Aside0.mk (blk_drew BK264.out)
                          have n4_ := Aside0.mk (below_drew1 HB.out)
                          clear HO_6
                          clear HO_7
                          clear HL260_0
                          clear BK264
                          clear HB
                          have HO_6 := n0_
                          have HO_7 := n1_
                          have HL260_0 := n2_
                          have BK264 := n3_
                          have HB := n4_
                          clear n0_ n1_ n2_ n3_ n4_
                          obtain ⟨Ao38, co38, eo38⟩ := Kd.N_slice HO_7.out
                          (first | subst eo38 | (injection eo38 with f1_ f2_ f3_; have f4_ := f1_.symm; have f5_ := f3_.symm; clear f1_ f2_ f3_; subst f4_; subst f5_))
                          have p265 : 0 ≤ (0 : Int) := (by omega)
                          have q265 : 0 < (t251.length : Int) := of_decide_eq_true (by first | (with_reducible assumption) | assumption)
                          obtain ⟨ad265, A265_0, c265_0, e265, hx265_0, hl265_0, hi265_0⟩ := at_L3 (Kd.N_reads' HO_7.out).2.2 0 p265 q265
                          cases e265
                          obtain ⟨ce265, hce265, hMe265, hcc265⟩ := Kd.N_get HO_7.out [] 0 p265 (by first | exact q265 | exact of_decide_eq_true (by first | (with_reducible assumption) | assumption) | (have e_ := (Kd.N_reads' HO_7.out).1; omega))
                          obtain ⟨ua265_0, uc265_0, rfl, ul265_0, ge265_0⟩ := Kd.FK_slice_open hMe265
                          have hv265_0 := hcc265 0 _ rfl
                          rw [Nat.add_zero, show ((Kd.slice 39 k39)).sz = 1 from rfl, Nat.mul_one] at hv265_0
                          replace hv265_0 := Option.some.inj (hv265_0.symm.trans hx265_0)
                          injection hv265_0 with hva_ hvn_ hvc_
                          rw [hva_] at ge265_0
                          rw [hvc_] at ul265_0
                          have HL265_0 := Aside0.mk (show Kd.V k39 39 _ w.heap.size _ _ (rd_L3 t251 0) from Kd.V_mk ul265_0 ge265_0)
                          clear hva_ hvn_ hvc_ ge265_0 ul265_0
                          clear hcc265 hce265
                          have qi265 : (0 < t251.length) = True := eq_true (by omega)
                          (try rw [show ((0 : Int)).toNat = 0 from rfl] at hx265_0)
                          (try rw [Addr.add_zero'] at hx265_0)
                          have HR265_0 := Aside0.mk hi265_0
                          have HC265_0 := Aside0.mk hl265_0
                          clear hi265_0 hl265_0
                          replace p265 := eq_true p265
                          replace q265 := eq_true q265
                          have p266 : 0 ≤ (0 : Int) := (by omega)
                          have q266 : 0 < ((rd_L3 t251 0).length : Int) := of_decide_eq_true (by first | (with_reducible assumption) | assumption)
                          obtain ⟨ad266, e266, hx266_0, hx266_1, hx266_2⟩ := at_T39 (by repeat (first | (with_reducible exact HR265_0.out) | (with_reducible refine Kd.C_alloc ?_ _) | (with_reducible refine Kd.C_drewN ?_ _) | (with_reducible refine Kd.C_drew ?_) | exact HR265_0.out)) 0 p266 q266
                          cases e266
                          have qi266 : (0 < (rd_L3 t251 0).length) = True := eq_true (by omega)
                          (try rw [show ((0 : Int)).toNat = 0 from rfl] at hx266_0)
                          (try rw [show 0 * 3 = 0 from rfl] at hx266_0)
                          (try rw [Addr.add_zero'] at hx266_0)
                          (try rw [show ((0 : Int)).toNat = 0 from rfl] at hx266_1)
                          (try rw [show 0 * 3 = 0 from rfl] at hx266_1)
                          (try rw [Addr.add_zero'] at hx266_1)
                          (try rw [show ((0 : Int)).toNat = 0 from rfl] at hx266_2)
                          (try rw [show 0 * 3 = 0 from rfl] at hx266_2)
                          (try rw [Addr.add_zero'] at hx266_2)
                          replace p266 := eq_true p266
                          replace q266 := eq_true q266
                          refine start_ (n := 11) (S := fun w' => w'.cell? ⟨gb264, 0, none⟩ = some (.int .i64 t261) ∧ w'.cell? ⟨gb264, 1, none⟩ = some (.int .i64 t262) ∧ w'.cell? ⟨gb264, 2, none⟩ = some (.string t263) ∧ w'.cell? ad265 = some (.slice (some ad266) (rd_L3 t251 0).length c265_0) ∧ w'.cell? ad266 = some (.int .i64 ((rd_T39 (rd_L3 t251 0) 0).f0)) ∧ w'.cell? ⟨ad266.block, ad266.off + 1, none⟩ = some (.int .i64 ((rd_T39 (rd_L3 t251 0) 0).f1)) ∧ w'.cell? ⟨ad266.block, ad266.off + 2, none⟩ = some (.string ((rd_T39 (rd_L3 t251 0) 0).f2))) (ds := []) #[false, false, false, false, false, false, false, false, false, false, false] (by kernel_rfl) rfl rfl ⟨(blk_cell BK264.out 0).trans rfl, (blk_cell BK264.out 1).trans rfl, (blk_cell BK264.out 2).trans rfl, hx265_0, hx266_0, hx266_1, hx266_2⟩ (fun hHeld => ?_); refine with_tabW law20_AggEnds.tab15 law20_AggEnds.bits15 (fun HT_ HW_ => ?_)
                          generalize w36.drew = w37 at HO_6 HO_7 HL260_0 BK264 HB HL265_0 HR265_0 hx265_0 hx266_0 hx266_1 hx266_2 hHeld ⊢
                          refine pure_ (i := 0) (N := some 56) (v := ?_) (a' := ?_) #[true, false, false, false, false, false, false, false, false, false, false] rfl rfl (any_of HT_.out (by kernel_rfl)) (fun _ _ _ h => h) (Or.inl ⟨by rfl, ?_⟩) ?_ ?_
                          rotate_left
                          · intro w'
                            go_simp
                            with_reducible rfl
                          rotate_left
                          · simp only [Act.put, List.setIfInBounds_toArray, List.set_cons_zero, List.set_cons_succ, i64_w, i32_w]
                            rfl
                          refine pure_ (i := 1) (N := some 57) (v := ?_) (a' := ?_) #[true, true, false, false, false, false, false, false, false, false, false] rfl rfl (any_of HT_.out (by kernel_rfl)) (fun _ _ _ h => h) (Or.inl ⟨by rfl, ?_⟩) ?_ ?_
                          rotate_left
                          · intro w'
                            go_simp
                            with_reducible rfl
                          rotate_left
                          · simp only [Act.put, List.setIfInBounds_toArray, List.set_cons_zero, List.set_cons_succ, i64_w, i32_w]
                            rfl
                          refine pure_ (i := 3) (N := some 59) (v := ?_) (a' := ?_) #[true, true, false, true, false, false, false, false, false, false, false] rfl rfl (any_of HT_.out (by kernel_rfl)) (fun _ _ _ h => h) (Or.inl ⟨by rfl, ?_⟩) ?_ ?_
                          rotate_left
                          · intro w'
                            go_simp
                            with_reducible rfl
                          rotate_left
                          · simp only [Act.put, List.setIfInBounds_toArray, List.set_cons_zero, List.set_cons_succ, i64_w, i32_w]
                            rfl
                          refine pure_ (i := 4) (N := some 60) (v := ?_) (a' := ?_) #[true, true, false, true, true, false, false, false, false, false, false] rfl rfl (any_of HT_.out (by kernel_rfl)) (fun _ _ _ h => h) (Or.inl ⟨by rfl, ?_⟩) ?_ ?_
                          rotate_left
                          · intro w'
                            go_simp
                            with_reducible rfl
                          rotate_left
                          · simp only [Act.put, List.setIfInBounds_toArray, List.set_cons_zero, List.set_cons_succ, i64_w, i32_w]
                            rfl
                          refine take_ (i := 2) (N := some 58) (v := ?_) (a' := ?_) #[true, true, true, true, true, false, false, false, false, false, false] rfl rfl (take_ofW HT_.out HW_.out (by kernel_rfl)) (fun _ _ _ h => h) (Or.inl ⟨by rfl, ?_⟩) hHeld ?_ ?_
                          rotate_left
                          · rintro w' ⟨s0, s1, s2, s3, s4, s5, s6⟩
                            go_simp
                            with_reducible rfl
                          rotate_left
                          · simp only [Act.put, List.setIfInBounds_toArray, List.set_cons_zero, List.set_cons_succ, i64_w, i32_w]
                            rfl
                          refine take_ (i := 5) (N := some 61) (v := ?_) (a' := ?_) #[true, true, true, true, true, true, false, false, false, false, false] rfl rfl (take_ofW HT_.out HW_.out (by kernel_rfl)) (fun _ _ _ h => h) (Or.inl ⟨by rfl, ?_⟩) hHeld ?_ ?_
                          rotate_left
                          · rintro w' ⟨s0, s1, s2, s3, s4, s5, s6⟩
                            go_simp
                            with_reducible rfl
                          rotate_left
                          · simp only [Act.put, List.setIfInBounds_toArray, List.set_cons_zero, List.set_cons_succ, i64_w, i32_w]
                            rfl
                          refine pure_ (i := 6) (N := some 62) (v := ?_) (a' := ?_) #[true, true, true, true, true, true, true, false, false, false, false] rfl rfl (any_of HT_.out (by kernel_rfl)) (fun _ _ _ h => h) (Or.inl ⟨by rfl, ?_⟩) ?_ ?_
                          rotate_left
                          · intro w'
                            go_simp
                            with_reducible rfl
                          rotate_left
                          · simp only [Act.put, List.setIfInBounds_toArray, List.set_cons_zero, List.set_cons_succ, i64_w, i32_w]
                            rfl
                          refine take_ (i := 7) (N := some 63) (v := ?_) (a' := ?_) #[true, true, true, true, true, true, true, true, false, false, false] rfl rfl (take_ofW HT_.out HW_.out (by kernel_rfl)) (fun _ _ _ h => h) (Or.inl ⟨by rfl, ?_⟩) hHeld ?_ ?_
                          rotate_left
                          · rintro w' ⟨s0, s1, s2, s3, s4, s5, s6⟩
                            go_simp
                            with_reducible rfl
                          rotate_left
                          · simp only [Act.put, List.setIfInBounds_toArray, List.set_cons_zero, List.set_cons_succ, i64_w, i32_w]
                            rfl
                          refine pure_ (i := 8) (N := some 64) (v := ?_) (a' := ?_) #[true, true, true, true, true, true, true, true, true, false, false] rfl rfl (any_of HT_.out (by kernel_rfl)) (fun _ _ _ h => h) (Or.inl ⟨by rfl, ?_⟩) ?_ ?_
                          rotate_left
                          · intro w'
                            go_simp
                            with_reducible rfl
                          rotate_left
                          · simp only [Act.put, List.setIfInBounds_toArray, List.set_cons_zero, List.set_cons_succ, i64_w, i32_w]
                            rfl
                          refine pure_ (i := 9) (N := some 65) (v := ?_) (a' := ?_) #[true, true, true, true, true, true, true, true, true, true, false] rfl rfl (any_of HT_.out (by kernel_rfl)) (fun _ _ _ h => h) (Or.inl ⟨by rfl, ?_⟩) ?_ ?_
                          rotate_left
                          · intro w'
                            go_simp
                            with_reducible rfl
                          rotate_left
                          · simp only [Act.put, List.setIfInBounds_toArray, List.set_cons_zero, List.set_cons_succ, i64_w, i32_w]
                            rfl
                          refine pure_ (i := 10) (N := some 9) (v := ?_) (a' := ?_) #[true, true, true, true, true, true, true, true, true, true, true] rfl rfl (any_of HT_.out (by kernel_rfl)) (fun _ _ _ h => h) (Or.inl ⟨by rfl, ?_⟩) ?_ ?_
                          rotate_left
                          · intro w'
                            go_simp
                            with_reducible rfl
                          rotate_left
                          · simp only [Act.put, List.setIfInBounds_toArray, List.set_cons_zero, List.set_cons_succ, i64_w, i32_w]
                            rfl
                          refine done_ (done_of HT_.out (by kernel_rfl)) ?_
                          try go_wp2
                          go_meet
                          case rel => exact ⟨_, ((t261 == ((rd_T39 (rd_L3 t251 0) 0).f0) && (t262 == ((rd_T39 (rd_L3 t251 0) 0).f1) && (t263.toList == (((rd_T39 (rd_L3 t251 0) 0).f2).toList))))), (by first | rfl | (simp; done) | (simp [*]; done)), H', ⟨by have := HJ5.out; have := HK2.out; first | omega | exact Nat.le_refl _⟩, ⟨by (with_reducible repeat (first | apply Kd.N_alloc | apply Kd.N_drewN | apply Kd.N_drew)); exact HO_6.out⟩, ⟨by (with_reducible repeat (first | apply Kd.N_alloc | apply Kd.N_drewN | apply Kd.N_drew)); exact HO_7.out⟩, ⟨by (with_reducible repeat (first | refine blk_drewN ?_ _ | refine blk_drew ?_ | refine blk_alloc ?_ _)); exact BK264.out⟩, ⟨by repeat (first | (with_reducible first | exact HB.out | apply below_alloc | apply pw_below_drewN | apply below_drew1 | refine below_set ?_ GE264.out) | exact HB.out)⟩⟩
                        · rw [if_neg c35] at H
                          exact absurd H (by simp)
                      · rw [if_neg c34] at H
                        exact absurd H (by simp)
                  case rest =>
                    clear HC27
                    try clear c1
                    try clear c2
                    try clear p2
                    try clear q2
                    try clear hx2
                    try clear qi2
                    try clear c3
                    try clear p6
                    try clear c7
                    try clear c9
                    try clear c11
                    try clear c12
                    try clear c14
                    try clear c14b0
                    try clear c14b1
                    try clear c15
                    try clear c15b0
                    try clear c15b1
                    try clear c16
                    try clear c16b0
                    try clear c16b1
                    try clear c19
                    try clear c20
                    try clear c20b0
                    try clear c21
                    try clear c21b0
                    try clear c23
                    try clear c23b0
                    try clear c23b1
                    try clear c25
                    try clear p25
                    try clear q25
                    try clear hx25
                    try clear qi25
                    try clear c26
                    try clear p26
                    try clear q26
                    try clear hx26
                    try clear qi26
                    try clear c31
                    try clear c34
                    try clear c34b0
                    try clear c34b1
                    try clear c35
                    try clear c35b0
                    try clear c35b1
                    try clear hcz26_0
                    try clear hcz26_1
                    try clear hcz26_2
                    try clear hcz30_0
                    try clear hcz30_1
                    try clear hcz30_2
                    try clear hfz26_0
                    try clear hfz26_1
                    try clear hfz26_2
                    try clear hfz30_0
                    try clear hfz30_1
                    try clear hfz30_2
                    try clear hx255_0
                    try clear hx260_0
                    try clear hx265_0
                    try clear hx266_0
                    try clear hx266_1
                    try clear hx266_2
                    try clear p2
                    try clear p255
                    try clear p260
                    try clear p265
                    try clear p266
                    try clear q2
                    try clear q255
                    try clear q260
                    try clear q265
                    try clear q266
                    obtain ⟨kq, x9_26, rfl, HA, HJ26, HO_6, HO_7, BK264, HB⟩ := hcut
                    cases kq with
                    | zero => exact absurd HA.out (by simp [law20_AggEnds.j2])
                    | succ kj26 =>
                      have H := HA.out
                      clear HA
                      simp only [law20_AggEnds.j2] at H
                      have HC39 := Aside0.mk H
                      clear H
                      go_upto_region 16 with (fail)
                      go_cut [10] (fun v10 wc => ∃ (kq : Nat) (x10_38 : Bool), v10 = .bool x10_38 ∧ Aside0 (law20_AggEnds.j3 kq a1 t244 t245 t251 x9_26 x10_38 true x12_2 t261 t262 t263 = some r) ∧ Aside0 (kq ≤ kj26) ∧ Aside0 (Kd.N (Kd.slice 39 k39) 32 wc w.heap.size (fun k_ => some k_ ≠ (v253 : Value).ownBlock ∧ k_ ≠ gb264) (.slice (some ad260) t245.length co11) t245) ∧ Aside0 (Kd.N (Kd.slice 39 k39) 32 wc w.heap.size (fun k_ => some k_ ≠ ((.slice (some ad260) t245.length co11) : Value).ownBlock ∧ k_ ≠ gb264) v253 t251) ∧ Aside0 (wc.heap[gb264]? = some (.cells #[.int .i64 t261, .int .i64 t262, .string t263] 39 (0, 0))) ∧ Aside0 (Below w.heap.size w wc))
                      case first =>
                        have H := HC39.out
                        clear HC39
                        by_cases c40 : x10_2 = true
                        · subst c40
                          have H1 : (law20_AggEnds.j3 kj26 a1 t244 t245 t251 x9_26 true true x12_2 t261 t262 t263) = some r := by rw [if_pos rfl] at H; exact H
                          clear H
                          have H := H1
                          clear H1
                          have H' := Aside0.mk H
                          clear H
                          try go_wp2
                          have n0_ := Aside0.mk (Kd.N_drew HO_6.out)
                          have n1_ := Aside0.mk (Kd.N_drew HO_7.out)
                          have n2_ := Aside0.mk (blk_drew BK264.out)
                          have n3_ := Aside0.mk (below_drew1 HB.out)
                          clear HO_6
                          clear HO_7
                          clear BK264
                          clear HB
                          have HO_6 := n0_
                          have HO_7 := n1_
                          have BK264 := n2_
                          have HB := n3_
                          clear n0_ n1_ n2_ n3_
                          refine start_ (n := 11) (S := fun w' => True) (ds := []) #[false, false, false, false, false, false, false, false, false, false, false] (by kernel_rfl) rfl rfl trivial (fun hHeld => ?_); refine with_tabW law20_AggEnds.tab16 law20_AggEnds.bits16 (fun HT_ HW_ => ?_)
                          generalize wc.drew = w41 at HO_6 HO_7 BK264 HB hHeld ⊢
                          refine pure_ (i := 0) (N := some 66) (v := ?_) (a' := ?_) #[true, false, false, false, false, false, false, false, false, false, false] rfl rfl (any_of HT_.out (by kernel_rfl)) (fun _ _ _ h => h) (Or.inl ⟨by rfl, ?_⟩) ?_ ?_
                          rotate_left
                          · intro w'
                            go_simp
                            with_reducible rfl
                          rotate_left
                          · simp only [Act.put, List.setIfInBounds_toArray, List.set_cons_zero, List.set_cons_succ, i64_w, i32_w]
                            rfl
                          refine pure_ (i := 1) (N := some 67) (v := ?_) (a' := ?_) #[true, true, false, false, false, false, false, false, false, false, false] rfl rfl (any_of HT_.out (by kernel_rfl)) (fun _ _ _ h => h) (Or.inl ⟨by rfl, ?_⟩) ?_ ?_
                          rotate_left
                          · intro w'
                            go_simp
                            with_reducible rfl
                          rotate_left
                          · simp only [Act.put, List.setIfInBounds_toArray, List.set_cons_zero, List.set_cons_succ, i64_w, i32_w]
                            rfl
                          refine pure_ (i := 2) (N := some 68) (v := undef) (a' := ?_) #[true, true, true, false, false, false, false, false, false, false, false] rfl rfl (any_of HT_.out (by kernel_rfl)) (fun _ _ _ h => h) (Or.inr ⟨by rfl, rfl⟩) ?_ ?_
                          rotate_left
                          · simp only [Act.put, List.setIfInBounds_toArray, List.set_cons_zero, List.set_cons_succ, i64_w, i32_w]
                            rfl
                          refine pure_ (i := 3) (N := some 69) (v := undef) (a' := ?_) #[true, true, true, true, false, false, false, false, false, false, false] rfl rfl (any_of HT_.out (by kernel_rfl)) (fun _ _ _ h => h) (Or.inr ⟨by rfl, rfl⟩) ?_ ?_
                          rotate_left
                          · simp only [Act.put, List.setIfInBounds_toArray, List.set_cons_zero, List.set_cons_succ, i64_w, i32_w]
                            rfl
                          refine pure_ (i := 4) (N := some 70) (v := undef) (a' := ?_) #[true, true, true, true, true, false, false, false, false, false, false] rfl rfl (any_of HT_.out (by kernel_rfl)) (fun _ _ _ h => h) (Or.inr ⟨by rfl, rfl⟩) ?_ ?_
                          rotate_left
                          · simp only [Act.put, List.setIfInBounds_toArray, List.set_cons_zero, List.set_cons_succ, i64_w, i32_w]
                            rfl
                          refine pure_ (i := 5) (N := some 71) (v := undef) (a' := ?_) #[true, true, true, true, true, true, false, false, false, false, false] rfl rfl (any_of HT_.out (by kernel_rfl)) (fun _ _ _ h => h) (Or.inr ⟨by rfl, rfl⟩) ?_ ?_
                          rotate_left
                          · simp only [Act.put, List.setIfInBounds_toArray, List.set_cons_zero, List.set_cons_succ, i64_w, i32_w]
                            rfl
                          refine pure_ (i := 6) (N := some 72) (v := undef) (a' := ?_) #[true, true, true, true, true, true, true, false, false, false, false] rfl rfl (any_of HT_.out (by kernel_rfl)) (fun _ _ _ h => h) (Or.inr ⟨by rfl, rfl⟩) ?_ ?_
                          rotate_left
                          · simp only [Act.put, List.setIfInBounds_toArray, List.set_cons_zero, List.set_cons_succ, i64_w, i32_w]
                            rfl
                          refine pure_ (i := 7) (N := some 73) (v := undef) (a' := ?_) #[true, true, true, true, true, true, true, true, false, false, false] rfl rfl (any_of HT_.out (by kernel_rfl)) (fun _ _ _ h => h) (Or.inr ⟨by rfl, rfl⟩) ?_ ?_
                          rotate_left
                          · simp only [Act.put, List.setIfInBounds_toArray, List.set_cons_zero, List.set_cons_succ, i64_w, i32_w]
                            rfl
                          refine pure_ (i := 8) (N := some 74) (v := undef) (a' := ?_) #[true, true, true, true, true, true, true, true, true, false, false] rfl rfl (any_of HT_.out (by kernel_rfl)) (fun _ _ _ h => h) (Or.inr ⟨by rfl, rfl⟩) ?_ ?_
                          rotate_left
                          · simp only [Act.put, List.setIfInBounds_toArray, List.set_cons_zero, List.set_cons_succ, i64_w, i32_w]
                            rfl
                          refine pure_ (i := 9) (N := some 75) (v := ?_) (a' := ?_) #[true, true, true, true, true, true, true, true, true, true, false] rfl rfl (any_of HT_.out (by kernel_rfl)) (fun _ _ _ h => h) (Or.inl ⟨by rfl, ?_⟩) ?_ ?_
                          rotate_left
                          · intro w'
                            go_simp
                            with_reducible rfl
                          rotate_left
                          · simp only [Act.put, List.setIfInBounds_toArray, List.set_cons_zero, List.set_cons_succ, i64_w, i32_w]
                            rfl
                          refine pure_ (i := 10) (N := some 10) (v := ?_) (a' := ?_) #[true, true, true, true, true, true, true, true, true, true, true] rfl rfl (any_of HT_.out (by kernel_rfl)) (fun _ _ _ h => h) (Or.inl ⟨by rfl, ?_⟩) ?_ ?_
                          rotate_left
                          · intro w'
                            go_simp
                            with_reducible rfl
                          rotate_left
                          · simp only [Act.put, List.setIfInBounds_toArray, List.set_cons_zero, List.set_cons_succ, i64_w, i32_w]
                            rfl
                          refine done_ (done_of HT_.out (by kernel_rfl)) ?_
                          try go_wp2
                          go_meet
                          case rel => exact ⟨_, (true), (by first | rfl | (simp; done) | (simp [*]; done)), H', ⟨by have := HJ5.out; have := HK2.out; have := HJ26.out; first | omega | exact Nat.le_refl _⟩, ⟨by (with_reducible repeat (first | apply Kd.N_alloc | apply Kd.N_drewN | apply Kd.N_drew)); exact HO_6.out⟩, ⟨by (with_reducible repeat (first | apply Kd.N_alloc | apply Kd.N_drewN | apply Kd.N_drew)); exact HO_7.out⟩, ⟨by (with_reducible repeat (first | refine blk_drewN ?_ _ | refine blk_drew ?_ | refine blk_alloc ?_ _)); exact BK264.out⟩, ⟨by repeat (first | (with_reducible first | exact HB.out | apply below_alloc | apply pw_below_drewN | apply below_drew1 | refine below_set ?_ GE264.out) | exact HB.out)⟩⟩
                        · replace c40 := Bool.eq_false_iff.mpr c40
                          subst c40
                          have H1 : (if 0 < (t251.length : Int) then (if 1 < ((rd_L3 t251 0).length : Int) then (law20_AggEnds.j3 kj26 a1 t244 t245 t251 x9_26 (t261 == ((rd_T39 (rd_L3 t251 0) 1).f0) && (t262 == ((rd_T39 (rd_L3 t251 0) 1).f1) && (t263.toList == (((rd_T39 (rd_L3 t251 0) 1).f2).toList)))) true x12_2 t261 t262 t263) else (none)) else (none)) = some r := by rw [if_neg (show ¬ (false = true) by decide)] at H; exact H
                          clear H
                          have H := H1
                          clear H1
                          by_cases c42 : 0 < (t251.length : Int)
                          · rw [if_pos c42] at H
                            have c42b0 : decide (0 < (t251.length : Int)) = true := decide_eq_true c42
                            (try (have c42b0q_hl255_0 := c42b0; rw [hl255_0] at c42b0q_hl255_0))
                            (try (have c42b0q_hl260_0 := c42b0; rw [hl260_0] at c42b0q_hl260_0))
                            (try (have c42b0q_hl265_0 := c42b0; rw [hl265_0] at c42b0q_hl265_0))
                            have c42b1 : decide (0 < t251.length) = true := decide_eq_true (by omega)
                            (try (have c42b1q_hl255_0 := c42b1; rw [hl255_0] at c42b1q_hl255_0))
                            (try (have c42b1q_hl260_0 := c42b1; rw [hl260_0] at c42b1q_hl260_0))
                            (try (have c42b1q_hl265_0 := c42b1; rw [hl265_0] at c42b1q_hl265_0))
                            clear c42
                            (first | rw [c42b0] | (simp only [i64_w, i32_w]; rw [c42b0]) | skip)
                            by_cases c43 : 1 < ((rd_L3 t251 0).length : Int)
                            · rw [if_pos c43] at H
                              have c43b0 : decide (1 < ((rd_L3 t251 0).length : Int)) = true := decide_eq_true c43
                              (try (have c43b0q_hl255_0 := c43b0; rw [hl255_0] at c43b0q_hl255_0))
                              (try (have c43b0q_hl260_0 := c43b0; rw [hl260_0] at c43b0q_hl260_0))
                              (try (have c43b0q_hl265_0 := c43b0; rw [hl265_0] at c43b0q_hl265_0))
                              have c43b1 : decide (1 < (rd_L3 t251 0).length) = true := decide_eq_true (by omega)
                              (try (have c43b1q_hl255_0 := c43b1; rw [hl255_0] at c43b1q_hl255_0))
                              (try (have c43b1q_hl260_0 := c43b1; rw [hl260_0] at c43b1q_hl260_0))
                              (try (have c43b1q_hl265_0 := c43b1; rw [hl265_0] at c43b1q_hl265_0))
                              clear c43
                              have H' := Aside0.mk H
                              clear H
                              try go_wp2
                              have n0_ := Aside0.mk (Kd.N_drew HO_6.out)
                              have n1_ := Aside0.mk (Kd.N_drew HO_7.out)
                              have n2_ := Aside0.mk (blk_drew BK264.out)
                              have n3_ := Aside0.mk (below_drew1 HB.out)
                              clear HO_6
                              clear HO_7
                              clear BK264
                              clear HB
                              have HO_6 := n0_
                              have HO_7 := n1_
                              have BK264 := n2_
                              have HB := n3_
                              clear n0_ n1_ n2_ n3_
                              obtain ⟨Ao45, co45, eo45⟩ := Kd.N_slice HO_7.out
                              (first | subst eo45 | (injection eo45 with f1_ f2_ f3_; have f4_ := f1_.symm; have f5_ := f3_.symm; clear f1_ f2_ f3_; subst f4_; subst f5_))
                              have p267 : 0 ≤ (0 : Int) := (by omega)
                              have q267 : 0 < (t251.length : Int) := of_decide_eq_true (by first | (with_reducible assumption) | assumption)
                              obtain ⟨ad267, A267_0, c267_0, e267, hx267_0, hl267_0, hi267_0⟩ := at_L3 (Kd.N_reads' HO_7.out).2.2 0 p267 q267
                              cases e267
                              obtain ⟨ce267, hce267, hMe267, hcc267⟩ := Kd.N_get HO_7.out [] 0 p267 (by first | exact q267 | exact of_decide_eq_true (by first | (with_reducible assumption) | assumption) | (have e_ := (Kd.N_reads' HO_7.out).1; omega))
                              obtain ⟨ua267_0, uc267_0, rfl, ul267_0, ge267_0⟩ := Kd.FK_slice_open hMe267
                              have hv267_0 := hcc267 0 _ rfl
                              rw [Nat.add_zero, show ((Kd.slice 39 k39)).sz = 1 from rfl, Nat.mul_one] at hv267_0
                              replace hv267_0 := Option.some.inj (hv267_0.symm.trans hx267_0)
                              injection hv267_0 with hva_ hvn_ hvc_
                              rw [hva_] at ge267_0
                              rw [hvc_] at ul267_0
                              have HL267_0 := Aside0.mk (show Kd.V k39 39 _ w.heap.size _ _ (rd_L3 t251 0) from Kd.V_mk ul267_0 ge267_0)
                              clear hva_ hvn_ hvc_ ge267_0 ul267_0
                              clear hcc267 hce267
                              have qi267 : (0 < t251.length) = True := eq_true (by omega)
                              (try rw [show ((0 : Int)).toNat = 0 from rfl] at hx267_0)
                              (try rw [Addr.add_zero'] at hx267_0)
                              have HR267_0 := Aside0.mk hi267_0
                              have HC267_0 := Aside0.mk hl267_0
                              clear hi267_0 hl267_0
                              replace p267 := eq_true p267
                              replace q267 := eq_true q267
                              have p268 : 0 ≤ (1 : Int) := (by omega)
                              have q268 : 1 < ((rd_L3 t251 0).length : Int) := of_decide_eq_true (by first | (with_reducible assumption) | assumption)
                              obtain ⟨ad268, e268, hx268_0, hx268_1, hx268_2⟩ := at_T39 (by repeat (first | (with_reducible exact HR267_0.out) | (with_reducible refine Kd.C_alloc ?_ _) | (with_reducible refine Kd.C_drewN ?_ _) | (with_reducible refine Kd.C_drew ?_) | exact HR267_0.out)) 1 p268 q268
                              cases e268
                              (try simp only [show (1 : Int).toNat = 1 from rfl, Nat.reduceMul, Nat.reduceEqDiff, Go.Addr.add, ↓reduceIte] at hx268_0)
                              (try simp only [show (1 : Int).toNat = 1 from rfl, Nat.reduceMul, Nat.reduceEqDiff, Go.Addr.add, ↓reduceIte] at hx268_1)
                              (try simp only [show (1 : Int).toNat = 1 from rfl, Nat.reduceMul, Nat.reduceEqDiff, Go.Addr.add, ↓reduceIte] at hx268_2)
                              have qi268 : (1 < (rd_L3 t251 0).length) = True := eq_true (by omega)
                              (try rw [show ((1 : Int)).toNat = 1 from rfl] at hx268_0)
                              (try rw [show 1 * 3 = 3 from rfl] at hx268_0)
                              (try rw [show ((1 : Int)).toNat = 1 from rfl] at hx268_1)
                              (try rw [show 1 * 3 = 3 from rfl] at hx268_1)
                              (try rw [show ((1 : Int)).toNat = 1 from rfl] at hx268_2)
                              (try rw [show 1 * 3 = 3 from rfl] at hx268_2)
                              replace p268 := eq_true p268
                              replace q268 := eq_true q268
                              refine start_ (n := 11) (S := fun w' => w'.cell? ⟨gb264, 0, none⟩ = some (.int .i64 t261) ∧ w'.cell? ⟨gb264, 1, none⟩ = some (.int .i64 t262) ∧ w'.cell? ⟨gb264, 2, none⟩ = some (.string t263) ∧ w'.cell? ad267 = some (.slice (some ad268) (rd_L3 t251 0).length c267_0) ∧ w'.cell? ⟨ad268.block, ad268.off + 3, none⟩ = some (.int .i64 ((rd_T39 (rd_L3 t251 0) 1).f0)) ∧ w'.cell? ⟨ad268.block, ad268.off + 3 + 1, none⟩ = some (.int .i64 ((rd_T39 (rd_L3 t251 0) 1).f1)) ∧ w'.cell? ⟨ad268.block, ad268.off + 3 + 2, none⟩ = some (.string ((rd_T39 (rd_L3 t251 0) 1).f2))) (ds := []) #[false, false, false, false, false, false, false, false, false, false, false] (by kernel_rfl) rfl rfl ⟨(blk_cell BK264.out 0).trans rfl, (blk_cell BK264.out 1).trans rfl, (blk_cell BK264.out 2).trans rfl, hx267_0, hx268_0, hx268_1, hx268_2⟩ (fun hHeld => ?_); refine with_tabW law20_AggEnds.tab16 law20_AggEnds.bits16 (fun HT_ HW_ => ?_)
                              generalize wc.drew = w44 at HO_6 HO_7 BK264 HB HL267_0 HR267_0 hx267_0 hx268_0 hx268_1 hx268_2 hHeld ⊢
                              refine pure_ (i := 0) (N := some 66) (v := ?_) (a' := ?_) #[true, false, false, false, false, false, false, false, false, false, false] rfl rfl (any_of HT_.out (by kernel_rfl)) (fun _ _ _ h => h) (Or.inl ⟨by rfl, ?_⟩) ?_ ?_
                              rotate_left
                              · intro w'
                                go_simp
                                with_reducible rfl
                              rotate_left
                              · simp only [Act.put, List.setIfInBounds_toArray, List.set_cons_zero, List.set_cons_succ, i64_w, i32_w]
                                rfl
                              refine pure_ (i := 1) (N := some 67) (v := ?_) (a' := ?_) #[true, true, false, false, false, false, false, false, false, false, false] rfl rfl (any_of HT_.out (by kernel_rfl)) (fun _ _ _ h => h) (Or.inl ⟨by rfl, ?_⟩) ?_ ?_
                              rotate_left
                              · intro w'
                                go_simp
                                with_reducible rfl
                              rotate_left
                              · simp only [Act.put, List.setIfInBounds_toArray, List.set_cons_zero, List.set_cons_succ, i64_w, i32_w]
                                rfl
                              refine pure_ (i := 3) (N := some 69) (v := ?_) (a' := ?_) #[true, true, false, true, false, false, false, false, false, false, false] rfl rfl (any_of HT_.out (by kernel_rfl)) (fun _ _ _ h => h) (Or.inl ⟨by rfl, ?_⟩) ?_ ?_
                              rotate_left
                              · intro w'
                                go_simp
                                with_reducible rfl
                              rotate_left
                              · simp only [Act.put, List.setIfInBounds_toArray, List.set_cons_zero, List.set_cons_succ, i64_w, i32_w]
                                rfl
                              refine pure_ (i := 4) (N := some 70) (v := ?_) (a' := ?_) #[true, true, false, true, true, false, false, false, false, false, false] rfl rfl (any_of HT_.out (by kernel_rfl)) (fun _ _ _ h => h) (Or.inl ⟨by rfl, ?_⟩) ?_ ?_
                              rotate_left
                              · intro w'
                                go_simp
                                with_reducible rfl
                              rotate_left
                              · simp only [Act.put, List.setIfInBounds_toArray, List.set_cons_zero, List.set_cons_succ, i64_w, i32_w]
                                rfl
                              refine take_ (i := 2) (N := some 68) (v := ?_) (a' := ?_) #[true, true, true, true, true, false, false, false, false, false, false] rfl rfl (take_ofW HT_.out HW_.out (by kernel_rfl)) (fun _ _ _ h => h) (Or.inl ⟨by rfl, ?_⟩) hHeld ?_ ?_
                              rotate_left
                              · rintro w' ⟨s0, s1, s2, s3, s4, s5, s6⟩
                                go_simp
                                with_reducible rfl
                              rotate_left
                              · simp only [Act.put, List.setIfInBounds_toArray, List.set_cons_zero, List.set_cons_succ, i64_w, i32_w]
                                rfl
                              refine take_ (i := 5) (N := some 71) (v := ?_) (a' := ?_) #[true, true, true, true, true, true, false, false, false, false, false] rfl rfl (take_ofW HT_.out HW_.out (by kernel_rfl)) (fun _ _ _ h => h) (Or.inl ⟨by rfl, ?_⟩) hHeld ?_ ?_
                              rotate_left
                              · rintro w' ⟨s0, s1, s2, s3, s4, s5, s6⟩
                                go_simp
                                with_reducible rfl
                              rotate_left
                              · simp only [Act.put, List.setIfInBounds_toArray, List.set_cons_zero, List.set_cons_succ, i64_w, i32_w]
                                rfl
                              refine pure_ (i := 6) (N := some 72) (v := ?_) (a' := ?_) #[true, true, true, true, true, true, true, false, false, false, false] rfl rfl (any_of HT_.out (by kernel_rfl)) (fun _ _ _ h => h) (Or.inl ⟨by rfl, ?_⟩) ?_ ?_
                              rotate_left
                              · intro w'
                                go_simp
                                with_reducible rfl
                              rotate_left
                              · simp only [Act.put, List.setIfInBounds_toArray, List.set_cons_zero, List.set_cons_succ, i64_w, i32_w]
                                rfl
                              refine take_ (i := 7) (N := some 73) (v := ?_) (a' := ?_) #[true, true, true, true, true, true, true, true, false, false, false] rfl rfl (take_ofW HT_.out HW_.out (by kernel_rfl)) (fun _ _ _ h => h) (Or.inl ⟨by rfl, ?_⟩) hHeld ?_ ?_
                              rotate_left
                              · rintro w' ⟨s0, s1, s2, s3, s4, s5, s6⟩
                                go_simp
                                with_reducible rfl
                              rotate_left
                              · simp only [Act.put, List.setIfInBounds_toArray, List.set_cons_zero, List.set_cons_succ, i64_w, i32_w]
                                rfl
                              refine pure_ (i := 8) (N := some 74) (v := ?_) (a' := ?_) #[true, true, true, true, true, true, true, true, true, false, false] rfl rfl (any_of HT_.out (by kernel_rfl)) (fun _ _ _ h => h) (Or.inl ⟨by rfl, ?_⟩) ?_ ?_
                              rotate_left
                              · intro w'
                                go_simp
                                with_reducible rfl
                              rotate_left
                              · simp only [Act.put, List.setIfInBounds_toArray, List.set_cons_zero, List.set_cons_succ, i64_w, i32_w]
                                rfl
                              refine pure_ (i := 9) (N := some 75) (v := ?_) (a' := ?_) #[true, true, true, true, true, true, true, true, true, true, false] rfl rfl (any_of HT_.out (by kernel_rfl)) (fun _ _ _ h => h) (Or.inl ⟨by rfl, ?_⟩) ?_ ?_
                              rotate_left
                              · intro w'
                                go_simp
                                with_reducible rfl
                              rotate_left
                              · simp only [Act.put, List.setIfInBounds_toArray, List.set_cons_zero, List.set_cons_succ, i64_w, i32_w]
                                rfl
                              refine pure_ (i := 10) (N := some 10) (v := ?_) (a' := ?_) #[true, true, true, true, true, true, true, true, true, true, true] rfl rfl (any_of HT_.out (by kernel_rfl)) (fun _ _ _ h => h) (Or.inl ⟨by rfl, ?_⟩) ?_ ?_
                              rotate_left
                              · intro w'
                                go_simp
                                with_reducible rfl
                              rotate_left
                              · simp only [Act.put, List.setIfInBounds_toArray, List.set_cons_zero, List.set_cons_succ, i64_w, i32_w]
                                rfl
                              refine done_ (done_of HT_.out (by kernel_rfl)) ?_
                              try go_wp2
                              go_meet
                              case rel => exact ⟨_, ((t261 == ((rd_T39 (rd_L3 t251 0) 1).f0) && (t262 == ((rd_T39 (rd_L3 t251 0) 1).f1) && (t263.toList == (((rd_T39 (rd_L3 t251 0) 1).f2).toList))))), (by first | rfl | (simp; done) | (simp [*]; done)), H', ⟨by have := HJ5.out; have := HK2.out; have := HJ26.out; first | omega | exact Nat.le_refl _⟩, ⟨by (with_reducible repeat (first | apply Kd.N_alloc | apply Kd.N_drewN | apply Kd.N_drew)); exact HO_6.out⟩, ⟨by (with_reducible repeat (first | apply Kd.N_alloc | apply Kd.N_drewN | apply Kd.N_drew)); exact HO_7.out⟩, ⟨by (with_reducible repeat (first | refine blk_drewN ?_ _ | refine blk_drew ?_ | refine blk_alloc ?_ _)); exact BK264.out⟩, ⟨by repeat (first | (with_reducible first | exact HB.out | apply below_alloc | apply pw_below_drewN | apply below_drew1 | refine below_set ?_ GE264.out) | exact HB.out)⟩⟩
                            · rw [if_neg c43] at H
                              exact absurd H (by simp)
                          · rw [if_neg c42] at H
                            exact absurd H (by simp)
                      case rest =>
                        clear HC39
                        try clear c1
                        try clear c2
                        try clear p2
                        try clear q2
                        try clear hx2
                        try clear qi2
                        try clear c3
                        try clear c4
                        try clear p6
                        try clear c7
                        try clear c9
                        try clear c11
                        try clear c12
                        try clear c14
                        try clear c14b0
                        try clear c14b1
                        try clear c15
                        try clear c15b0
                        try clear c15b1
                        try clear c16
                        try clear c16b0
                        try clear c16b1
                        try clear c19
                        try clear c20
                        try clear c20b0
                        try clear c21
                        try clear c21b0
                        try clear c23
                        try clear c23b0
                        try clear c23b1
                        try clear c25
                        try clear p25
                        try clear q25
                        try clear hx25
                        try clear qi25
                        try clear c26
                        try clear p26
                        try clear q26
                        try clear hx26
                        try clear qi26
                        try clear c31
                        try clear c34
                        try clear c34b0
                        try clear c34b1
                        try clear c35
                        try clear c35b0
                        try clear c35b1
                        try clear c40
                        try clear c42
                        try clear c42b0
                        try clear c42b1
                        try clear c43
                        try clear c43b0
                        try clear c43b1
                        try clear hcz26_0
                        try clear hcz26_1
                        try clear hcz26_2
                        try clear hcz30_0
                        try clear hcz30_1
                        try clear hcz30_2
                        try clear hfz26_0
                        try clear hfz26_1
                        try clear hfz26_2
                        try clear hfz30_0
                        try clear hfz30_1
                        try clear hfz30_2
                        try clear hx255_0
                        try clear hx260_0
                        try clear hx265_0
                        try clear hx266_0
                        try clear hx266_1
                        try clear hx266_2
                        try clear hx267_0
                        try clear hx268_0
                        try clear hx268_1
                        try clear hx268_2
                        try clear p2
                        try clear p25
                        try clear p255
                        try clear p26
                        try clear p260
                        try clear p265
                        try clear p266
                        try clear p267
                        try clear p268
                        try clear p6
                        try clear q2
                        try clear q25
                        try clear q255
                        try clear q26
                        try clear q260
                        try clear q265
                        try clear q266
                        try clear q267
                        try clear q268
                        obtain ⟨kq, x10_38, rfl, HA, HJ38, HO_6, HO_7, BK264, HB⟩ := hcut
                        cases kq with
                        | zero => exact absurd HA.out (by simp [law20_AggEnds.j3])
                        | succ kj38 =>
                          have H := HA.out
                          clear HA
                          simp only [law20_AggEnds.j3] at H
                          by_cases c46 : 0 < (t251.length : Int)
                          · rw [if_pos c46] at H
                            have c46b0 : decide (0 < (t251.length : Int)) = true := decide_eq_true c46
                            (try (have c46b0q_hl255_0 := c46b0; rw [hl255_0] at c46b0q_hl255_0))
                            (try (have c46b0q_hl260_0 := c46b0; rw [hl260_0] at c46b0q_hl260_0))
                            (try (have c46b0q_hl265_0 := c46b0; rw [hl265_0] at c46b0q_hl265_0))
                            (try (have c46b0q_hl267_0 := c46b0; rw [hl267_0] at c46b0q_hl267_0))
                            have c46b1 : decide (0 < t251.length) = true := decide_eq_true (by omega)
                            (try (have c46b1q_hl255_0 := c46b1; rw [hl255_0] at c46b1q_hl255_0))
                            (try (have c46b1q_hl260_0 := c46b1; rw [hl260_0] at c46b1q_hl260_0))
                            (try (have c46b1q_hl265_0 := c46b1; rw [hl265_0] at c46b1q_hl265_0))
                            (try (have c46b1q_hl267_0 := c46b1; rw [hl267_0] at c46b1q_hl267_0))
                            clear c46
                            by_cases c47 : 0 < ((rd_L3 t251 0).length : Int)
                            · rw [if_pos c47] at H
                              have c47b0 : decide (0 < ((rd_L3 t251 0).length : Int)) = true := decide_eq_true c47
                              (try (have c47b0q_hl255_0 := c47b0; rw [hl255_0] at c47b0q_hl255_0))
                              (try (have c47b0q_hl260_0 := c47b0; rw [hl260_0] at c47b0q_hl260_0))
                              (try (have c47b0q_hl265_0 := c47b0; rw [hl265_0] at c47b0q_hl265_0))
                              (try (have c47b0q_hl267_0 := c47b0; rw [hl267_0] at c47b0q_hl267_0))
                              have c47b1 : decide (0 < (rd_L3 t251 0).length) = true := decide_eq_true (by omega)
                              (try (have c47b1q_hl255_0 := c47b1; rw [hl255_0] at c47b1q_hl255_0))
                              (try (have c47b1q_hl260_0 := c47b1; rw [hl260_0] at c47b1q_hl260_0))
                              (try (have c47b1q_hl265_0 := c47b1; rw [hl265_0] at c47b1q_hl265_0))
                              (try (have c47b1q_hl267_0 := c47b1; rw [hl267_0] at c47b1q_hl267_0))
                              clear c47
                              replace H := Option.bind_eq_some_iff.mp H
                              obtain ⟨t271, A480, H⟩ := H
                              replace H : (if t271 < 0 then (some false) else (if 1 < ((rd_L3 t251 0).length : Int) then ((ref05_Compare.f kj38 t261 t262 t263 ((rd_T39 (rd_L3 t251 0) 1).f0) ((rd_T39 (rd_L3 t251 0) 1).f1) ((rd_T39 (rd_L3 t251 0) 1).f2)).bind fun t274 => (if t274 > 0 then (some false) else (law20_AggEnds.l0 kj38 a1 t244 t245 t251 x9_26 x10_38 true (wrap64 (x12_2 + 1))))) else (none))) = some r := H
                              have A48 := Aside0.mk A480
                              clear A480
                              by_cases c49 : t271 < 0
                              · rw [if_pos c49] at H
                                have c49b0 : decide (t271 < 0) = true := decide_eq_true c49
                                clear c49
                                exact absurd ((Option.some.inj H).trans hr_.out) (by decide)
                              · rw [if_neg c49] at H
                                have c49b0 : decide (t271 < 0) = false := decide_eq_false c49
                                clear c49
                                by_cases c50 : 1 < ((rd_L3 t251 0).length : Int)
                                · rw [if_pos c50] at H
                                  have c50b0 : decide (1 < ((rd_L3 t251 0).length : Int)) = true := decide_eq_true c50
                                  (try (have c50b0q_hl255_0 := c50b0; rw [hl255_0] at c50b0q_hl255_0))
                                  (try (have c50b0q_hl260_0 := c50b0; rw [hl260_0] at c50b0q_hl260_0))
                                  (try (have c50b0q_hl265_0 := c50b0; rw [hl265_0] at c50b0q_hl265_0))
                                  (try (have c50b0q_hl267_0 := c50b0; rw [hl267_0] at c50b0q_hl267_0))
                                  have c50b1 : decide (1 < (rd_L3 t251 0).length) = true := decide_eq_true (by omega)
                                  (try (have c50b1q_hl255_0 := c50b1; rw [hl255_0] at c50b1q_hl255_0))
                                  (try (have c50b1q_hl260_0 := c50b1; rw [hl260_0] at c50b1q_hl260_0))
                                  (try (have c50b1q_hl265_0 := c50b1; rw [hl265_0] at c50b1q_hl265_0))
                                  (try (have c50b1q_hl267_0 := c50b1; rw [hl267_0] at c50b1q_hl267_0))
                                  clear c50
                                  replace H := Option.bind_eq_some_iff.mp H
                                  obtain ⟨t274, A510, H⟩ := H
                                  replace H : (if t274 > 0 then (some false) else (law20_AggEnds.l0 kj38 a1 t244 t245 t251 x9_26 x10_38 true (wrap64 (x12_2 + 1)))) = some r := H
                                  have A51 := Aside0.mk A510
                                  clear A510
                                  by_cases c52 : t274 > 0
                                  · rw [if_pos c52] at H
                                    have c52b0 : decide (0 < t274) = true := decide_eq_true c52
                                    clear c52
                                    exact absurd ((Option.some.inj H).trans hr_.out) (by decide)
                                  · rw [if_neg c52] at H
                                    have c52b0 : decide (0 < t274) = false := decide_eq_false c52
                                    clear c52
                                    have H' := Aside0.mk H
                                    clear H
                                    try go_wp2
                                    have n0_ := Aside0.mk (Kd.N_drew HO_6.out)
                                    have n1_ := Aside0.mk (Kd.N_drew HO_7.out)
                                    have n2_ := Aside0.mk (blk_drew BK264.out)
                                    have n3_ := Aside0.mk (below_drew1 HB.out)
                                    clear HO_6
                                    clear HO_7
                                    clear BK264
                                    clear HB
                                    have HO_6 := n0_
                                    have HO_7 := n1_
                                    have BK264 := n2_
                                    have HB := n3_
                                    clear n0_ n1_ n2_ n3_
                                    obtain ⟨Ao54, co54, eo54⟩ := Kd.N_slice HO_7.out
                                    (first | subst eo54 | (injection eo54 with f1_ f2_ f3_; have f4_ := f1_.symm; have f5_ := f3_.symm; clear f1_ f2_ f3_; subst f4_; subst f5_))
                                    have p269 : 0 ≤ (0 : Int) := (by omega)
                                    have q269 : 0 < (t251.length : Int) := of_decide_eq_true (by first | (with_reducible assumption) | assumption)
                                    obtain ⟨ad269, A269_0, c269_0, e269, hx269_0, hl269_0, hi269_0⟩ := at_L3 (Kd.N_reads' HO_7.out).2.2 0 p269 q269
                                    cases e269
                                    obtain ⟨ce269, hce269, hMe269, hcc269⟩ := Kd.N_get HO_7.out [] 0 p269 (by first | exact q269 | exact of_decide_eq_true (by first | (with_reducible assumption) | assumption) | (have e_ := (Kd.N_reads' HO_7.out).1; omega))
                                    obtain ⟨ua269_0, uc269_0, rfl, ul269_0, ge269_0⟩ := Kd.FK_slice_open hMe269
                                    have hv269_0 := hcc269 0 _ rfl
                                    rw [Nat.add_zero, show ((Kd.slice 39 k39)).sz = 1 from rfl, Nat.mul_one] at hv269_0
                                    replace hv269_0 := Option.some.inj (hv269_0.symm.trans hx269_0)
                                    injection hv269_0 with hva_ hvn_ hvc_
                                    rw [hva_] at ge269_0
                                    rw [hvc_] at ul269_0
                                    have HL269_0 := Aside0.mk (show Kd.V k39 39 _ w.heap.size _ _ (rd_L3 t251 0) from Kd.V_mk ul269_0 ge269_0)
                                    clear hva_ hvn_ hvc_ ge269_0 ul269_0
                                    clear hcc269 hce269
                                    have qi269 : (0 < t251.length) = True := eq_true (by omega)
                                    (try rw [show ((0 : Int)).toNat = 0 from rfl] at hx269_0)
                                    (try rw [Addr.add_zero'] at hx269_0)
                                    have HR269_0 := Aside0.mk hi269_0
                                    have HC269_0 := Aside0.mk hl269_0
                                    clear hi269_0 hl269_0
                                    replace p269 := eq_true p269
                                    replace q269 := eq_true q269
                                    have p270 : 0 ≤ (0 : Int) := (by omega)
                                    have q270 : 0 < ((rd_L3 t251 0).length : Int) := of_decide_eq_true (by first | (with_reducible assumption) | assumption)
                                    obtain ⟨ad270, e270, hx270_0, hx270_1, hx270_2⟩ := at_T39 (by repeat (first | (with_reducible exact HR269_0.out) | (with_reducible refine Kd.C_alloc ?_ _) | (with_reducible refine Kd.C_drewN ?_ _) | (with_reducible refine Kd.C_drew ?_) | exact HR269_0.out)) 0 p270 q270
                                    cases e270
                                    have qi270 : (0 < (rd_L3 t251 0).length) = True := eq_true (by omega)
                                    (try rw [show ((0 : Int)).toNat = 0 from rfl] at hx270_0)
                                    (try rw [show 0 * 3 = 0 from rfl] at hx270_0)
                                    (try rw [Addr.add_zero'] at hx270_0)
                                    (try rw [show ((0 : Int)).toNat = 0 from rfl] at hx270_1)
                                    (try rw [show 0 * 3 = 0 from rfl] at hx270_1)
                                    (try rw [Addr.add_zero'] at hx270_1)
                                    (try rw [show ((0 : Int)).toNat = 0 from rfl] at hx270_2)
                                    (try rw [show 0 * 3 = 0 from rfl] at hx270_2)
                                    (try rw [Addr.add_zero'] at hx270_2)
                                    replace p270 := eq_true p270
                                    replace q270 := eq_true q270
                                    have p272 : 0 ≤ (0 : Int) := (by omega)
                                    have q272 : 0 < (t251.length : Int) := of_decide_eq_true (by first | (with_reducible assumption) | assumption)
                                    obtain ⟨ad272, A272_0, c272_0, e272, hx272_0, hl272_0, hi272_0⟩ := at_L3 (Kd.N_reads' HO_7.out).2.2 0 p272 q272
                                    obtain rfl : ad269 = ad272 := (by injection e272)
                                    obtain ⟨ce272, hce272, hMe272, hcc272⟩ := Kd.N_get HO_7.out [] 0 p272 (by first | exact q272 | exact of_decide_eq_true (by first | (with_reducible assumption) | assumption) | (have e_ := (Kd.N_reads' HO_7.out).1; omega))
                                    obtain ⟨ua272_0, uc272_0, rfl, ul272_0, ge272_0⟩ := Kd.FK_slice_open hMe272
                                    have hv272_0 := hcc272 0 _ rfl
                                    rw [Nat.add_zero, show ((Kd.slice 39 k39)).sz = 1 from rfl, Nat.mul_one] at hv272_0
                                    replace hv272_0 := Option.some.inj (hv272_0.symm.trans hx272_0)
                                    injection hv272_0 with hva_ hvn_ hvc_
                                    rw [hva_] at ge272_0
                                    rw [hvc_] at ul272_0
                                    have HL272_0 := Aside0.mk (show Kd.V k39 39 _ w.heap.size _ _ (rd_L3 t251 0) from Kd.V_mk ul272_0 ge272_0)
                                    clear hva_ hvn_ hvc_ ge272_0 ul272_0
                                    clear hcc272 hce272
                                    have qi272 : (0 < t251.length) = True := eq_true (by omega)
                                    (try rw [show ((0 : Int)).toNat = 0 from rfl] at hx272_0)
                                    (try rw [Addr.add_zero'] at hx272_0)
                                    have HR272_0 := Aside0.mk hi272_0
                                    have HC272_0 := Aside0.mk hl272_0
                                    clear hi272_0 hl272_0
                                    replace p272 := eq_true p272
                                    replace q272 := eq_true q272
                                    have ea_ := Option.some.inj (hx269_0.symm.trans hx272_0)
                                    injection ea_ with ea_ en_ ec_
                                    subst ea_
                                    subst ec_
                                    clear en_
                                    have p273 : 0 ≤ (1 : Int) := (by omega)
                                    have q273 : 1 < ((rd_L3 t251 0).length : Int) := of_decide_eq_true (by first | (with_reducible assumption) | assumption)
                                    obtain ⟨ad273, e273, hx273_0, hx273_1, hx273_2⟩ := at_T39 (by repeat (first | (with_reducible exact HR272_0.out) | (with_reducible refine Kd.C_alloc ?_ _) | (with_reducible refine Kd.C_drewN ?_ _) | (with_reducible refine Kd.C_drew ?_) | exact HR272_0.out)) 1 p273 q273
                                    cases e273
                                    (try simp only [show (1 : Int).toNat = 1 from rfl, Nat.reduceMul, Nat.reduceEqDiff, Go.Addr.add, ↓reduceIte] at hx273_0)
                                    (try simp only [show (1 : Int).toNat = 1 from rfl, Nat.reduceMul, Nat.reduceEqDiff, Go.Addr.add, ↓reduceIte] at hx273_1)
                                    (try simp only [show (1 : Int).toNat = 1 from rfl, Nat.reduceMul, Nat.reduceEqDiff, Go.Addr.add, ↓reduceIte] at hx273_2)
                                    have qi273 : (1 < (rd_L3 t251 0).length) = True := eq_true (by omega)
                                    (try rw [show ((1 : Int)).toNat = 1 from rfl] at hx273_0)
                                    (try rw [show 1 * 3 = 3 from rfl] at hx273_0)
                                    (try rw [show ((1 : Int)).toNat = 1 from rfl] at hx273_1)
                                    (try rw [show 1 * 3 = 3 from rfl] at hx273_1)
                                    (try rw [show ((1 : Int)).toNat = 1 from rfl] at hx273_2)
                                    (try rw [show 1 * 3 = 3 from rfl] at hx273_2)
                                    replace p273 := eq_true p273
                                    replace q273 := eq_true q273
                                    refine start_ (n := 18) (S := fun w' => w'.cell? ⟨gb264, 0, none⟩ = some (.int .i64 t261) ∧ w'.cell? ⟨gb264, 1, none⟩ = some (.int .i64 t262) ∧ w'.cell? ⟨gb264, 2, none⟩ = some (.string t263) ∧ w'.cell? ad269 = some (.slice (some ad270) (rd_L3 t251 0).length c269_0) ∧ w'.cell? ad270 = some (.int .i64 ((rd_T39 (rd_L3 t251 0) 0).f0)) ∧ w'.cell? ⟨ad270.block, ad270.off + 1, none⟩ = some (.int .i64 ((rd_T39 (rd_L3 t251 0) 0).f1)) ∧ w'.cell? ⟨ad270.block, ad270.off + 2, none⟩ = some (.string ((rd_T39 (rd_L3 t251 0) 0).f2)) ∧ w'.cell? ad269 = some (.slice (some ad270) (rd_L3 t251 0).length c269_0) ∧ w'.cell? ⟨ad270.block, ad270.off + 3, none⟩ = some (.int .i64 ((rd_T39 (rd_L3 t251 0) 1).f0)) ∧ w'.cell? ⟨ad270.block, ad270.off + 3 + 1, none⟩ = some (.int .i64 ((rd_T39 (rd_L3 t251 0) 1).f1)) ∧ w'.cell? ⟨ad270.block, ad270.off + 3 + 2, none⟩ = some (.string ((rd_T39 (rd_L3 t251 0) 1).f2))) (ds := []) #[false, false, false, false, false, false, false, false, false, false, false, false, false, false, false, false, false, false] (by kernel_rfl) rfl rfl ⟨(blk_cell BK264.out 0).trans rfl, (blk_cell BK264.out 1).trans rfl, (blk_cell BK264.out 2).trans rfl, hx269_0, hx270_0, hx270_1, hx270_2, hx272_0, hx273_0, hx273_1, hx273_2⟩ (fun hHeld => ?_); refine with_tabW law20_AggEnds.tab17 law20_AggEnds.bits17 (fun HT_ HW_ => ?_)
                                    generalize wc.drew = w53 at HO_6 HO_7 BK264 HB HL269_0 HL272_0 HR269_0 HR272_0 hx269_0 hx270_0 hx270_1 hx270_2 hx272_0 hx273_0 hx273_1 hx273_2 hHeld ⊢
                                    refine pure_ (i := 1) (N := some 77) (v := ?_) (a' := ?_) #[false, true, false, false, false, false, false, false, false, false, false, false, false, false, false, false, false, false] rfl rfl (any_of HT_.out (by kernel_rfl)) (fun _ _ _ h => h) (Or.inl ⟨by rfl, ?_⟩) ?_ ?_
                                    rotate_left
                                    · intro w'
                                      go_simp
                                      with_reducible rfl
                                    rotate_left
                                    · simp only [Act.put, List.setIfInBounds_toArray, List.set_cons_zero, List.set_cons_succ, i64_w, i32_w]
                                      rfl
                                    refine pure_ (i := 2) (N := some 78) (v := ?_) (a' := ?_) #[false, true, true, false, false, false, false, false, false, false, false, false, false, false, false, false, false, false] rfl rfl (any_of HT_.out (by kernel_rfl)) (fun _ _ _ h => h) (Or.inl ⟨by rfl, ?_⟩) ?_ ?_
                                    rotate_left
                                    · intro w'
                                      go_simp
                                      with_reducible rfl
                                    rotate_left
                                    · simp only [Act.put, List.setIfInBounds_toArray, List.set_cons_zero, List.set_cons_succ, i64_w, i32_w]
                                      rfl
                                    refine take_ (i := 0) (N := some 76) (v := ?_) (a' := ?_) #[true, true, true, false, false, false, false, false, false, false, false, false, false, false, false, false, false, false] rfl rfl (take_ofW HT_.out HW_.out (by kernel_rfl)) (fun _ _ _ h => h) (Or.inl ⟨by rfl, ?_⟩) hHeld ?_ ?_
                                    rotate_left
                                    · rintro w' ⟨s0, s1, s2, s3, s4, s5, s6, s7, s8, s9, s10⟩
                                      go_simp
                                      with_reducible rfl
                                    rotate_left
                                    · simp only [Act.put, List.setIfInBounds_toArray, List.set_cons_zero, List.set_cons_succ, i64_w, i32_w]
                                      rfl
                                    refine take_ (i := 3) (N := some 79) (v := ?_) (a' := ?_) #[true, true, true, true, false, false, false, false, false, false, false, false, false, false, false, false, false, false] rfl rfl (take_ofW HT_.out HW_.out (by kernel_rfl)) (fun _ _ _ h => h) (Or.inl ⟨by rfl, ?_⟩) hHeld ?_ ?_
                                    rotate_left
                                    · rintro w' ⟨s0, s1, s2, s3, s4, s5, s6, s7, s8, s9, s10⟩
                                      go_simp
                                      with_reducible rfl
                                    rotate_left
                                    · simp only [Act.put, List.setIfInBounds_toArray, List.set_cons_zero, List.set_cons_succ, i64_w, i32_w]
                                      rfl
                                    refine pure_ (i := 4) (N := some 80) (v := ?_) (a' := ?_) #[true, true, true, true, true, false, false, false, false, false, false, false, false, false, false, false, false, false] rfl rfl (any_of HT_.out (by kernel_rfl)) (fun _ _ _ h => h) (Or.inl ⟨by rfl, ?_⟩) ?_ ?_
                                    rotate_left
                                    · intro w'
                                      go_simp
                                      with_reducible rfl
                                    rotate_left
                                    · simp only [Act.put, List.setIfInBounds_toArray, List.set_cons_zero, List.set_cons_succ, i64_w, i32_w]
                                      rfl
                                    refine take_ (i := 5) (N := some 81) (v := ?_) (a' := ?_) #[true, true, true, true, true, true, false, false, false, false, false, false, false, false, false, false, false, false] rfl rfl (take_ofW HT_.out HW_.out (by kernel_rfl)) (fun _ _ _ h => h) (Or.inl ⟨by rfl, ?_⟩) hHeld ?_ ?_
                                    rotate_left
                                    · rintro w' ⟨s0, s1, s2, s3, s4, s5, s6, s7, s8, s9, s10⟩
                                      go_simp
                                      with_reducible rfl
                                    rotate_left
                                    · simp only [Act.put, List.setIfInBounds_toArray, List.set_cons_zero, List.set_cons_succ, i64_w, i32_w]
                                      rfl
                                    refine one_ (i := 6) (N := some 82) #[true, true, true, true, true, true, true, false, false, false, false, false, false, false, false, false, false, false] rfl rfl (one_of HT_.out (by kernel_rfl)) (by decide) (fun K hK => ?_)
                                    refine goes_ Try.func17 (by kernel_rfl) rfl #[.agg #[.int .i64 t261, .int .i64 t262, .string t263], .agg #[.int .i64 ((rd_T39 (rd_L3 t251 0) 0).f0), .int .i64 ((rd_T39 (rd_L3 t251 0) 0).f1), .string ((rd_T39 (rd_L3 t251 0) 0).f2)]] (by rfl) rfl rfl (by (try simp only [List.map_toArray, List.map_cons, List.map_nil]); first | done | rfl | (simp only [List.length_drop, List.length_take]; rfl)) ?_
                                    with_reducible refine (ref05_Compare.calls kj38 t261 t262 t263 ((rd_T39 (rd_L3 t251 0) 0).f0) ((rd_T39 (rd_L3 t251 0) 0).f1) ((rd_T39 (rd_L3 t251 0) 0).f2) t271 _ A48.out).mono ?_
                                    rintro e w55 ⟨rfl, hb⟩
                                    have HS3_ := (hb.cell (World.block_lt_of_cell? _ _ (hHeld.2.2.2.1))).trans (hHeld.2.2.2.1)
                                    have HS4_ := (hb.cell (World.block_lt_of_cell? _ _ (hHeld.2.2.2.2.1))).trans (hHeld.2.2.2.2.1)
                                    have HS5_ := (hb.cell (World.block_lt_of_cell? _ _ (hHeld.2.2.2.2.2.1))).trans (hHeld.2.2.2.2.2.1)
                                    have HS6_ := (hb.cell (World.block_lt_of_cell? _ _ (hHeld.2.2.2.2.2.2.1))).trans (hHeld.2.2.2.2.2.2.1)
                                    have HS7_ := (hb.cell (World.block_lt_of_cell? _ _ (hHeld.2.2.2.2.2.2.2.1))).trans (hHeld.2.2.2.2.2.2.2.1)
                                    have HS8_ := (hb.cell (World.block_lt_of_cell? _ _ (hHeld.2.2.2.2.2.2.2.2.1))).trans (hHeld.2.2.2.2.2.2.2.2.1)
                                    have HS9_ := (hb.cell (World.block_lt_of_cell? _ _ (hHeld.2.2.2.2.2.2.2.2.2.1))).trans (hHeld.2.2.2.2.2.2.2.2.2.1)
                                    have HS10_ := (hb.cell (World.block_lt_of_cell? _ _ (hHeld.2.2.2.2.2.2.2.2.2.2))).trans (hHeld.2.2.2.2.2.2.2.2.2.2)
                                    refine ⟨_, rfl, ?_⟩
                                    have n0_ := Aside0.mk (Kd.N_below (by (with_reducible repeat (first | apply Kd.N_alloc | apply Kd.N_drewN | apply Kd.N_drew)); exact HO_6.out) hb)
                                    have n1_ := Aside0.mk (Kd.N_below (by (with_reducible repeat (first | apply Kd.N_alloc | apply Kd.N_drewN | apply Kd.N_drew)); exact HO_7.out) hb)
                                    have n2_ := Aside0.mk (Kd.V_below (by (with_reducible repeat (first | apply Kd.V_alloc | apply Kd.V_drewN | apply Kd.V_drew)); exact HL269_0.out) hb)
                                    have n3_ := Aside0.mk (blk_below (g := gb264) (o := .cells #[.int .i64 t261, .int .i64 t262, .string t263] 39 (0, 0)) (by (with_reducible repeat (first | refine blk_drewN ?_ _ | refine blk_drew ?_ | refine blk_alloc ?_ _)); exact BK264.out) hb)
                                    have n4_ := Aside0.mk (Kd.C_below (by repeat (first | (with_reducible exact HR269_0.out) | (with_reducible refine Kd.C_alloc ?_ _) | (with_reducible refine Kd.C_drewN ?_ _) | (with_reducible refine Kd.C_drew ?_) | exact HR269_0.out)) hb)
                                    have n5_ := Aside0.mk (below_step (by repeat (first | (with_reducible first | exact HB.out | apply below_alloc | apply pw_below_drewN | apply below_drew1 | refine below_set ?_ GE264.out) | exact HB.out)) hb)
                                    clear HO_6
                                    clear HO_7
                                    clear HL269_0
                                    clear BK264
                                    clear HR269_0
                                    clear HB
                                    have HO_6 := n0_
                                    have HO_7 := n1_
                                    have HL269_0 := n2_
                                    have BK264 := n3_
                                    have HR269_0 := n4_
                                    have HB := n5_
                                    clear n0_ n1_ n2_ n3_ n4_ n5_
                                    (try clear hb)
                                    (try clear hb2)
                                    (try clear hk)
                                    (try clear hi)
                                    refine hK.out _ _ ⟨(blk_cell BK264.out 0).trans rfl, (blk_cell BK264.out 1).trans rfl, (blk_cell BK264.out 2).trans rfl, HS3_, HS4_, HS5_, HS6_, HS7_, HS8_, HS9_, HS10_⟩ (fun hHeld => ?_)
                                    clear hK K
                                    refine norm_ (a' := ?_) ?_ ?_
                                    rotate_left
                                    · show Act.put _ (some 82) _ = _
                                      simp only [Act.put, List.setIfInBounds_toArray, List.set_cons_zero, List.set_cons_succ, i64_w, i32_w]
                                      rfl
                                    refine pure_ (i := 7) (N := some 83) (v := ?_) (a' := ?_) #[true, true, true, true, true, true, true, true, false, false, false, false, false, false, false, false, false, false] rfl rfl (any_of HT_.out (by kernel_rfl)) (fun _ _ _ h => h) (Or.inl ⟨by rfl, ?_⟩) ?_ ?_
                                    rotate_left
                                    · intro w'
                                      go_simp
                                      with_reducible rfl
                                    rotate_left
                                    · simp only [Act.put, List.setIfInBounds_toArray, List.set_cons_zero, List.set_cons_succ, i64_w, i32_w]
                                      rfl
                                    refine pure_ (i := 8) (N := some 84) (v := ?_) (a' := ?_) #[true, true, true, true, true, true, true, true, true, false, false, false, false, false, false, false, false, false] rfl rfl (any_of HT_.out (by kernel_rfl)) (fun _ _ _ h => h) (Or.inl ⟨by rfl, ?_⟩) ?_ ?_
                                    rotate_left
                                    · intro w'
                                      go_simp
                                      with_reducible rfl
                                    rotate_left
                                    · simp only [Act.put, List.setIfInBounds_toArray, List.set_cons_zero, List.set_cons_succ, i64_w, i32_w]
                                      rfl
                                    refine pure_ (i := 10) (N := some 86) (v := ?_) (a' := ?_) #[true, true, true, true, true, true, true, true, true, false, true, false, false, false, false, false, false, false] rfl rfl (any_of HT_.out (by kernel_rfl)) (fun _ _ _ h => h) (Or.inl ⟨by rfl, ?_⟩) ?_ ?_
                                    rotate_left
                                    · intro w'
                                      go_simp
                                      with_reducible rfl
                                    rotate_left
                                    · simp only [Act.put, List.setIfInBounds_toArray, List.set_cons_zero, List.set_cons_succ, i64_w, i32_w]
                                      rfl
                                    refine pure_ (i := 11) (N := some 87) (v := ?_) (a' := ?_) #[true, true, true, true, true, true, true, true, true, false, true, true, false, false, false, false, false, false] rfl rfl (any_of HT_.out (by kernel_rfl)) (fun _ _ _ h => h) (Or.inl ⟨by rfl, ?_⟩) ?_ ?_
                                    rotate_left
                                    · intro w'
                                      go_simp
                                      with_reducible rfl
                                    rotate_left
                                    · simp only [Act.put, List.setIfInBounds_toArray, List.set_cons_zero, List.set_cons_succ, i64_w, i32_w]
                                      rfl
                                    refine take_ (i := 9) (N := some 85) (v := ?_) (a' := ?_) #[true, true, true, true, true, true, true, true, true, true, true, true, false, false, false, false, false, false] rfl rfl (take_ofW HT_.out HW_.out (by kernel_rfl)) (fun _ _ _ h => h) (Or.inl ⟨by rfl, ?_⟩) hHeld ?_ ?_
                                    rotate_left
                                    · rintro w' ⟨s0, s1, s2, s3, s4, s5, s6, s7, s8, s9, s10⟩
                                      go_simp
                                      with_reducible rfl
                                    rotate_left
                                    · simp only [Act.put, List.setIfInBounds_toArray, List.set_cons_zero, List.set_cons_succ, i64_w, i32_w]
                                      rfl
                                    refine take_ (i := 12) (N := some 88) (v := ?_) (a' := ?_) #[true, true, true, true, true, true, true, true, true, true, true, true, true, false, false, false, false, false] rfl rfl (take_ofW HT_.out HW_.out (by kernel_rfl)) (fun _ _ _ h => h) (Or.inl ⟨by rfl, ?_⟩) hHeld ?_ ?_
                                    rotate_left
                                    · rintro w' ⟨s0, s1, s2, s3, s4, s5, s6, s7, s8, s9, s10⟩
                                      go_simp
                                      with_reducible rfl
                                    rotate_left
                                    · simp only [Act.put, List.setIfInBounds_toArray, List.set_cons_zero, List.set_cons_succ, i64_w, i32_w]
                                      rfl
                                    refine pure_ (i := 13) (N := some 89) (v := ?_) (a' := ?_) #[true, true, true, true, true, true, true, true, true, true, true, true, true, true, false, false, false, false] rfl rfl (any_of HT_.out (by kernel_rfl)) (fun _ _ _ h => h) (Or.inl ⟨by rfl, ?_⟩) ?_ ?_
                                    rotate_left
                                    · intro w'
                                      go_simp
                                      with_reducible rfl
                                    rotate_left
                                    · simp only [Act.put, List.setIfInBounds_toArray, List.set_cons_zero, List.set_cons_succ, i64_w, i32_w]
                                      rfl
                                    refine take_ (i := 14) (N := some 90) (v := ?_) (a' := ?_) #[true, true, true, true, true, true, true, true, true, true, true, true, true, true, true, false, false, false] rfl rfl (take_ofW HT_.out HW_.out (by kernel_rfl)) (fun _ _ _ h => h) (Or.inl ⟨by rfl, ?_⟩) hHeld ?_ ?_
                                    rotate_left
                                    · rintro w' ⟨s0, s1, s2, s3, s4, s5, s6, s7, s8, s9, s10⟩
                                      go_simp
                                      with_reducible rfl
                                    rotate_left
                                    · simp only [Act.put, List.setIfInBounds_toArray, List.set_cons_zero, List.set_cons_succ, i64_w, i32_w]
                                      rfl
                                    refine one_ (i := 15) (N := some 91) #[true, true, true, true, true, true, true, true, true, true, true, true, true, true, true, true, false, false] rfl rfl (one_of HT_.out (by kernel_rfl)) (by decide) (fun K hK => ?_)
                                    refine goes_ Try.func17 (by kernel_rfl) rfl #[.agg #[.int .i64 t261, .int .i64 t262, .string t263], .agg #[.int .i64 ((rd_T39 (rd_L3 t251 0) 1).f0), .int .i64 ((rd_T39 (rd_L3 t251 0) 1).f1), .string ((rd_T39 (rd_L3 t251 0) 1).f2)]] (by rfl) rfl rfl (by (try simp only [List.map_toArray, List.map_cons, List.map_nil]); first | done | rfl | (simp only [List.length_drop, List.length_take]; rfl)) ?_
                                    with_reducible refine (ref05_Compare.calls kj38 t261 t262 t263 ((rd_T39 (rd_L3 t251 0) 1).f0) ((rd_T39 (rd_L3 t251 0) 1).f1) ((rd_T39 (rd_L3 t251 0) 1).f2) t274 _ A51.out).mono ?_
                                    rintro e w56 ⟨rfl, hb⟩
                                    have HS3_ := (hb.cell (World.block_lt_of_cell? _ _ (hHeld.2.2.2.1))).trans (hHeld.2.2.2.1)
                                    have HS4_ := (hb.cell (World.block_lt_of_cell? _ _ (hHeld.2.2.2.2.1))).trans (hHeld.2.2.2.2.1)
                                    have HS5_ := (hb.cell (World.block_lt_of_cell? _ _ (hHeld.2.2.2.2.2.1))).trans (hHeld.2.2.2.2.2.1)
                                    have HS6_ := (hb.cell (World.block_lt_of_cell? _ _ (hHeld.2.2.2.2.2.2.1))).trans (hHeld.2.2.2.2.2.2.1)
                                    have HS7_ := (hb.cell (World.block_lt_of_cell? _ _ (hHeld.2.2.2.2.2.2.2.1))).trans (hHeld.2.2.2.2.2.2.2.1)
                                    have HS8_ := (hb.cell (World.block_lt_of_cell? _ _ (hHeld.2.2.2.2.2.2.2.2.1))).trans (hHeld.2.2.2.2.2.2.2.2.1)
                                    have HS9_ := (hb.cell (World.block_lt_of_cell? _ _ (hHeld.2.2.2.2.2.2.2.2.2.1))).trans (hHeld.2.2.2.2.2.2.2.2.2.1)
                                    have HS10_ := (hb.cell (World.block_lt_of_cell? _ _ (hHeld.2.2.2.2.2.2.2.2.2.2))).trans (hHeld.2.2.2.2.2.2.2.2.2.2)
                                    refine ⟨_, rfl, ?_⟩
                                    have n0_ := Aside0.mk (Kd.N_below (by (with_reducible repeat (first | apply Kd.N_alloc | apply Kd.N_drewN | apply Kd.N_drew)); exact HO_6.out) hb)
                                    have n1_ := Aside0.mk (Kd.N_below (by (with_reducible repeat (first | apply Kd.N_alloc | apply Kd.N_drewN | apply Kd.N_drew)); exact HO_7.out) hb)
                                    have n2_ := Aside0.mk (Kd.V_below (by (with_reducible repeat (first | apply Kd.V_alloc | apply Kd.V_drewN | apply Kd.V_drew)); exact HL269_0.out) hb)
                                    have n3_ := Aside0.mk (Kd.V_below (by (with_reducible repeat (first | apply Kd.V_alloc | apply Kd.V_drewN | apply Kd.V_drew)); exact HL269_0.out) hb)
                                    have n4_ := Aside0.mk (blk_below (g := gb264) (o := .cells #[.int .i64 t261, .int .i64 t262, .string t263] 39 (0, 0)) (by (with_reducible repeat (first | refine blk_drewN ?_ _ | refine blk_drew ?_ | refine blk_alloc ?_ _)); exact BK264.out) hb)
                                    have n5_ := Aside0.mk (Kd.C_below (by repeat (first | (with_reducible exact HR269_0.out) | (with_reducible refine Kd.C_alloc ?_ _) | (with_reducible refine Kd.C_drewN ?_ _) | (with_reducible refine Kd.C_drew ?_) | exact HR269_0.out)) hb)
                                    have n6_ := Aside0.mk (Kd.C_below (by repeat (first | (with_reducible exact HR269_0.out) | (with_reducible refine Kd.C_alloc ?_ _) | (with_reducible refine Kd.C_drewN ?_ _) | (with_reducible refine Kd.C_drew ?_) | exact HR269_0.out)) hb)
                                    have n7_ := Aside0.mk (below_step (by repeat (first | (with_reducible first | exact HB.out | apply below_alloc | apply pw_below_drewN | apply below_drew1 | refine below_set ?_ GE264.out) | exact HB.out)) hb)
                                    clear HO_6
                                    clear HO_7
                                    clear HL269_0
                                    clear HL272_0
                                    clear BK264
                                    clear HR269_0
                                    clear HR272_0
                                    clear HB
                                    have HO_6 := n0_
                                    have HO_7 := n1_
                                    have HL269_0 := n2_
                                    have HL272_0 := n3_
                                    have BK264 := n4_
                                    have HR269_0 := n5_
                                    have HR272_0 := n6_
                                    have HB := n7_
                                    clear n0_ n1_ n2_ n3_ n4_ n5_ n6_ n7_
                                    (try clear hb)
                                    (try clear hb2)
                                    (try clear hk)
                                    (try clear hi)
                                    refine hK.out _ _ ⟨(blk_cell BK264.out 0).trans rfl, (blk_cell BK264.out 1).trans rfl, (blk_cell BK264.out 2).trans rfl, HS3_, HS4_, HS5_, HS6_, HS7_, HS8_, HS9_, HS10_⟩ (fun hHeld => ?_)
                                    clear hK K
                                    refine norm_ (a' := ?_) ?_ ?_
                                    rotate_left
                                    · show Act.put _ (some 91) _ = _
                                      simp only [Act.put, List.setIfInBounds_toArray, List.set_cons_zero, List.set_cons_succ, i64_w, i32_w]
                                      rfl
                                    refine pure_ (i := 16) (N := some 92) (v := ?_) (a' := ?_) #[true, true, true, true, true, true, true, true, true, true, true, true, true, true, true, true, true, false] rfl rfl (any_of HT_.out (by kernel_rfl)) (fun _ _ _ h => h) (Or.inl ⟨by rfl, ?_⟩) ?_ ?_
                                    rotate_left
                                    · intro w'
                                      go_simp
                                      with_reducible rfl
                                    rotate_left
                                    · simp only [Act.put, List.setIfInBounds_toArray, List.set_cons_zero, List.set_cons_succ, i64_w, i32_w]
                                      rfl
                                    refine pure_ (i := 17) (N := some 93) (v := ?_) (a' := ?_) #[true, true, true, true, true, true, true, true, true, true, true, true, true, true, true, true, true, true] rfl rfl (any_of HT_.out (by kernel_rfl)) (fun _ _ _ h => h) (Or.inl ⟨by rfl, ?_⟩) ?_ ?_
                                    rotate_left
                                    · intro w'
                                      go_simp
                                      with_reducible rfl
                                    rotate_left
                                    · simp only [Act.put, List.setIfInBounds_toArray, List.set_cons_zero, List.set_cons_succ, i64_w, i32_w]
                                      rfl
                                    refine done_ (done_of HT_.out (by kernel_rfl)) ?_
                                    try go_wp2
                                    go_roundg kj38
                                    case measure => have := HJ5.out; have := HK2.out; have := HJ26.out; have := HJ38.out; omega
                                    case rel => exact ⟨(x9_26), (x10_38), (true), (wrap64 (x12_2 + 1)), (by first | rfl | (simp; done) | (simp [*]; done)), (by first | rfl | (simp; done) | (simp [*]; done)), (by first | rfl | (simp; done) | (simp [*]; done)), (by first | rfl | (simp; done) | (simp [*]; done)), H', ⟨by have := HJ5.out; have := HK2.out; have := HJ26.out; have := HJ38.out; omega⟩, ⟨by (with_reducible repeat (first | apply Kd.N_alloc | apply Kd.N_drewN | apply Kd.N_drew)); exact Kd.N_mono HO_6.out (fun _ hk => hk.1)⟩, ⟨by (with_reducible repeat (first | apply Kd.N_alloc | apply Kd.N_drewN | apply Kd.N_drew)); exact Kd.N_mono HO_7.out (fun _ hk => hk.1)⟩, ⟨by repeat (first | (with_reducible first | exact HB.out | apply below_alloc | apply pw_below_drewN | apply below_drew1 | refine below_set ?_ GE264.out) | exact HB.out)⟩⟩
                                · rw [if_neg c50] at H
                                  exact absurd H (by simp)
                            · rw [if_neg c47] at H
                              exact absurd H (by simp)
                          · rw [if_neg c46] at H
                            exact absurd H (by simp)
              · rw [if_neg c21] at H
                exact absurd H (by simp)
            · rw [if_neg c20] at H
              have c20b0 : decide (x12_2 < (t245.length : Int)) = false := decide_eq_false c20
              (try (have c20b0q_hl255_0 := c20b0; rw [hl255_0] at c20b0q_hl255_0))
              (try (have c20b0q_hl260_0 := c20b0; rw [hl260_0] at c20b0q_hl260_0))
              (try (have c20b0q_hl265_0 := c20b0; rw [hl265_0] at c20b0q_hl265_0))
              (try (have c20b0q_hl267_0 := c20b0; rw [hl267_0] at c20b0q_hl267_0))
              (try (have c20b0q_hl269_0 := c20b0; rw [hl269_0] at c20b0q_hl269_0))
              (try (have c20b0q_hl272_0 := c20b0; rw [hl272_0] at c20b0q_hl272_0))
              clear c20
              by_cases c57 : x11_2 = true
              · subst c57
                have H1 : (if t244 = true then (if x9_2 = true then (some x10_2) else (some false)) else (some false)) = some r := by rw [if_pos rfl] at H; exact H
                clear H
                have H := H1
                clear H1
                by_cases c58 : t244 = true
                · subst c58
                  have H1 : (if x9_2 = true then (some x10_2) else (some false)) = some r := by rw [if_pos rfl] at H; exact H
                  clear H
                  have H := H1
                  clear H1
                  by_cases c59 : x9_2 = true
                  · subst c59
                    have H1 : (some x10_2) = some r := by rw [if_pos rfl] at H; exact H
                    clear H
                    have H := H1
                    clear H1
                    obtain rfl := Option.some.inj H
                    go_wp2
                    go_ret
                    exact ⟨by first | rfl | (simp [errW_none, errW_some] <;> rfl) | (simp [*, errW_none, errW_some] <;> rfl), by repeat (first | (with_reducible first | exact HB.out | apply below_alloc | apply pw_below_drewN | apply below_drew1) | exact HB.out)⟩
                  · replace c59 := Bool.eq_false_iff.mpr c59
                    subst c59
                    have H1 : (some false) = some r := by rw [if_neg (show ¬ (false = true) by decide)] at H; exact H
                    clear H
                    have H := H1
                    clear H1
                    exact absurd ((Option.some.inj H).trans hr_.out) (by decide)
                · replace c58 := Bool.eq_false_iff.mpr c58
                  subst c58
                  have H1 : (some false) = some r := by rw [if_neg (show ¬ (false = true) by decide)] at H; exact H
                  clear H
                  have H := H1
                  clear H1
                  exact absurd ((Option.some.inj H).trans hr_.out) (by decide)
              · replace c57 := Bool.eq_false_iff.mpr c57
                subst c57
                have H1 : (if t244 = true then (if 0 < (t251.length : Int) then (if 0 < ((rd_L3 t251 0).length : Int) then (if (((rd_T39 (rd_L3 t251 0) 0).f0) == 0 && (((rd_T39 (rd_L3 t251 0) 0).f1) == 0 && ((((rd_T39 (rd_L3 t251 0) 0).f2).toList) == ([] : List UInt8)))) = true then (if 1 < ((rd_L3 t251 0).length : Int) then (some (((rd_T39 (rd_L3 t251 0) 1).f0) == 0 && (((rd_T39 (rd_L3 t251 0) 1).f1) == 0 && ((((rd_T39 (rd_L3 t251 0) 1).f2).toList) == ([] : List UInt8))))) else (none)) else (some false)) else (none)) else (none)) else (some false)) = some r := by rw [if_neg (show ¬ (false = true) by decide)] at H; exact H
                clear H
                have H := H1
                clear H1
                by_cases c60 : t244 = true
                · subst c60
                  have H1 : (if 0 < (t251.length : Int) then (if 0 < ((rd_L3 t251 0).length : Int) then (if (((rd_T39 (rd_L3 t251 0) 0).f0) == 0 && (((rd_T39 (rd_L3 t251 0) 0).f1) == 0 && ((((rd_T39 (rd_L3 t251 0) 0).f2).toList) == ([] : List UInt8)))) = true then (if 1 < ((rd_L3 t251 0).length : Int) then (some (((rd_T39 (rd_L3 t251 0) 1).f0) == 0 && (((rd_T39 (rd_L3 t251 0) 1).f1) == 0 && ((((rd_T39 (rd_L3 t251 0) 1).f2).toList) == ([] : List UInt8))))) else (none)) else (some false)) else (none)) else (none)) = some r := by rw [if_pos rfl] at H; exact H
                  clear H
                  have H := H1
                  clear H1
                  by_cases c61 : 0 < (t251.length : Int)
                  · rw [if_pos c61] at H
                    have c61b0 : decide (0 < (t251.length : Int)) = true := decide_eq_true c61
                    (try (have c61b0q_hl255_0 := c61b0; rw [hl255_0] at c61b0q_hl255_0))
                    (try (have c61b0q_hl260_0 := c61b0; rw [hl260_0] at c61b0q_hl260_0))
                    (try (have c61b0q_hl265_0 := c61b0; rw [hl265_0] at c61b0q_hl265_0))
                    (try (have c61b0q_hl267_0 := c61b0; rw [hl267_0] at c61b0q_hl267_0))
                    (try (have c61b0q_hl269_0 := c61b0; rw [hl269_0] at c61b0q_hl269_0))
                    (try (have c61b0q_hl272_0 := c61b0; rw [hl272_0] at c61b0q_hl272_0))
                    have c61b1 : decide (0 < t251.length) = true := decide_eq_true (by omega)
                    (try (have c61b1q_hl255_0 := c61b1; rw [hl255_0] at c61b1q_hl255_0))
                    (try (have c61b1q_hl260_0 := c61b1; rw [hl260_0] at c61b1q_hl260_0))
                    (try (have c61b1q_hl265_0 := c61b1; rw [hl265_0] at c61b1q_hl265_0))
                    (try (have c61b1q_hl267_0 := c61b1; rw [hl267_0] at c61b1q_hl267_0))
                    (try (have c61b1q_hl269_0 := c61b1; rw [hl269_0] at c61b1q_hl269_0))
                    (try (have c61b1q_hl272_0 := c61b1; rw [hl272_0] at c61b1q_hl272_0))
                    clear c61
                    by_cases c62 : 0 < ((rd_L3 t251 0).length : Int)
                    · rw [if_pos c62] at H
                      have c62b0 : decide (0 < ((rd_L3 t251 0).length : Int)) = true := decide_eq_true c62
                      (try (have c62b0q_hl255_0 := c62b0; rw [hl255_0] at c62b0q_hl255_0))
                      (try (have c62b0q_hl260_0 := c62b0; rw [hl260_0] at c62b0q_hl260_0))
                      (try (have c62b0q_hl265_0 := c62b0; rw [hl265_0] at c62b0q_hl265_0))
                      (try (have c62b0q_hl267_0 := c62b0; rw [hl267_0] at c62b0q_hl267_0))
                      (try (have c62b0q_hl269_0 := c62b0; rw [hl269_0] at c62b0q_hl269_0))
                      (try (have c62b0q_hl272_0 := c62b0; rw [hl272_0] at c62b0q_hl272_0))
                      have c62b1 : decide (0 < (rd_L3 t251 0).length) = true := decide_eq_true (by omega)
                      (try (have c62b1q_hl255_0 := c62b1; rw [hl255_0] at c62b1q_hl255_0))
                      (try (have c62b1q_hl260_0 := c62b1; rw [hl260_0] at c62b1q_hl260_0))
                      (try (have c62b1q_hl265_0 := c62b1; rw [hl265_0] at c62b1q_hl265_0))
                      (try (have c62b1q_hl267_0 := c62b1; rw [hl267_0] at c62b1q_hl267_0))
                      (try (have c62b1q_hl269_0 := c62b1; rw [hl269_0] at c62b1q_hl269_0))
                      (try (have c62b1q_hl272_0 := c62b1; rw [hl272_0] at c62b1q_hl272_0))
                      clear c62
                      by_cases c63 : (((rd_T39 (rd_L3 t251 0) 0).f0) == 0 && (((rd_T39 (rd_L3 t251 0) 0).f1) == 0 && ((((rd_T39 (rd_L3 t251 0) 0).f2).toList) == ([] : List UInt8)))) = true
                      · rw [if_pos c63] at H
                        have c63b0 : (((rd_T39 (rd_L3 t251 0) 0).f0) == 0 && (((rd_T39 (rd_L3 t251 0) 0).f1) == 0 && ((((rd_T39 (rd_L3 t251 0) 0).f2).toList) == ([] : List UInt8)))) = true := c63
                        (try (have c63b0e := c63b0; simp only [Hand.empty_beq, Hand.nil_beq] at c63b0e))
                        (try (have c63b1 : decide (((rd_T39 (rd_L3 t251 0) 0).f0) = 0 && (((rd_T39 (rd_L3 t251 0) 0).f1) == 0 && ((((rd_T39 (rd_L3 t251 0) 0).f2).toList) == ([] : List UInt8)))) = true := by simpa using c63))
                        (try (have c63b2 : (((rd_T39 (rd_L3 t251 0) 0).f0) == 0 && (((rd_T39 (rd_L3 t251 0) 0).f1) == 0 && ((((rd_T39 (rd_L3 t251 0) 0).f2).toList) == ([] : List UInt8)))) = true := by simpa using c63))
                        clear c63
                        by_cases c64 : 1 < ((rd_L3 t251 0).length : Int)
                        · rw [if_pos c64] at H
                          have c64b0 : decide (1 < ((rd_L3 t251 0).length : Int)) = true := decide_eq_true c64
                          (try (have c64b0q_hl255_0 := c64b0; rw [hl255_0] at c64b0q_hl255_0))
                          (try (have c64b0q_hl260_0 := c64b0; rw [hl260_0] at c64b0q_hl260_0))
                          (try (have c64b0q_hl265_0 := c64b0; rw [hl265_0] at c64b0q_hl265_0))
                          (try (have c64b0q_hl267_0 := c64b0; rw [hl267_0] at c64b0q_hl267_0))
                          (try (have c64b0q_hl269_0 := c64b0; rw [hl269_0] at c64b0q_hl269_0))
                          (try (have c64b0q_hl272_0 := c64b0; rw [hl272_0] at c64b0q_hl272_0))
                          have c64b1 : decide (1 < (rd_L3 t251 0).length) = true := decide_eq_true (by omega)
                          (try (have c64b1q_hl255_0 := c64b1; rw [hl255_0] at c64b1q_hl255_0))
                          (try (have c64b1q_hl260_0 := c64b1; rw [hl260_0] at c64b1q_hl260_0))
                          (try (have c64b1q_hl265_0 := c64b1; rw [hl265_0] at c64b1q_hl265_0))
                          (try (have c64b1q_hl267_0 := c64b1; rw [hl267_0] at c64b1q_hl267_0))
                          (try (have c64b1q_hl269_0 := c64b1; rw [hl269_0] at c64b1q_hl269_0))
                          (try (have c64b1q_hl272_0 := c64b1; rw [hl272_0] at c64b1q_hl272_0))
                          clear c64
                          obtain rfl := Option.some.inj H
                          obtain ⟨Ao65, co65, eo65⟩ := Kd.N_slice HO_7.out
                          subst eo65
                          have p256 : 0 ≤ (0 : Int) := (by omega)
                          have q256 : 0 < (t251.length : Int) := of_decide_eq_true (by first | (with_reducible assumption) | assumption)
                          obtain ⟨ad256, A256_0, c256_0, e256, hx256_0, hl256_0, hi256_0⟩ := at_L3 (Kd.N_reads' HO_7.out).2.2 0 p256 q256
                          cases e256
                          obtain ⟨ce256, hce256, hMe256, hcc256⟩ := Kd.N_get HO_7.out [] 0 p256 (by first | exact q256 | exact of_decide_eq_true (by first | (with_reducible assumption) | assumption) | (have e_ := (Kd.N_reads' HO_7.out).1; omega))
                          obtain ⟨ua256_0, uc256_0, rfl, ul256_0, ge256_0⟩ := Kd.FK_slice_open hMe256
                          have hv256_0 := hcc256 0 _ rfl
                          rw [Nat.add_zero, show ((Kd.slice 39 k39)).sz = 1 from rfl, Nat.mul_one] at hv256_0
                          replace hv256_0 := Option.some.inj (hv256_0.symm.trans hx256_0)
                          injection hv256_0 with hva_ hvn_ hvc_
                          rw [hva_] at ge256_0
                          rw [hvc_] at ul256_0
                          have HL256_0 := Aside0.mk (show Kd.V k39 39 _ w.heap.size _ _ (rd_L3 t251 0) from Kd.V_mk ul256_0 ge256_0)
                          clear hva_ hvn_ hvc_ ge256_0 ul256_0
                          clear hcc256 hce256
                          have qi256 : (0 < t251.length) = True := eq_true (by omega)
                          (try rw [show ((0 : Int)).toNat = 0 from rfl] at hx256_0)
                          (try rw [Addr.add_zero'] at hx256_0)
                          have HR256_0 := Aside0.mk hi256_0
                          have HC256_0 := Aside0.mk hl256_0
                          clear hi256_0 hl256_0
                          replace p256 := eq_true p256
                          replace q256 := eq_true q256
                          have p257 : 0 ≤ (0 : Int) := (by omega)
                          have q257 : 0 < ((rd_L3 t251 0).length : Int) := of_decide_eq_true (by first | (with_reducible assumption) | assumption)
                          obtain ⟨ad257, e257, hx257_0, hx257_1, hx257_2⟩ := at_T39 (by repeat (first | (with_reducible exact HR256_0.out) | (with_reducible refine Kd.C_alloc ?_ _) | (with_reducible refine Kd.C_drewN ?_ _) | (with_reducible refine Kd.C_drew ?_) | exact HR256_0.out)) 0 p257 q257
                          cases e257
                          have qi257 : (0 < (rd_L3 t251 0).length) = True := eq_true (by omega)
                          (try rw [show ((0 : Int)).toNat = 0 from rfl] at hx257_0)
                          (try rw [show 0 * 3 = 0 from rfl] at hx257_0)
                          (try rw [Addr.add_zero'] at hx257_0)
                          (try rw [show ((0 : Int)).toNat = 0 from rfl] at hx257_1)
                          (try rw [show 0 * 3 = 0 from rfl] at hx257_1)
                          (try rw [Addr.add_zero'] at hx257_1)
                          (try rw [show ((0 : Int)).toNat = 0 from rfl] at hx257_2)
                          (try rw [show 0 * 3 = 0 from rfl] at hx257_2)
                          (try rw [Addr.add_zero'] at hx257_2)
                          replace p257 := eq_true p257
                          replace q257 := eq_true q257
                          have p258 : 0 ≤ (0 : Int) := (by omega)
                          have q258 : 0 < (t251.length : Int) := of_decide_eq_true (by first | (with_reducible assumption) | assumption)
                          obtain ⟨ad258, A258_0, c258_0, e258, hx258_0, hl258_0, hi258_0⟩ := at_L3 (Kd.N_reads' HO_7.out).2.2 0 p258 q258
                          obtain rfl : ad256 = ad258 := (by injection e258)
                          obtain ⟨ce258, hce258, hMe258, hcc258⟩ := Kd.N_get HO_7.out [] 0 p258 (by first | exact q258 | exact of_decide_eq_true (by first | (with_reducible assumption) | assumption) | (have e_ := (Kd.N_reads' HO_7.out).1; omega))
                          obtain ⟨ua258_0, uc258_0, rfl, ul258_0, ge258_0⟩ := Kd.FK_slice_open hMe258
                          have hv258_0 := hcc258 0 _ rfl
                          rw [Nat.add_zero, show ((Kd.slice 39 k39)).sz = 1 from rfl, Nat.mul_one] at hv258_0
                          replace hv258_0 := Option.some.inj (hv258_0.symm.trans hx258_0)
                          injection hv258_0 with hva_ hvn_ hvc_
                          rw [hva_] at ge258_0
                          rw [hvc_] at ul258_0
                          have HL258_0 := Aside0.mk (show Kd.V k39 39 _ w.heap.size _ _ (rd_L3 t251 0) from Kd.V_mk ul258_0 ge258_0)
                          clear hva_ hvn_ hvc_ ge258_0 ul258_0
                          clear hcc258 hce258
                          have qi258 : (0 < t251.length) = True := eq_true (by omega)
                          (try rw [show ((0 : Int)).toNat = 0 from rfl] at hx258_0)
                          (try rw [Addr.add_zero'] at hx258_0)
                          have HR258_0 := Aside0.mk hi258_0
                          have HC258_0 := Aside0.mk hl258_0
                          clear hi258_0 hl258_0
                          replace p258 := eq_true p258
                          replace q258 := eq_true q258
                          have ea_ := Option.some.inj (hx256_0.symm.trans hx258_0)
                          injection ea_ with ea_ en_ ec_
                          subst ea_
                          subst ec_
                          clear en_
                          have p259 : 0 ≤ (1 : Int) := (by omega)
                          have q259 : 1 < ((rd_L3 t251 0).length : Int) := of_decide_eq_true (by first | (with_reducible assumption) | assumption)
                          obtain ⟨ad259, e259, hx259_0, hx259_1, hx259_2⟩ := at_T39 (by repeat (first | (with_reducible exact HR258_0.out) | (with_reducible refine Kd.C_alloc ?_ _) | (with_reducible refine Kd.C_drewN ?_ _) | (with_reducible refine Kd.C_drew ?_) | exact HR258_0.out)) 1 p259 q259
                          cases e259
                          (try simp only [show (1 : Int).toNat = 1 from rfl, Nat.reduceMul, Nat.reduceEqDiff, Go.Addr.add, ↓reduceIte] at hx259_0)
                          (try simp only [show (1 : Int).toNat = 1 from rfl, Nat.reduceMul, Nat.reduceEqDiff, Go.Addr.add, ↓reduceIte] at hx259_1)
                          (try simp only [show (1 : Int).toNat = 1 from rfl, Nat.reduceMul, Nat.reduceEqDiff, Go.Addr.add, ↓reduceIte] at hx259_2)
                          have qi259 : (1 < (rd_L3 t251 0).length) = True := eq_true (by omega)
                          (try rw [show ((1 : Int)).toNat = 1 from rfl] at hx259_0)
                          (try rw [show 1 * 3 = 3 from rfl] at hx259_0)
                          (try rw [show ((1 : Int)).toNat = 1 from rfl] at hx259_1)
                          (try rw [show 1 * 3 = 3 from rfl] at hx259_1)
                          (try rw [show ((1 : Int)).toNat = 1 from rfl] at hx259_2)
                          (try rw [show 1 * 3 = 3 from rfl] at hx259_2)
                          replace p259 := eq_true p259
                          replace q259 := eq_true q259
                          go_wp2
                          go_ret
                          exact ⟨by first | rfl | (simp [errW_none, errW_some] <;> rfl) | (simp [*, errW_none, errW_some] <;> rfl), by repeat (first | (with_reducible first | exact HB.out | apply below_alloc | apply pw_below_drewN | apply below_drew1) | exact HB.out)⟩
                        · rw [if_neg c64] at H
                          exact absurd H (by simp)
                      · rw [if_neg c63] at H
                        have c63b0 : (((rd_T39 (rd_L3 t251 0) 0).f0) == 0 && (((rd_T39 (rd_L3 t251 0) 0).f1) == 0 && ((((rd_T39 (rd_L3 t251 0) 0).f2).toList) == ([] : List UInt8)))) = false := by simpa using c63
                        (try (have c63b0e := c63b0; simp only [Hand.empty_beq, Hand.nil_beq] at c63b0e))
                        (try (have c63b1 : decide (((rd_T39 (rd_L3 t251 0) 0).f0) = 0 && (((rd_T39 (rd_L3 t251 0) 0).f1) == 0 && ((((rd_T39 (rd_L3 t251 0) 0).f2).toList) == ([] : List UInt8)))) = false := by simpa using c63))
                        (try (have c63b2 : (((rd_T39 (rd_L3 t251 0) 0).f0) == 0 && (((rd_T39 (rd_L3 t251 0) 0).f1) == 0 && ((((rd_T39 (rd_L3 t251 0) 0).f2).toList) == ([] : List UInt8)))) = false := by simpa using c63))
                        (try (have c63b3 : ¬ (((rd_T39 (rd_L3 t251 0) 0).f0) = 0 && (((rd_T39 (rd_L3 t251 0) 0).f1) == 0 && ((((rd_T39 (rd_L3 t251 0) 0).f2).toList) == ([] : List UInt8)))) := by simpa using c63))
                        clear c63
                        exact absurd ((Option.some.inj H).trans hr_.out) (by decide)
                    · rw [if_neg c62] at H
                      exact absurd H (by simp)
                  · rw [if_neg c61] at H
                    exact absurd H (by simp)
                · replace c60 := Bool.eq_false_iff.mpr c60
                  subst c60
                  have H1 : (some false) = some r := by rw [if_neg (show ¬ (false = true) by decide)] at H; exact H
                  clear H
                  have H := H1
                  clear H1
                  exact absurd ((Option.some.inj H).trans hr_.out) (by decide)

/-- THE ONE PURE STATEMENT of law20_AggEnds: yours. -/
def law20_AggEnds.Pure : Prop := ∀ (l0 : List (List (S39))) (a1 : Int), Hand.WfRow 24 (Hand.WfRow 32 wfS39) l0 → (Lit.int .i64 a1).wf = true → ∃ k, law20_AggEnds.f k l0 a1 = some true
theorem law20_AggEnds.walk (P : law20_AggEnds.Pure) (A0 : Option Addr) (c0 : Nat) (l0 : List (List (S39))) (a1 : Int) (w : World) (w0 : l0.length ≤ c0 ∧ Kd.C (Kd.slice 39 k39) w A0 l0.length l0 ∧ Hand.WfRow 24 (Hand.WfRow 32 wfS39) l0) (w1 : (Lit.int .i64 a1).wf = true) :
    Calls Try.prog 7 #[.slice A0 l0.length c0, .int .i64 a1] w fun e w' => e = .returned (.bool true) ∧ Below w.heap.size w w' := by
  obtain ⟨hc0, hr0, hw0⟩ := w0
  obtain ⟨k, h⟩ := P l0 a1 hw0 w1
  refine (law20_AggEnds.calls k _ _ l0 a1 true w hr0 hc0 ⟨rfl⟩ h).mono ?_
  rintro e w' ⟨rfl, hd⟩
  exact ⟨rfl, hd⟩

end Go.Proofs.Ytedgfhijkkedaaa.PAgg
