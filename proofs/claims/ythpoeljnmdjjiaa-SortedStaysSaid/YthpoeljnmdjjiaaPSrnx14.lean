-- Written by this session's program wip/gprint/gprint.py, over the kit's print, with given functions; no text of print.sh's.
import Derived.Test.YthpoeljnmdjjiaaPSrnx0
import Derived.Test.YthpoeljnmdjjiaaPSrnx7
import Derived.Test.YthpoeljnmdjjiaaPSrnx9
import Derived.Test.YthpoeljnmdjjiaaPSrnx11
import Derived.Test.YthpoeljnmdjjiaaPSrnx12
import Derived.Test.YthpoeljnmdjjiaaPSrnx13
namespace Go.Proofs.Ythpoeljnmdjjiaa.PSrn
open Go.RowKit Go.Proofs.YthpoeljnmdjjiaaW.PrintWords Go.Proofs.YthpoeljnmdjjiaaW.PrintLast Go.Proofs.YthpoeljnmdjjiaaW.PrintMore
attribute [local go_sem] max2_int min2_int max_two min_two max_three min_three max_four min_four   -- for this text's walks alone
set_option linter.unusedVariables false
set_option linter.unusedSimpArgs false

/-! ### law16_SortedStays: function 3 -/
abbrev law16_SortedStays.Y0 : Array Bool := #[false, false, false, false, false, false, false, false, false, false, false, false, false, false, false, false, false]
abbrev law16_SortedStays.Y1 : Array Bool := #[true, false, false, false, false, false, false, false, false, false, false, false, false, false, false, false, false]
abbrev law16_SortedStays.Y2 : Array Bool := #[true, true, false, false, false, false, false, false, false, false, false, false, false, false, false, false, false]
abbrev law16_SortedStays.Y3 : Array Bool := #[true, true, true, false, false, false, false, false, false, false, false, false, false, false, false, false, false]
abbrev law16_SortedStays.Y4 : Array Bool := #[true, true, true, false, true, false, false, false, false, false, false, false, false, false, false, false, false]
abbrev law16_SortedStays.Y5 : Array Bool := #[true, true, true, false, true, true, false, false, false, false, false, false, false, false, false, false, false]
abbrev law16_SortedStays.Y6 : Array Bool := #[true, true, true, false, true, true, true, false, false, false, false, false, false, false, false, false, false]
abbrev law16_SortedStays.Y7 : Array Bool := #[true, true, true, true, true, true, true, false, false, false, false, false, false, false, false, false, false]
abbrev law16_SortedStays.Y8 : Array Bool := #[true, true, true, true, true, true, true, true, false, false, false, false, false, false, false, false, false]
abbrev law16_SortedStays.Y9 : Array Bool := #[true, true, true, true, true, true, true, true, true, false, false, false, false, false, false, false, false]
abbrev law16_SortedStays.Y10 : Array Bool := #[true, true, true, true, true, true, true, true, true, true, false, false, false, false, false, false, false]
abbrev law16_SortedStays.Y11 : Array Bool := #[true, true, true, true, true, true, true, true, true, true, true, false, false, false, false, false, false]
abbrev law16_SortedStays.Y12 : Array Bool := #[true, true, true, true, true, true, true, true, true, true, true, true, false, false, false, false, false]
abbrev law16_SortedStays.Y13 : Array Bool := #[true, true, true, true, true, true, true, true, true, true, true, true, true, false, false, false, false]
abbrev law16_SortedStays.Y14 : Array Bool := #[true, true, true, true, true, true, true, true, true, true, true, true, true, true, false, false, false]
abbrev law16_SortedStays.Y15 : Array Bool := #[true, true, true, true, true, true, true, true, true, true, true, true, true, true, true, false, false]
abbrev law16_SortedStays.Y16 : Array Bool := #[true, true, true, true, true, true, true, true, true, true, true, true, true, true, true, true, false]
abbrev law16_SortedStays.Y17 : Array Bool := #[true, true, true, true, true, true, true, true, true, true, true, true, true, true, true, true, true]
mutual
def law16_SortedStays.l0 : Nat → List Int → Bool → List (List (S28)) → List (List (S28)) → Int → Option (Bool)
 | 0, _, _, _, _, _ => none
 | k + 1, x1, x5, x6, x7, x8 => if x8 < (x6.length : Int) then ((some (([] : List (S28)) : List (S28))).bind fun y171 => (if 0 ≤ x8 then (if y171.length + (rd_L3 x6 x8).length < 4398046511104 then ((some (y171 ++ (rd_L3 x6 x8) : List (S28))).bind fun y175 => (if y175.length < 4398046511104 then (if x7.length < 5864062014805 then (law16_SortedStays.l0 k x1 x5 x6 (x7 ++ [(y175 ++ [(⟨1, x8, (⟨#[]⟩ : ByteArray)⟩ : S28)])]) (wrap64 (x8 + 1))) else (none)) else (none))) else (none)) else (none))) else (law16_SortedStays.l1 k x1 x5 x6 x7 0)
def law16_SortedStays.l1 : Nat → List Int → Bool → List (List (S28)) → List (List (S28)) → Int → Option (Bool)
 | 0, _, _, _, _, _ => none
 | k + 1, x1, x5, x6, x7, x9 => if x9 < (x1.length : Int) then (law16_SortedStays.l2 k x1 x5 x6 x7 x9 0) else ((sorted_By.f x6 x1).bind fun t187 => ((sorted_By.f x7 x1).bind fun t190 => ((sorted_Rise.f t187 x1).bind fun t193 => (if t193 = true then ((sorted_Bag.f x6 t187).bind fun t194 => (if t194 = true then ((sorted_By.f t187 x1).bind fun t195 => ((ref05_Lists.f k t195 t187).bind fun t198 => (if t198 = true then (law16_SortedStays.j3 k x1 x5 t190 ((t190.length : Int) != (x6.length : Int))) else (law16_SortedStays.j3 k x1 x5 t190 true)))) else (law16_SortedStays.j3 k x1 x5 t190 true))) else (law16_SortedStays.j3 k x1 x5 t190 true)))))
def law16_SortedStays.l2 : Nat → List Int → Bool → List (List (S28)) → List (List (S28)) → Int → Int → Option (Bool)
 | 0, _, _, _, _, _, _ => none
 | k + 1, x1, x5, x6, x7, x9, x10 => if x10 < (x6.length : Int) then (if 0 ≤ x9 then (if x9 < (x1.length : Int) then (if 0 ≤ x10 then (if (rd x1 x9) ≥ ((rd_L3 x6 x10).length : Int) then (some x5) else (if (rd x1 x9) < 0 then (some x5) else (law16_SortedStays.l2 k x1 x5 x6 x7 x9 (wrap64 (x10 + 1))))) else (none)) else (none)) else (none)) else (law16_SortedStays.l1 k x1 x5 x6 x7 (wrap64 (x9 + 1)))
def law16_SortedStays.j3 : Nat → List Int → Bool → List (List (S28)) → Bool → Option (Bool)
 | 0, _, _, _, _ => none
 | k + 1, x1, x5, x12, x102 => if x102 = true then (some false) else (law16_SortedStays.l3 k x1 x5 x12 1)
def law16_SortedStays.l3 : Nat → List Int → Bool → List (List (S28)) → Int → Option (Bool)
 | 0, _, _, _, _ => none
 | k + 1, x1, x5, x12, x13 => if x13 < (x12.length : Int) then (if 0 ≤ (wrap64 (x13 - 1)) then (if (wrap64 (x13 - 1)) < (x12.length : Int) then (if 0 ≤ (wrap64 (((rd_L3 x12 (wrap64 (x13 - 1))).length : Int) - 1)) then (if (wrap64 (((rd_L3 x12 (wrap64 (x13 - 1))).length : Int) - 1)) < ((rd_L3 x12 (wrap64 (x13 - 1))).length : Int) then (if 0 ≤ x13 then (if 0 ≤ (wrap64 (((rd_L3 x12 x13).length : Int) - 1)) then (if (wrap64 (((rd_L3 x12 x13).length : Int) - 1)) < ((rd_L3 x12 x13).length : Int) then ((ref16_Order.f k (rd_L3 x12 (wrap64 (x13 - 1))) (rd_L3 x12 x13) x1).bind fun t207 => (if t207 = 0 then (if ((rd_T28 (rd_L3 x12 (wrap64 (x13 - 1))) (wrap64 (((rd_L3 x12 (wrap64 (x13 - 1))).length : Int) - 1))).f1) ≥ ((rd_T28 (rd_L3 x12 x13) (wrap64 (((rd_L3 x12 x13).length : Int) - 1))).f1) then (some false) else (law16_SortedStays.l3 k x1 x5 x12 (wrap64 (x13 + 1)))) else (law16_SortedStays.l3 k x1 x5 x12 (wrap64 (x13 + 1))))) else (none)) else (none)) else (none)) else (none)) else (none)) else (none)) else (none)) else (some x5)
end
def law16_SortedStays.f (k : Nat) (l0 : List (List (S28))) (l1 : List Int) : Option (Bool) := (law16_shown.f).bind fun t167 => ((law16_few.f k l0).bind fun t168 => (if (l1.length : Int) > 9 then (some t167) else (law16_SortedStays.l0 k l1 t167 t168 ([] : List (List (S28))) 0)))
theorem law16_SortedStays.mono_l : ∀ k, (∀ y0 y1 y2 y3 y4, LeO (law16_SortedStays.l0 k y0 y1 y2 y3 y4) (law16_SortedStays.l0 (k + 1) y0 y1 y2 y3 y4)) ∧ (∀ y0 y1 y2 y3 y4, LeO (law16_SortedStays.l1 k y0 y1 y2 y3 y4) (law16_SortedStays.l1 (k + 1) y0 y1 y2 y3 y4)) ∧ (∀ y0 y1 y2 y3 y4 y5, LeO (law16_SortedStays.l2 k y0 y1 y2 y3 y4 y5) (law16_SortedStays.l2 (k + 1) y0 y1 y2 y3 y4 y5)) ∧ (∀ y0 y1 y2 y3, LeO (law16_SortedStays.j3 k y0 y1 y2 y3) (law16_SortedStays.j3 (k + 1) y0 y1 y2 y3)) ∧ (∀ y0 y1 y2 y3, LeO (law16_SortedStays.l3 k y0 y1 y2 y3) (law16_SortedStays.l3 (k + 1) y0 y1 y2 y3))
 | 0 => ⟨fun _ _ _ _ _ r h => by simp [law16_SortedStays.l0] at h, fun _ _ _ _ _ r h => by simp [law16_SortedStays.l1] at h, fun _ _ _ _ _ _ r h => by simp [law16_SortedStays.l2] at h, fun _ _ _ _ r h => by simp [law16_SortedStays.j3] at h, fun _ _ _ _ r h => by simp [law16_SortedStays.l3] at h⟩
 | k + 1 => by
  obtain ⟨ih0, ih1, ih2, ih3, ih4⟩ := law16_SortedStays.mono_l k
  refine ⟨?_, ?_, ?_, ?_, ?_⟩
  ·
   intro y0 y1 y2 y3 y4
   unfold law16_SortedStays.l0
   repeat' first
   | (with_reducible exact ih0 _ _ _ _ _)
   | (with_reducible exact ih1 _ _ _ _ _)
   | (with_reducible exact ih2 _ _ _ _ _ _)
   | (with_reducible exact ih3 _ _ _ _)
   | (with_reducible exact ih4 _ _ _ _)
   | (with_reducible exact law16_few.mono _ _)
   | (with_reducible exact ref05_Lists.mono _ _ _)
   | (with_reducible exact ref16_Order.mono _ _ _ _)
   | (with_reducible exact LeO.refl _)
   | (with_reducible exact LeO.none _)
   | (with_reducible refine LeO.ite ?_ ?_)
   | (with_reducible refine LeO.bind ?_ (fun _ => ?_))
   | exact ih0 _ _ _ _ _
   | exact ih1 _ _ _ _ _
   | exact ih2 _ _ _ _ _ _
   | exact ih3 _ _ _ _
   | exact ih4 _ _ _ _
   | exact law16_few.mono _ _
   | exact ref05_Lists.mono _ _ _
   | exact ref16_Order.mono _ _ _ _
   | exact LeO.none _
   | refine LeO.ite ?_ ?_
   | refine LeO.bind ?_ (fun _ => ?_)
  ·
   intro y0 y1 y2 y3 y4
   unfold law16_SortedStays.l1
   repeat' first
   | (with_reducible exact ih0 _ _ _ _ _)
   | (with_reducible exact ih1 _ _ _ _ _)
   | (with_reducible exact ih2 _ _ _ _ _ _)
   | (with_reducible exact ih3 _ _ _ _)
   | (with_reducible exact ih4 _ _ _ _)
   | (with_reducible exact law16_few.mono _ _)
   | (with_reducible exact ref05_Lists.mono _ _ _)
   | (with_reducible exact ref16_Order.mono _ _ _ _)
   | (with_reducible exact LeO.refl _)
   | (with_reducible exact LeO.none _)
   | (with_reducible refine LeO.ite ?_ ?_)
   | (with_reducible refine LeO.bind ?_ (fun _ => ?_))
   | exact ih0 _ _ _ _ _
   | exact ih1 _ _ _ _ _
   | exact ih2 _ _ _ _ _ _
   | exact ih3 _ _ _ _
   | exact ih4 _ _ _ _
   | exact law16_few.mono _ _
   | exact ref05_Lists.mono _ _ _
   | exact ref16_Order.mono _ _ _ _
   | exact LeO.none _
   | refine LeO.ite ?_ ?_
   | refine LeO.bind ?_ (fun _ => ?_)
  ·
   intro y0 y1 y2 y3 y4 y5
   unfold law16_SortedStays.l2
   repeat' first
   | (with_reducible exact ih0 _ _ _ _ _)
   | (with_reducible exact ih1 _ _ _ _ _)
   | (with_reducible exact ih2 _ _ _ _ _ _)
   | (with_reducible exact ih3 _ _ _ _)
   | (with_reducible exact ih4 _ _ _ _)
   | (with_reducible exact law16_few.mono _ _)
   | (with_reducible exact ref05_Lists.mono _ _ _)
   | (with_reducible exact ref16_Order.mono _ _ _ _)
   | (with_reducible exact LeO.refl _)
   | (with_reducible exact LeO.none _)
   | (with_reducible refine LeO.ite ?_ ?_)
   | (with_reducible refine LeO.bind ?_ (fun _ => ?_))
   | exact ih0 _ _ _ _ _
   | exact ih1 _ _ _ _ _
   | exact ih2 _ _ _ _ _ _
   | exact ih3 _ _ _ _
   | exact ih4 _ _ _ _
   | exact law16_few.mono _ _
   | exact ref05_Lists.mono _ _ _
   | exact ref16_Order.mono _ _ _ _
   | exact LeO.none _
   | refine LeO.ite ?_ ?_
   | refine LeO.bind ?_ (fun _ => ?_)
  ·
   intro y0 y1 y2 y3
   unfold law16_SortedStays.j3
   repeat' first
   | (with_reducible exact ih0 _ _ _ _ _)
   | (with_reducible exact ih1 _ _ _ _ _)
   | (with_reducible exact ih2 _ _ _ _ _ _)
   | (with_reducible exact ih3 _ _ _ _)
   | (with_reducible exact ih4 _ _ _ _)
   | (with_reducible exact law16_few.mono _ _)
   | (with_reducible exact ref05_Lists.mono _ _ _)
   | (with_reducible exact ref16_Order.mono _ _ _ _)
   | (with_reducible exact LeO.refl _)
   | (with_reducible exact LeO.none _)
   | (with_reducible refine LeO.ite ?_ ?_)
   | (with_reducible refine LeO.bind ?_ (fun _ => ?_))
   | exact ih0 _ _ _ _ _
   | exact ih1 _ _ _ _ _
   | exact ih2 _ _ _ _ _ _
   | exact ih3 _ _ _ _
   | exact ih4 _ _ _ _
   | exact law16_few.mono _ _
   | exact ref05_Lists.mono _ _ _
   | exact ref16_Order.mono _ _ _ _
   | exact LeO.none _
   | refine LeO.ite ?_ ?_
   | refine LeO.bind ?_ (fun _ => ?_)
  ·
   intro y0 y1 y2 y3
   unfold law16_SortedStays.l3
   repeat' first
   | (with_reducible exact ih0 _ _ _ _ _)
   | (with_reducible exact ih1 _ _ _ _ _)
   | (with_reducible exact ih2 _ _ _ _ _ _)
   | (with_reducible exact ih3 _ _ _ _)
   | (with_reducible exact ih4 _ _ _ _)
   | (with_reducible exact law16_few.mono _ _)
   | (with_reducible exact ref05_Lists.mono _ _ _)
   | (with_reducible exact ref16_Order.mono _ _ _ _)
   | (with_reducible exact LeO.refl _)
   | (with_reducible exact LeO.none _)
   | (with_reducible refine LeO.ite ?_ ?_)
   | (with_reducible refine LeO.bind ?_ (fun _ => ?_))
   | exact ih0 _ _ _ _ _
   | exact ih1 _ _ _ _ _
   | exact ih2 _ _ _ _ _ _
   | exact ih3 _ _ _ _
   | exact ih4 _ _ _ _
   | exact law16_few.mono _ _
   | exact ref05_Lists.mono _ _ _
   | exact ref16_Order.mono _ _ _ _
   | exact LeO.none _
   | refine LeO.ite ?_ ?_
   | refine LeO.bind ?_ (fun _ => ?_)
theorem law16_SortedStays.mono : ∀ a0 a1 k, LeO (law16_SortedStays.f k a0 a1) (law16_SortedStays.f (k + 1) a0 a1) := by
 intro a0 a1 k
 obtain ⟨ih0, ih1, ih2, ih3, ih4⟩ := law16_SortedStays.mono_l k
 unfold law16_SortedStays.f
 repeat' first
   | (with_reducible exact ih0 _ _ _ _ _)
   | (with_reducible exact ih1 _ _ _ _ _)
   | (with_reducible exact ih2 _ _ _ _ _ _)
   | (with_reducible exact ih3 _ _ _ _)
   | (with_reducible exact ih4 _ _ _ _)
   | (with_reducible exact law16_few.mono _ _)
   | (with_reducible exact ref05_Lists.mono _ _ _)
   | (with_reducible exact ref16_Order.mono _ _ _ _)
   | (with_reducible exact LeO.refl _)
   | (with_reducible exact LeO.none _)
   | (with_reducible refine LeO.ite ?_ ?_)
   | (with_reducible refine LeO.bind ?_ (fun _ => ?_))
   | exact ih0 _ _ _ _ _
   | exact ih1 _ _ _ _ _
   | exact ih2 _ _ _ _ _ _
   | exact ih3 _ _ _ _
   | exact ih4 _ _ _ _
   | exact law16_few.mono _ _
   | exact ref05_Lists.mono _ _ _
   | exact ref16_Order.mono _ _ _ _
   | exact LeO.none _
   | refine LeO.ite ?_ ?_
   | refine LeO.bind ?_ (fun _ => ?_)
def law16_SortedStays.T16 : Bool × List (List Nat × List Nat) := (true, [([], []), ([], []), ([0, 1], [0, 1]), ([2], [2]), ([], []), ([], []), ([4, 5], [4, 5]), ([6], [6]), ([7], [7]), ([3, 8], [3, 8]), ([9], [9]), ([10], [10]), ([10], [10]), ([11, 12, 10], [10, 11, 12]), ([13, 10], [10, 13]), ([14, 10], [10, 14]), ([10, 15], [10, 15])])
def law16_SortedStays.B16 : List Nat := [0, 0, 3, 7, 0, 0, 48, 112, 240, 511, 1023, 2047, 2047, 8191, 16383, 32767, 65535]
theorem law16_SortedStays.tab16 : rtab .any (opsOf Try.f3 16) = law16_SortedStays.T16 := by kernel_rfl
theorem law16_SortedStays.bits16 : waitsOk law16_SortedStays.T16.2 law16_SortedStays.B16 = true := by kernel_rfl
def law16_SortedStays.T25 : Bool × List (List Nat × List Nat) := (true, [([], []), ([], []), ([1], [1]), ([0, 2], [0, 2]), ([3], [3]), ([], []), ([], []), ([6], [6]), ([5, 7], [5, 7]), ([8], [8]), ([9], [9]), ([10], [10]), ([4, 11], [4, 11]), ([12], [12]), ([13], [13]), ([14, 0, 1, 2, 3, 4, 5, 6, 7, 8, 9, 10, 11, 12, 13, 14], [14])])
def law16_SortedStays.B25 : List Nat := [0, 0, 2, 7, 15, 0, 0, 64, 224, 480, 992, 2016, 4095, 8191, 16383, 32767]
theorem law16_SortedStays.tab25 : rtab .any (opsOf Try.f3 25) = law16_SortedStays.T25 := by kernel_rfl
theorem law16_SortedStays.bits25 : waitsOk law16_SortedStays.T25.2 law16_SortedStays.B25 = true := by kernel_rfl
def law16_SortedStays.T26 : Bool × List (List Nat × List Nat) := (true, [([], []), ([], []), ([0, 1], [0, 1]), ([2], [2]), ([], []), ([], []), ([4, 5], [4, 5]), ([6], [6]), ([7], [7]), ([8], [8]), ([3, 9], [3, 9]), ([10], [10]), ([11], [11]), ([12, 0, 1, 2, 3, 4, 5, 6, 7, 8, 9, 10, 11, 12], [12])])
def law16_SortedStays.B26 : List Nat := [0, 0, 3, 7, 0, 0, 48, 112, 240, 496, 1023, 2047, 4095, 8191]
theorem law16_SortedStays.tab26 : rtab .any (opsOf Try.f3 26) = law16_SortedStays.T26 := by kernel_rfl
theorem law16_SortedStays.bits26 : waitsOk law16_SortedStays.T26.2 law16_SortedStays.B26 = true := by kernel_rfl
def law16_SortedStays.T27 : Bool × List (List Nat × List Nat) := (true, [([], []), ([], []), ([1], [1]), ([0, 2], [0, 2]), ([3], [3]), ([], []), ([], []), ([5, 6], [5, 6]), ([7], [7]), ([], []), ([4, 8, 9], [4, 8, 9]), ([10], [10]), ([11, 10], [11]), ([12], [12]), ([12], [12]), ([13, 14, 12], [12, 13, 14]), ([12, 15], [12, 15])])
def law16_SortedStays.B27 : List Nat := [0, 0, 2, 7, 15, 0, 0, 96, 224, 0, 1023, 2047, 4095, 8191, 8191, 32767, 65535]
theorem law16_SortedStays.tab27 : rtab .any (opsOf Try.f3 27) = law16_SortedStays.T27 := by kernel_rfl
theorem law16_SortedStays.bits27 : waitsOk law16_SortedStays.T27.2 law16_SortedStays.B27 = true := by kernel_rfl
set_option maxHeartbeats 8000000 in
set_option maxRecDepth 100000 in
theorem law16_SortedStays.calls (k : Nat) (A0 : Option Addr) (c0 : Nat) (l0 : List (List (S28))) (A1 : Option Addr) (c1 : Nat) (l1 : List Int) (r : Bool) (w : World) (hr0 : Kd.C (Kd.slice 28 k28) w A0 l0.length l0) (hc0 : l0.length ≤ c0) (hr1 : Kd.C (Kd.int .i64) w A1 l1.length l1) (hc1 : l1.length ≤ c1) (hr_ : Aside0 (r = true)) (h : law16_SortedStays.f k l0 l1 = some r) :
  Calls Try.prog 3 #[.slice A0 l0.length c0, .slice A1 l1.length c1] w fun e w' => e = .returned (.bool r) ∧ Below w.heap.size w w' := by
 have hu28 := Try.underlying28
 have HR0 := Aside0.mk hr0
 have HC0 := Aside0.mk hc0
 clear hr0 hc0
 have HR1 := Aside0.mk hr1
 have HC1 := Aside0.mk hc1
 clear hr1 hc1
 have HB := Aside0.mk (Below.refl w.heap.size w)
 have H : ((law16_shown.f).bind fun t167 => ((law16_few.f k l0).bind fun t168 => (if (l1.length : Int) > 9 then (some t167) else (law16_SortedStays.l0 k l1 t167 t168 ([] : List (List (S28))) 0)))) = some r := h
 clear h
 replace H := Option.bind_eq_some_iff.mp H
 obtain ⟨t167, A30, H⟩ := H
 replace H : ((law16_few.f k l0).bind fun t168 => (if (l1.length : Int) > 9 then (some t167) else (law16_SortedStays.l0 k l1 t167 t168 ([] : List (List (S28))) 0))) = some r := H
 have A3 := Aside0.mk A30
 clear A30
 replace H := Option.bind_eq_some_iff.mp H
 obtain ⟨t168, A40, H⟩ := H
 replace H : (if (l1.length : Int) > 9 then (some t167) else (law16_SortedStays.l0 k l1 t167 t168 ([] : List (List (S28))) 0)) = some r := H
 have A4 := Aside0.mk A40
 clear A40
 by_cases c5 : (l1.length : Int) > 9
 ·
  rw [if_pos c5] at H
  have c5b0 : decide (9 < (l1.length : Int)) = true := decide_eq_true c5
  have c5b1 : decide (9 < l1.length) = true := decide_eq_true (by omega)
  clear c5
  obtain rfl := Option.some.inj H
  go_enter Try.func3, Try.ntmps3
  go_wp2_with (first | ((with_reducible refine gate_callee (f := 9) rfl ?_); refine goesL_ (some 16) rfl rfl Try.func9 (by kernel_rfl) rfl #[] rfl (by (try simp only [List.map_toArray, List.map_cons, List.map_nil]); first | done | rfl | (simp only [List.length_drop, List.length_take]; rfl)) ?_; (with_reducible refine (law16_shown.calls  t167 _ A3.out).mono ?_); rintro e w6 ⟨rfl, hb⟩; refine ⟨_, rfl, ?_⟩; have n0_ := Aside0.mk (below_step (by repeat (first | (with_reducible first | exact HB.out | apply below_alloc | apply pw_below_drewN | apply below_drew1) | exact HB.out)) hb); clear HB; have HB := n0_; clear n0_; (try clear hb); (try clear hb2); (try clear hk); (try clear hi)) | ((with_reducible refine gate_callee (f := 10) rfl ?_); refine goesL_ (some 18) rfl rfl Try.func10 (by kernel_rfl) rfl #[.slice A0 l0.length c0] rfl (by (try simp only [List.map_toArray, List.map_cons, List.map_nil]); first | done | rfl | (simp only [List.length_drop, List.length_take]; rfl)) ?_; (with_reducible refine (law16_few.calls k (fun k_ => k_ < w.heap.size) _ _ l0 t168 _ ?side1 A4.out).mono ?_); (case side1 => exact Kd.V_mk HC0.out (Kd.F_below (Kd.C_F (Kd.heap_slice 28 k28_heap) HR0.out) (by repeat (first | (with_reducible first | exact HB.out | apply below_alloc | apply pw_below_drewN | apply below_drew1) | exact HB.out)))); rintro e w7 ⟨v169, rfl, ho0, hb⟩; refine ⟨_, rfl, ?_⟩; have n0_ := Aside0.mk (Kd.N_lower (Kd.N_mono (ok' := fun k_ => True) ho0 (fun k_ hk_ => trivial)) (below_size (by repeat (first | (with_reducible first | exact HB.out | apply below_alloc | apply pw_below_drewN | apply below_drew1) | exact HB.out)))); have n1_ := Aside0.mk (below_step (by repeat (first | (with_reducible first | exact HB.out | apply below_alloc | apply pw_below_drewN | apply below_drew1) | exact HB.out)) hb); clear HB; have HO170 := n0_; have HB := n1_; clear n0_ n1_; (try clear hb); (try clear hb2); (try clear hk); (try clear hi); (try clear ho0)))
  go_ret
  exact ⟨by first | rfl | (simp [errW_none, errW_some] <;> rfl) | (simp [*, errW_none, errW_some] <;> rfl), by repeat (first | (with_reducible first | exact HB.out | apply below_alloc | apply pw_below_drewN | apply below_drew1) | exact HB.out)⟩
 ·
  rw [if_neg c5] at H
  have c5b0 : decide (9 < (l1.length : Int)) = false := decide_eq_false c5
  have c5b1 : decide (9 < l1.length) = false := decide_eq_false (by omega)
  clear c5
  have H' := Aside0.mk H
  clear H
  go_enter Try.func3, Try.ntmps3
  go_wp2_with (first | ((with_reducible refine gate_callee (f := 9) rfl ?_); refine goesL_ (some 16) rfl rfl Try.func9 (by kernel_rfl) rfl #[] rfl (by (try simp only [List.map_toArray, List.map_cons, List.map_nil]); first | done | rfl | (simp only [List.length_drop, List.length_take]; rfl)) ?_; (with_reducible refine (law16_shown.calls  t167 _ A3.out).mono ?_); rintro e w8 ⟨rfl, hb⟩; refine ⟨_, rfl, ?_⟩; have n0_ := Aside0.mk (below_step (by repeat (first | (with_reducible first | exact HB.out | apply below_alloc | apply pw_below_drewN | apply below_drew1) | exact HB.out)) hb); clear HB; have HB := n0_; clear n0_; (try clear hb); (try clear hb2); (try clear hk); (try clear hi)) | ((with_reducible refine gate_callee (f := 10) rfl ?_); refine goesL_ (some 18) rfl rfl Try.func10 (by kernel_rfl) rfl #[.slice A0 l0.length c0] rfl (by (try simp only [List.map_toArray, List.map_cons, List.map_nil]); first | done | rfl | (simp only [List.length_drop, List.length_take]; rfl)) ?_; (with_reducible refine (law16_few.calls k (fun k_ => k_ < w.heap.size) _ _ l0 t168 _ ?side1 A4.out).mono ?_); (case side1 => exact Kd.V_mk HC0.out (Kd.F_below (Kd.C_F (Kd.heap_slice 28 k28_heap) HR0.out) (by repeat (first | (with_reducible first | exact HB.out | apply below_alloc | apply pw_below_drewN | apply below_drew1) | exact HB.out)))); rintro e w9 ⟨v169, rfl, ho0, hb⟩; refine ⟨_, rfl, ?_⟩; have n0_ := Aside0.mk (Kd.N_lower (Kd.N_mono (ok' := fun k_ => True) ho0 (fun k_ hk_ => trivial)) (below_size (by repeat (first | (with_reducible first | exact HB.out | apply below_alloc | apply pw_below_drewN | apply below_drew1) | exact HB.out)))); have n1_ := Aside0.mk (below_step (by repeat (first | (with_reducible first | exact HB.out | apply below_alloc | apply pw_below_drewN | apply below_drew1) | exact HB.out)) hb); clear HB; have HO170 := n0_; have HB := n1_; clear n0_ n1_; (try clear hb); (try clear hb2); (try clear hk); (try clear hi); (try clear ho0)))
  go_loopg [7, 8] k (fun kq v7 v8 w' => ∃ (x7_1 : List (List (S28))) (x8_1 : Int), v8 = .int .i64 x8_1 ∧ Aside0 (law16_SortedStays.l0 kq l1 t167 t168 x7_1 x8_1 = some r) ∧ Aside0 (kq ≤ k) ∧ Aside0 (Kd.N (Kd.slice 28 k28) 26 w' w.heap.size (fun k_ => some k_ ≠ (v7 : Value).ownBlock) v169 t168) ∧ Aside0 (Kd.N (Kd.slice 28 k28) 26 w' w.heap.size (fun k_ => some k_ ≠ (v169 : Value).ownBlock) v7 x7_1) ∧ Aside0 (Below w.heap.size w w'))
  case atStart => exact ⟨(([] : List (List (S28)))), (0), (by first | rfl | (simp; done) | (simp [*]; done)), H', ⟨Nat.le_refl _⟩, ⟨by (with_reducible repeat (first | apply Kd.N_alloc | apply Kd.N_drewN | apply Kd.N_drew)); exact Kd.N_mono HO170.out (fun _ hk => (by simp [Value.ownBlock]))⟩, ⟨by first | exact Kd.S_nil _ _ _ _ _ | exact Kd.N_nil _ _ _ _ _ | exact Kd.V_nil _ _ _ _ _ | exact Kd.Q_nil _ _ _ _ _ | exact Kd.R_nil _ _ _ _ _⟩, ⟨by repeat (first | (with_reducible first | exact HB.out | apply below_alloc | apply pw_below_drewN | apply below_drew1) | exact HB.out)⟩⟩
  case round =>
   clear H'
   try clear c1
   try clear p2
   try clear c3
   try clear c5
   try clear c5b0
   try clear c5b1
   try clear c9
   obtain ⟨x7_1, x8_1, rfl, HA, HK1, HO_6, HO_7, HB⟩ := hrel
   cases gk with
   | zero => exact absurd HA.out (by simp [law16_SortedStays.l0])
   | succ k1 =>
    have H := HA.out
    clear HA
    simp only [law16_SortedStays.l0] at H
    by_cases c10 : x8_1 < (t168.length : Int)
    ·
     rw [if_pos c10] at H
     have c10b0 : decide (x8_1 < (t168.length : Int)) = true := decide_eq_true c10
     clear c10
     obtain ⟨y171, hy171⟩ : ∃ y_ : List (S28), y_ = (([] : List (S28))) := ⟨_, rfl⟩
     replace H : (if 0 ≤ x8_1 then (if y171.length + (rd_L3 t168 x8_1).length < 4398046511104 then ((some (y171 ++ (rd_L3 t168 x8_1) : List (S28))).bind fun y175 => (if y175.length < 4398046511104 then (if x7_1.length < 5864062014805 then (law16_SortedStays.l0 k1 l1 t167 t168 (x7_1 ++ [(y175 ++ [(⟨1, x8_1, (⟨#[]⟩ : ByteArray)⟩ : S28)])]) (wrap64 (x8_1 + 1))) else (none)) else (none))) else (none)) else (none)) = some r := by first | (rw [hy171]; with_reducible exact H) | (have H2_ := (Option.bind_some _ _).symm.trans H; rw [hy171]; with_reducible exact H2_) | (have H2_ := (Option.bind_some _ _).symm.trans H; with_reducible exact H2_) | with_reducible exact H | (rw [hy171]; exact H) | exact H
     have Ny171 := Aside0.mk hy171
     clear hy171
     by_cases c11 : 0 ≤ x8_1
     ·
      rw [if_pos c11] at H
      have c11b0 : decide (0 ≤ x8_1) = true := decide_eq_true c11
      clear c11
      by_cases c12 : y171.length + (rd_L3 t168 x8_1).length < 4398046511104
      ·
       rw [if_pos c12] at H
       have LMc12 := Aside0.mk c12
       clear c12
       obtain ⟨y175, hy175⟩ : ∃ y_ : List (S28), y_ = (y171 ++ (rd_L3 t168 x8_1)) := ⟨_, rfl⟩
       replace H : (if y175.length < 4398046511104 then (if x7_1.length < 5864062014805 then (law16_SortedStays.l0 k1 l1 t167 t168 (x7_1 ++ [(y175 ++ [(⟨1, x8_1, (⟨#[]⟩ : ByteArray)⟩ : S28)])]) (wrap64 (x8_1 + 1))) else (none)) else (none)) = some r := by first | (rw [hy175]; with_reducible exact H) | (have H2_ := (Option.bind_some _ _).symm.trans H; rw [hy175]; with_reducible exact H2_) | (have H2_ := (Option.bind_some _ _).symm.trans H; with_reducible exact H2_) | with_reducible exact H | (rw [hy175]; exact H) | exact H
       have Ny175 := Aside0.mk hy175
       clear hy175
       by_cases c13 : y175.length < 4398046511104
       ·
        rw [if_pos c13] at H
        have LMc13 := Aside0.mk c13
        clear c13
        obtain ⟨y178, hy178⟩ : ∃ y_ : List (S28), y_ = (y175 ++ [(⟨1, x8_1, (⟨#[]⟩ : ByteArray)⟩ : S28)]) := ⟨_, rfl⟩
        replace H : (if x7_1.length < 5864062014805 then (law16_SortedStays.l0 k1 l1 t167 t168 (x7_1 ++ [y178]) (wrap64 (x8_1 + 1))) else (none)) = some r := by first | (rw [hy178]; with_reducible exact H) | (have H2_ := (Option.bind_some _ _).symm.trans H; rw [hy178]; with_reducible exact H2_) | (have H2_ := (Option.bind_some _ _).symm.trans H; with_reducible exact H2_) | with_reducible exact H | (rw [hy178]; exact H) | exact H
        have Ny178 := Aside0.mk hy178
        clear hy178
        by_cases c14 : x7_1.length < 5864062014805
        ·
         rw [if_pos c14] at H
         have LMc14 := Aside0.mk c14
         clear c14
         obtain ⟨y181, hy181⟩ : ∃ y_ : List (List (S28)), y_ = (x7_1 ++ [y178]) := ⟨_, rfl⟩
         replace H : (law16_SortedStays.l0 k1 l1 t167 t168 y181 (wrap64 (x8_1 + 1))) = some r := by first | (rw [hy181]; with_reducible exact H) | (have H2_ := (Option.bind_some _ _).symm.trans H; rw [hy181]; with_reducible exact H2_) | (have H2_ := (Option.bind_some _ _).symm.trans H; with_reducible exact H2_) | with_reducible exact H | (rw [hy181]; exact H) | exact H
         have Ny181 := Aside0.mk hy181
         clear hy181
         have H' := Aside0.mk H
         clear H
         obtain ⟨Ao15, co15, eo15⟩ := Kd.N_slice HO_6.out
         subst eo15
         go_wp2_with (first | ((with_reducible refine gate_dst (N := 30) rfl ?_); (try (refine gate_guard (by rfl) ?_; dsimp only)); refine Kd.R_lit k28 _ 28 ?hg (N := 30) ?hd (xs := ([] : List (S28))) (inner := []) (ok := fun _ => True) (okp := fun _ => True) ?hr ?hp (fun _ hk => hk) trivial (Below.refl _ _) (Nat.le_refl _) (by simp) ?_; (case hd => rfl); (case hg => rfl); (case hr => first | (go_simp; done) | (go_simp; rfl)); (case hp => exact (Reps.none _ _)); intro v172 w16 ho17 hb hg_ hnew_; clear hg_ hnew_; (first | rw [← Ny171.out] at ho17 | (simp only [Int.reduceToNat] at ho17; rw [← Ny171.out] at ho17)); have n0_ := Aside0.mk (Kd.N_elder' (by (with_reducible repeat (first | apply Kd.N_alloc | apply Kd.N_drewN | apply Kd.N_drew)); exact HO_6.out) (Kd.R_base ho17) hb); have n1_ := Aside0.mk (Kd.N_elder' (by (with_reducible repeat (first | apply Kd.N_alloc | apply Kd.N_drewN | apply Kd.N_drew)); exact HO_7.out) (Kd.R_base ho17) hb); have n2_ := Aside0.mk (Kd.R_lower ho17 (below_size (by repeat (first | (with_reducible first | exact HB.out | apply below_alloc | apply pw_below_drewN | apply below_drew1) | exact HB.out)))); have n3_ := Aside0.mk (below_step (by repeat (first | (with_reducible first | exact HB.out | apply below_alloc | apply pw_below_drewN | apply below_drew1) | exact HB.out)) hb); clear HO_6; clear HO_7; clear HB; have HO_6 := n0_; have HO_7 := n1_; have HO173 := n2_; have HB := n3_; clear n0_ n1_ n2_ n3_; clear hb ho17; have p174 : 0 ≤ (x8_1 : Int) := of_decide_eq_true (by first | (with_reducible assumption) | assumption); have q174 : x8_1 < (t168.length : Int) := of_decide_eq_true (by first | (with_reducible assumption) | assumption); obtain ⟨ad174, A174_0, c174_0, e174, hx174_0, hl174_0, hi174_0⟩ := at_L3 (Kd.N_reads' HO_6.out).2.2 x8_1 p174 q174; cases e174; obtain ⟨ce174, hce174, hMe174, hcc174⟩ := Kd.N_get HO_6.out [] x8_1 p174 (by first | exact q174 | exact of_decide_eq_true (by first | (with_reducible assumption) | assumption) | (have e_ := (Kd.N_reads' HO_6.out).1; omega)); obtain ⟨ua174_0, uc174_0, rfl, ul174_0, ge174_0⟩ := Kd.FK_slice_open hMe174; have hv174_0 := hcc174 0 _ rfl; rw [Nat.add_zero, show ((Kd.slice 28 k28)).sz = 1 from rfl, Nat.mul_one] at hv174_0; replace hv174_0 := Option.some.inj (hv174_0.symm.trans hx174_0); injection hv174_0 with hva_ hvn_ hvc_; rw [hva_] at ge174_0; rw [hvc_] at ul174_0; have HL174_0 := Aside0.mk (show Kd.V k28 28 _ w.heap.size _ _ (rd_L3 t168 x8_1) from Kd.V_mk ul174_0 ge174_0); clear hva_ hvn_ hvc_ ge174_0 ul174_0; clear hcc174 hce174; have HR174_0 := Aside0.mk hi174_0; have HC174_0 := Aside0.mk hl174_0; clear hi174_0 hl174_0; replace p174 := eq_true p174; replace q174 := eq_true q174) | ((with_reducible refine gate_builtin (b := .append) (xs := #[.tmp 30, .tmp 34]) rfl ?_); (try (refine gate_guard (by rfl) ?_; dsimp only)); at_builtin; refine Kd.R_append_rows k28 (w0 := w) w.heap.size rfl (.tmp 30) (.tmp 34) 26 28 (.agg #[(.int .i64 0), (.int .i64 0), (.string ⟨#[]⟩)]) 32 rfl Try.underlying26 info28 rfl (by decide) (by omega) v172 y171 (rd_L3 t168 x8_1) _ _ _ (fun _ => True) (fun _ => False) rfl rfl ?aO ?aR (fun _ _ h => h) (fun _ h => h.elim) ?aF ?aB ?aS ?aL ?_; (case aR => repeat (first | exact (by repeat (first | (with_reducible exact HR174_0.out) | (with_reducible refine Kd.C_alloc ?_ _) | (with_reducible refine Kd.C_drewN ?_ _) | (with_reducible refine Kd.C_drew ?_) | exact HR174_0.out)) | (with_reducible refine Kd.C_alloc ?_ _) | (with_reducible refine Kd.C_drewN ?_ _) | (with_reducible refine Kd.C_drew ?_))); (case aB => exact (by repeat (first | (with_reducible first | exact HB.out | apply below_alloc | apply pw_below_drewN | apply below_drew1) | exact HB.out))); (case aF => exact (fun _ _ => trivial)); (case aO => exact (by (with_reducible repeat (first | apply Kd.R_alloc | apply Kd.R_drewN | apply Kd.R_drew)); exact HO173.out)); (case aS => exact (below_size (by repeat (first | (with_reducible first | exact HB.out | apply below_alloc | apply pw_below_drewN | apply below_drew1) | exact HB.out)))); (case aL => have := LMc12.out; omega); intro v176 w18 ho hb hg hat; rw [← Ny175.out] at ho; have n0_ := Aside0.mk (Kd.N_afterv (ok := (fun k_ => some k_ ≠ (u7 : Value).ownBlock)) (by (with_reducible repeat (first | apply Kd.N_alloc | apply Kd.N_drewN | apply Kd.N_drew)); exact HO_6.out) hg hat); have n1_ := Aside0.mk (Kd.N_afterv (ok := (fun k_ => some k_ ≠ (.slice (some ad174) t168.length co15 : Value).ownBlock)) (by (with_reducible repeat (first | apply Kd.N_alloc | apply Kd.N_drewN | apply Kd.N_drew)); exact HO_7.out) hg hat); have n2_ := Aside0.mk (Kd.V_afterv (ok := (fun k_ => some k_ ≠ (.slice (some ad174) t168.length co15 : Value).ownBlock ∧ some k_ ≠ (u7 : Value).ownBlock)) (by (with_reducible repeat (first | apply Kd.V_alloc | apply Kd.V_drewN | apply Kd.V_drew)); exact Kd.V_mono HL174_0.out (fun _ hk => ⟨⟨hk.2, hk.1.1⟩, hk.1.2⟩)) hg hat); have n3_ := Aside0.mk (hb); have n4_ := Aside0.mk (ho); clear HO_6; clear HO_7; clear HL174_0; clear HB; clear HO173; have HO_6 := n0_; have HO_7 := n1_; have HL174_0 := n2_; have HB := n3_; have HO177 := n4_; clear n0_ n1_ n2_ n3_ n4_; clear ho hb hg hat) | ((with_reducible refine gate_builtin (b := .append) (xs := #[.tmp 35, .tmp 38]) rfl ?_); (try (refine gate_guard (by rfl) ?_; dsimp only)); at_builtin; refine Kd.R_append k28 (w0 := w) w.heap.size rfl (.tmp 35) (.tmp 38) 26 28 (.agg #[(.int .i64 0), (.int .i64 0), (.string ⟨#[]⟩)]) 32 rfl Try.underlying26 info28 rfl (by decide) (by omega) v176 y175 (⟨1, x8_1, (⟨#[]⟩ : ByteArray)⟩ : S28) [.int .i64 1, .int .i64 x8_1, .string (⟨#[]⟩ : ByteArray)] (fun _ => True) (fun _ => False) rfl rfl ?aP (fun _ hk => hk.elim) ?aF ?aO ?aB ?aS ?aL ?_; (case aP => exact k28_mkM _ _ _ (⟨1, x8_1, (⟨#[]⟩ : ByteArray)⟩ : S28)); (case aB => exact (by repeat (first | (with_reducible first | exact HB.out | apply below_alloc | apply pw_below_drewN | apply below_drew1) | exact HB.out))); (case aF => exact (fun _ _ => trivial)); (case aO => exact (by (with_reducible repeat (first | apply Kd.R_alloc | apply Kd.R_drewN | apply Kd.R_drew)); exact HO177.out)); (case aS => exact (below_size (by repeat (first | (with_reducible first | exact HB.out | apply below_alloc | apply pw_below_drewN | apply below_drew1) | exact HB.out)))); (case aL => have := LMc13.out; omega); intro v179 w19 ho hb hg hat; rw [← Ny178.out] at ho; have n0_ := Aside0.mk (Kd.N_afterv (ok := (fun k_ => some k_ ≠ (u7 : Value).ownBlock)) (by (with_reducible repeat (first | apply Kd.N_alloc | apply Kd.N_drewN | apply Kd.N_drew)); exact HO_6.out) hg hat); have n1_ := Aside0.mk (Kd.N_afterv (ok := (fun k_ => some k_ ≠ (.slice (some ad174) t168.length co15 : Value).ownBlock)) (by (with_reducible repeat (first | apply Kd.N_alloc | apply Kd.N_drewN | apply Kd.N_drew)); exact HO_7.out) hg hat); have n2_ := Aside0.mk (Kd.V_afterv (ok := (fun k_ => some k_ ≠ (.slice (some ad174) t168.length co15 : Value).ownBlock ∧ some k_ ≠ (u7 : Value).ownBlock)) (by (with_reducible repeat (first | apply Kd.V_alloc | apply Kd.V_drewN | apply Kd.V_drew)); exact HL174_0.out) hg hat); have n3_ := Aside0.mk (hb); have n4_ := Aside0.mk (ho); clear HO_6; clear HO_7; clear HL174_0; clear HB; clear HO177; have HO_6 := n0_; have HO_7 := n1_; have HL174_0 := n2_; have HB := n3_; have HO180 := n4_; clear n0_ n1_ n2_ n3_ n4_; clear ho hb hg hat; obtain ⟨Ao21, co21, eo21⟩ := Kd.R_slice HO180.out; subst eo21) | ((with_reducible refine gate_builtin (b := .append) (xs := #[.tmp 29, .tmp 40]) rfl ?_); (try (refine gate_guard (by rfl) ?_; dsimp only)); at_builtin; refine Kd.N_append (Kd.slice 28 k28) (w0 := w) w.heap.size rfl (.tmp 29) (.tmp 40) 22 26 (.slice none 0 0) 24 rfl Try.underlying22 info26 rfl (by decide) (by omega) u7 x7_1 y178 [.slice Ao21 y178.length co21] (fun k_ => some k_ ≠ (.slice (some ad174) t168.length co15 : Value).ownBlock) (fun k_ => ((fun k_ => some k_ ≠ (.slice (some ad174) t168.length co15 : Value).ownBlock)) k_ ∧ some k_ ≠ (u7 : Value).ownBlock) rfl rfl ?aP (fun _ hk => hk) ?aF ?aO ?aB ?aS ?aL ?_; (case aP => exact (Kd.FK_slice_mk (Kd.R_reads' (Kd.R_mono (ok' := (fun k_ => ((fun k_ => some k_ ≠ (.slice (some ad174) t168.length co15 : Value).ownBlock)) k_ ∧ some k_ ≠ (u7 : Value).ownBlock)) (Kd.R_apart' (Kd.R_apart' (HO180.out) (Kd.N_typed HO_6.out) (by decide)) (Kd.N_typed HO_7.out) (by decide)) (fun k_ hk => ⟨hk.1.2, hk.2⟩))).2.1 (Kd.R_F (Kd.R_mono (ok' := (fun k_ => ((fun k_ => some k_ ≠ (.slice (some ad174) t168.length co15 : Value).ownBlock)) k_ ∧ some k_ ≠ (u7 : Value).ownBlock)) (Kd.R_apart' (Kd.R_apart' (HO180.out) (Kd.N_typed HO_6.out) (by decide)) (Kd.N_typed HO_7.out) (by decide)) (fun k_ hk => ⟨hk.1.2, hk.2⟩))))); (case aB => exact (by repeat (first | (with_reducible first | exact HB.out | apply below_alloc | apply pw_below_drewN | apply below_drew1) | exact HB.out))); (case aF => exact (fun k_ hk => Kd.fresh' (Kd.N_lt (by (with_reducible repeat (first | apply Kd.N_alloc | apply Kd.N_drewN | apply Kd.N_drew)); exact HO_6.out)) k_ hk)); (case aO => exact (by (with_reducible repeat (first | apply Kd.N_alloc | apply Kd.N_drewN | apply Kd.N_drew)); exact Kd.N_mono HO_7.out (fun _ hk => hk.1))); (case aS => exact (below_size (by repeat (first | (with_reducible first | exact HB.out | apply below_alloc | apply pw_below_drewN | apply below_drew1) | exact HB.out)))); (case aL => have := LMc14.out; omega); intro v182 w20 ho hb hg hat; rw [← Ny181.out] at ho; have n0_ := Aside0.mk (Kd.N_afterv (ok := (fun k_ => some k_ ≠ (.slice Ao21 y178.length co21 : Value).ownBlock)) (by (with_reducible repeat (first | apply Kd.N_alloc | apply Kd.N_drewN | apply Kd.N_drew)); exact Kd.N_mono HO_6.out (fun _ hk => ⟨hk.2, hk.1⟩)) hg hat); have n1_ := Aside0.mk (Kd.V_afterv (ok := (fun k_ => some k_ ≠ (.slice (some ad174) t168.length co15 : Value).ownBlock ∧ some k_ ≠ (.slice Ao21 y178.length co21 : Value).ownBlock)) (by (with_reducible repeat (first | apply Kd.V_alloc | apply Kd.V_drewN | apply Kd.V_drew)); exact Kd.V_mono HL174_0.out (fun _ hk => ⟨⟨hk.1.1, hk.2⟩, hk.1.2⟩)) hg hat); have n2_ := Aside0.mk (hb); have n3_ := Aside0.mk (ho); clear HO_6; clear HL174_0; clear HB; clear HO_7; clear HO180; have HO_6 := n0_; have HL174_0 := n1_; have HB := n2_; have HO183 := n3_; clear n0_ n1_ n2_ n3_; clear ho hb hg hat))
         go_roundg k1
         case measure => have := HK1.out; omega
         case rel => exact ⟨(y181), (wrap64 (x8_1 + 1)), (by first | rfl | (simp; done) | (simp [*]; done)), H', ⟨by have := HK1.out; omega⟩, ⟨by (with_reducible repeat (first | apply Kd.N_alloc | apply Kd.N_drewN | apply Kd.N_drew)); exact Kd.N_mono HO_6.out (fun _ hk => hk.2)⟩, ⟨by (with_reducible repeat (first | apply Kd.N_alloc | apply Kd.N_drewN | apply Kd.N_drew)); exact HO183.out⟩, ⟨by repeat (first | (with_reducible first | exact HB.out | apply below_alloc | apply pw_below_drewN | apply below_drew1) | exact HB.out)⟩⟩
        ·
         rw [if_neg c14] at H
         exact absurd H (by simp)
       ·
        rw [if_neg c13] at H
        exact absurd H (by simp)
      ·
       rw [if_neg c12] at H
       exact absurd H (by simp)
     ·
      rw [if_neg c11] at H
      exact absurd H (by simp)
    ·
     rw [if_neg c10] at H
     have c10b0 : decide (x8_1 < (t168.length : Int)) = false := decide_eq_false c10
     (try (have c10b0q_hl174_0 := c10b0; rw [hl174_0] at c10b0q_hl174_0))
     clear c10
     have H' := Aside0.mk H
     clear H
     obtain ⟨Ao22, co22, eo22⟩ := Kd.N_slice HO_6.out
     subst eo22
     go_wp2
     go_loopg [9] k1 (fun kq v9 w' => ∃ (x9_2 : Int), v9 = .int .i64 x9_2 ∧ Aside0 (law16_SortedStays.l1 kq l1 t167 t168 x7_1 x9_2 = some r) ∧ Aside0 (kq ≤ k1) ∧ Aside0 (Kd.N (Kd.slice 28 k28) 26 w' w.heap.size (fun k_ => some k_ ≠ (u7 : Value).ownBlock) (.slice Ao22 t168.length co22) t168) ∧ Aside0 (Kd.N (Kd.slice 28 k28) 26 w' w.heap.size (fun k_ => some k_ ≠ ((.slice Ao22 t168.length co22) : Value).ownBlock) u7 x7_1) ∧ Aside0 (Below w.heap.size w w'))
     case atStart => exact ⟨(0), (by first | rfl | (simp; done) | (simp [*]; done)), H', ⟨Nat.le_refl _⟩, ⟨by (with_reducible repeat (first | apply Kd.N_alloc | apply Kd.N_drewN | apply Kd.N_drew)); exact HO_6.out⟩, ⟨by (with_reducible repeat (first | apply Kd.N_alloc | apply Kd.N_drewN | apply Kd.N_drew)); exact HO_7.out⟩, ⟨by repeat (first | (with_reducible first | exact HB.out | apply below_alloc | apply pw_below_drewN | apply below_drew1) | exact HB.out)⟩⟩
     case round =>
      clear H'
      try clear c1
      try clear p1
      try clear q1
      try clear hx1
      try clear p2
      try clear c3
      try clear c5
      try clear c5b0
      try clear c5b1
      try clear p6
      try clear c9
      try clear c10
      try clear c10b0
      try clear c11
      try clear c11b0
      try clear c12
      try clear c13
      try clear c14
      try clear c17
      try clear p17
      try clear q17
      try clear hx17
      try clear hx174_0
      try clear p174
      try clear p2
      try clear q174
      obtain ⟨x9_2, rfl, HA, HK2, HO_6, HO_7, HB⟩ := hrel
      cases gk with
      | zero => exact absurd HA.out (by simp [law16_SortedStays.l1])
      | succ k2 =>
       have H := HA.out
       clear HA
       simp only [law16_SortedStays.l1] at H
       by_cases c23 : x9_2 < (l1.length : Int)
       ·
        rw [if_pos c23] at H
        have c23b0 : decide (x9_2 < (l1.length : Int)) = true := decide_eq_true c23
        (try (have c23b0q_hl174_0 := c23b0; rw [hl174_0] at c23b0q_hl174_0))
        clear c23
        have H' := Aside0.mk H
        clear H
        go_wp2
        go_loopg [10] k2 (fun kq v10 w' => ∃ (x10_3 : Int), v10 = .int .i64 x10_3 ∧ Aside0 (law16_SortedStays.l2 kq l1 t167 t168 x7_1 x9_2 x10_3 = some r) ∧ Aside0 (kq ≤ k2) ∧ Aside0 (Kd.N (Kd.slice 28 k28) 26 w' w.heap.size (fun k_ => some k_ ≠ (u7 : Value).ownBlock) (.slice Ao22 t168.length co22) t168) ∧ Aside0 (Kd.N (Kd.slice 28 k28) 26 w' w.heap.size (fun k_ => some k_ ≠ ((.slice Ao22 t168.length co22) : Value).ownBlock) u7 x7_1) ∧ Aside0 (Below w.heap.size w w'))
        case atStart => exact ⟨(0), (by first | rfl | (simp; done) | (simp [*]; done)), H', ⟨Nat.le_refl _⟩, ⟨by (with_reducible repeat (first | apply Kd.N_alloc | apply Kd.N_drewN | apply Kd.N_drew)); exact HO_6.out⟩, ⟨by (with_reducible repeat (first | apply Kd.N_alloc | apply Kd.N_drewN | apply Kd.N_drew)); exact HO_7.out⟩, ⟨by repeat (first | (with_reducible first | exact HB.out | apply below_alloc | apply pw_below_drewN | apply below_drew1) | exact HB.out)⟩⟩
        case round =>
         clear H'
         try clear c1
         try clear p1
         try clear q1
         try clear hx1
         try clear c2
         try clear p2
         try clear c3
         try clear c5
         try clear c5b0
         try clear c5b1
         try clear p6
         try clear c9
         try clear c10
         try clear c10b0
         try clear c11
         try clear c11b0
         try clear c12
         try clear c13
         try clear c14
         try clear c17
         try clear p17
         try clear q17
         try clear hx17
         try clear c23
         try clear c23b0
         try clear hx174_0
         try clear p1
         try clear p17
         try clear p174
         try clear p2
         try clear p6
         try clear q1
         try clear q17
         try clear q174
         obtain ⟨x10_3, rfl, HA, HK3, HO_6, HO_7, HB⟩ := hrel
         cases gk with
         | zero => exact absurd HA.out (by simp [law16_SortedStays.l2])
         | succ k3 =>
          have H := HA.out
          clear HA
          simp only [law16_SortedStays.l2] at H
          by_cases c24 : x10_3 < (t168.length : Int)
          ·
           rw [if_pos c24] at H
           have c24b0 : decide (x10_3 < (t168.length : Int)) = true := decide_eq_true c24
           (try (have c24b0q_hl174_0 := c24b0; rw [hl174_0] at c24b0q_hl174_0))
           clear c24
           by_cases c25 : 0 ≤ x9_2
           ·
            rw [if_pos c25] at H
            have c25b0 : decide (0 ≤ x9_2) = true := decide_eq_true c25
            clear c25
            by_cases c26 : x9_2 < (l1.length : Int)
            ·
             rw [if_pos c26] at H
             have c26b0 : decide (x9_2 < (l1.length : Int)) = true := decide_eq_true c26
             (try (have c26b0q_hl174_0 := c26b0; rw [hl174_0] at c26b0q_hl174_0))
             clear c26
             by_cases c27 : 0 ≤ x10_3
             ·
              rw [if_pos c27] at H
              have c27b0 : decide (0 ≤ x10_3) = true := decide_eq_true c27
              clear c27
              by_cases c28 : (rd l1 x9_2) ≥ ((rd_L3 t168 x10_3).length : Int)
              ·
               rw [if_pos c28] at H
               have c28b0 : decide (((rd_L3 t168 x10_3).length : Int) ≤ (rd l1 x9_2)) = true := decide_eq_true c28
               (try (have c28b0q_hl174_0 := c28b0; rw [hl174_0] at c28b0q_hl174_0))
               clear c28
               obtain rfl := Option.some.inj H
               try go_wp2
               have n0_ := Aside0.mk (Kd.N_drew HO_6.out)
               have n1_ := Aside0.mk (Kd.N_drew HO_7.out)
               have n2_ := Aside0.mk (below_drew1 HB.out)
               clear HO_6
               clear HO_7
               clear HB
               have HO_6 := n0_
               have HO_7 := n1_
               have HB := n2_
               clear n0_ n1_ n2_
               have p184 : 0 ≤ (x9_2 : Int) := of_decide_eq_true (by first | (with_reducible assumption) | assumption)
               have q184 : x9_2 < (l1.length : Int) := of_decide_eq_true (by first | (with_reducible assumption) | assumption)
               obtain ⟨ad184, e184, hx184_0⟩ := Kd.at_int HR1.out x9_2 p184 q184
               have hw184_0 := hx184_0
               cases e184
               replace hx184_0 := (HB.out.cell (World.block_lt_of_cell? w _ hx184_0)).trans hx184_0
               replace p184 := eq_true p184
               replace q184 := eq_true q184
               have p185 : 0 ≤ (x10_3 : Int) := of_decide_eq_true (by first | (with_reducible assumption) | assumption)
               have q185 : x10_3 < (t168.length : Int) := of_decide_eq_true (by first | (with_reducible assumption) | assumption)
               obtain ⟨ad185, A185_0, c185_0, e185, hx185_0, hl185_0, hi185_0⟩ := at_L3 (Kd.N_reads' HO_6.out).2.2 x10_3 p185 q185
               cases e185
               obtain ⟨ce185, hce185, hMe185, hcc185⟩ := Kd.N_get HO_6.out [] x10_3 p185 (by first | exact q185 | exact of_decide_eq_true (by first | (with_reducible assumption) | assumption) | (have e_ := (Kd.N_reads' HO_6.out).1; omega))
               obtain ⟨ua185_0, uc185_0, rfl, ul185_0, ge185_0⟩ := Kd.FK_slice_open hMe185
               have hv185_0 := hcc185 0 _ rfl
               rw [Nat.add_zero, show ((Kd.slice 28 k28)).sz = 1 from rfl, Nat.mul_one] at hv185_0
               replace hv185_0 := Option.some.inj (hv185_0.symm.trans hx185_0)
               injection hv185_0 with hva_ hvn_ hvc_
               rw [hva_] at ge185_0
               rw [hvc_] at ul185_0
               have HL185_0 := Aside0.mk (show Kd.V k28 28 _ w.heap.size _ _ (rd_L3 t168 x10_3) from Kd.V_mk ul185_0 ge185_0)
               clear hva_ hvn_ hvc_ ge185_0 ul185_0
               clear hcc185 hce185
               have HR185_0 := Aside0.mk hi185_0
               have HC185_0 := Aside0.mk hl185_0
               clear hi185_0 hl185_0
               replace p185 := eq_true p185
               replace q185 := eq_true q185
               refine start_ (n := 17) (S := fun w' => w'.cell? (ad184.add (x9_2).toNat) = some (.int .i64 (rd l1 x9_2)) ∧ w'.cell? (ad185.add (x10_3).toNat) = some (.slice A185_0 (rd_L3 t168 x10_3).length c185_0)) (ds := []) law16_SortedStays.Y0 (by kernel_rfl) rfl rfl ⟨((HB.out.cell (World.block_lt_of_cell? w _ hw184_0)).trans hw184_0), hx185_0⟩ (fun hHeld => ?_); refine with_tabW law16_SortedStays.tab16 law16_SortedStays.bits16 (fun HT_ HW_ => ?_)
               generalize wr.drew = w29 at HO_6 HO_7 HB HL185_0 HR185_0 hx184_0 hx185_0 hHeld ⊢
               refine pure_ (i := 0) (N := some 54) (v := ?_) (a' := ?_) law16_SortedStays.Y1 rfl rfl (any_of HT_.out (by kernel_rfl)) (fun _ _ _ h => h) (Or.inl ⟨by rfl, ?_⟩) ?_ ?_
               rotate_left
               ·
                intro w'
                go_simp
                with_reducible rfl
               rotate_left
               ·
                simp only [Act.put, List.setIfInBounds_toArray, List.set_cons_zero, List.set_cons_succ, i64_w, i32_w]
                rfl
               refine pure_ (i := 1) (N := some 55) (v := ?_) (a' := ?_) law16_SortedStays.Y2 rfl rfl (any_of HT_.out (by kernel_rfl)) (fun _ _ _ h => h) (Or.inl ⟨by rfl, ?_⟩) ?_ ?_
               rotate_left
               ·
                intro w'
                go_simp
                with_reducible rfl
               rotate_left
               ·
                simp only [Act.put, List.setIfInBounds_toArray, List.set_cons_zero, List.set_cons_succ, i64_w, i32_w]
                rfl
               refine pure_ (i := 2) (N := some 56) (v := ?_) (a' := ?_) law16_SortedStays.Y3 rfl rfl (any_of HT_.out (by kernel_rfl)) (fun _ _ _ h => h) (Or.inl ⟨by rfl, ?_⟩) ?_ ?_
               rotate_left
               ·
                intro w'
                go_simp
                with_reducible rfl
               rotate_left
               ·
                simp only [Act.put, List.setIfInBounds_toArray, List.set_cons_zero, List.set_cons_succ, i64_w, i32_w]
                rfl
               refine pure_ (i := 4) (N := some 58) (v := ?_) (a' := ?_) law16_SortedStays.Y4 rfl rfl (any_of HT_.out (by kernel_rfl)) (fun _ _ _ h => h) (Or.inl ⟨by rfl, ?_⟩) ?_ ?_
               rotate_left
               ·
                intro w'
                go_simp
                with_reducible rfl
               rotate_left
               ·
                simp only [Act.put, List.setIfInBounds_toArray, List.set_cons_zero, List.set_cons_succ, i64_w, i32_w]
                rfl
               refine pure_ (i := 5) (N := some 59) (v := ?_) (a' := ?_) law16_SortedStays.Y5 rfl rfl (any_of HT_.out (by kernel_rfl)) (fun _ _ _ h => h) (Or.inl ⟨by rfl, ?_⟩) ?_ ?_
               rotate_left
               ·
                intro w'
                go_simp
                with_reducible rfl
               rotate_left
               ·
                simp only [Act.put, List.setIfInBounds_toArray, List.set_cons_zero, List.set_cons_succ, i64_w, i32_w]
                rfl
               refine pure_ (i := 6) (N := some 60) (v := ?_) (a' := ?_) law16_SortedStays.Y6 rfl rfl (any_of HT_.out (by kernel_rfl)) (fun _ _ _ h => h) (Or.inl ⟨by rfl, ?_⟩) ?_ ?_
               rotate_left
               ·
                intro w'
                go_simp
                with_reducible rfl
               rotate_left
               ·
                simp only [Act.put, List.setIfInBounds_toArray, List.set_cons_zero, List.set_cons_succ, i64_w, i32_w]
                rfl
               refine take_ (i := 3) (N := some 57) (v := ?_) (a' := ?_) law16_SortedStays.Y7 rfl rfl (take_ofW HT_.out HW_.out (by kernel_rfl)) (fun _ _ _ h => h) (Or.inl ⟨by rfl, ?_⟩) hHeld ?_ ?_
               rotate_left
               ·
                rintro w' ⟨s0, s1⟩
                go_simp
                with_reducible rfl
               rotate_left
               ·
                simp only [Act.put, List.setIfInBounds_toArray, List.set_cons_zero, List.set_cons_succ, i64_w, i32_w]
                rfl
               refine take_ (i := 7) (N := some 61) (v := ?_) (a' := ?_) law16_SortedStays.Y8 rfl rfl (take_ofW HT_.out HW_.out (by kernel_rfl)) (fun _ _ _ h => h) (Or.inl ⟨by rfl, ?_⟩) hHeld ?_ ?_
               rotate_left
               ·
                rintro w' ⟨s0, s1⟩
                go_simp
                with_reducible rfl
               rotate_left
               ·
                simp only [Act.put, List.setIfInBounds_toArray, List.set_cons_zero, List.set_cons_succ, i64_w, i32_w]
                rfl
               refine pure_ (i := 8) (N := some 62) (v := ?_) (a' := ?_) law16_SortedStays.Y9 rfl rfl (any_of HT_.out (by kernel_rfl)) (fun _ _ _ h => h) (Or.inl ⟨by rfl, ?_⟩) ?_ ?_
               rotate_left
               ·
                intro w'
                go_simp
                with_reducible rfl
               rotate_left
               ·
                simp only [Act.put, List.setIfInBounds_toArray, List.set_cons_zero, List.set_cons_succ, i64_w, i32_w]
                rfl
               refine pure_ (i := 9) (N := some 63) (v := ?_) (a' := ?_) law16_SortedStays.Y10 rfl rfl (any_of HT_.out (by kernel_rfl)) (fun _ _ _ h => h) (Or.inl ⟨by rfl, ?_⟩) ?_ ?_
               rotate_left
               ·
                intro w'
                go_simp
                with_reducible rfl
               rotate_left
               ·
                simp only [Act.put, List.setIfInBounds_toArray, List.set_cons_zero, List.set_cons_succ, i64_w, i32_w]
                rfl
               refine pure_ (i := 10) (N := some 64) (v := ?_) (a' := ?_) law16_SortedStays.Y11 rfl rfl (any_of HT_.out (by kernel_rfl)) (fun _ _ _ h => h) (Or.inl ⟨by rfl, ?_⟩) ?_ ?_
               rotate_left
               ·
                intro w'
                go_simp
                with_reducible rfl
               rotate_left
               ·
                simp only [Act.put, List.setIfInBounds_toArray, List.set_cons_zero, List.set_cons_succ, i64_w, i32_w]
                rfl
               refine pure_ (i := 11) (N := some 65) (v := undef) (a' := ?_) law16_SortedStays.Y12 rfl rfl (any_of HT_.out (by kernel_rfl)) (fun _ _ _ h => h) (Or.inr ⟨by rfl, rfl⟩) ?_ ?_
               rotate_left
               ·
                simp only [Act.put, List.setIfInBounds_toArray, List.set_cons_zero, List.set_cons_succ, i64_w, i32_w]
                rfl
               refine pure_ (i := 12) (N := some 66) (v := undef) (a' := ?_) law16_SortedStays.Y13 rfl rfl (any_of HT_.out (by kernel_rfl)) (fun _ _ _ h => h) (Or.inr ⟨by rfl, rfl⟩) ?_ ?_
               rotate_left
               ·
                simp only [Act.put, List.setIfInBounds_toArray, List.set_cons_zero, List.set_cons_succ, i64_w, i32_w]
                rfl
               refine pure_ (i := 13) (N := some 67) (v := undef) (a' := ?_) law16_SortedStays.Y14 rfl rfl (any_of HT_.out (by kernel_rfl)) (fun _ _ _ h => h) (Or.inr ⟨by rfl, rfl⟩) ?_ ?_
               rotate_left
               ·
                simp only [Act.put, List.setIfInBounds_toArray, List.set_cons_zero, List.set_cons_succ, i64_w, i32_w]
                rfl
               refine pure_ (i := 14) (N := some 68) (v := undef) (a' := ?_) law16_SortedStays.Y15 rfl rfl (any_of HT_.out (by kernel_rfl)) (fun _ _ _ h => h) (Or.inr ⟨by rfl, rfl⟩) ?_ ?_
               rotate_left
               ·
                simp only [Act.put, List.setIfInBounds_toArray, List.set_cons_zero, List.set_cons_succ, i64_w, i32_w]
                rfl
               refine pure_ (i := 15) (N := some 69) (v := undef) (a' := ?_) law16_SortedStays.Y16 rfl rfl (any_of HT_.out (by kernel_rfl)) (fun _ _ _ h => h) (Or.inr ⟨by rfl, rfl⟩) ?_ ?_
               rotate_left
               ·
                simp only [Act.put, List.setIfInBounds_toArray, List.set_cons_zero, List.set_cons_succ, i64_w, i32_w]
                rfl
               refine pure_ (i := 16) (N := some 70) (v := ?_) (a' := ?_) law16_SortedStays.Y17 rfl rfl (any_of HT_.out (by kernel_rfl)) (fun _ _ _ h => h) (Or.inl ⟨by rfl, ?_⟩) ?_ ?_
               rotate_left
               ·
                intro w'
                go_simp
                with_reducible rfl
               rotate_left
               ·
                simp only [Act.put, List.setIfInBounds_toArray, List.set_cons_zero, List.set_cons_succ, i64_w, i32_w]
                rfl
               refine done_ (done_of HT_.out (by kernel_rfl)) ?_
               try go_wp2
               go_ret
               exact ⟨by first | rfl | (simp [errW_none, errW_some] <;> rfl) | (simp [*, errW_none, errW_some] <;> rfl), by repeat (first | (with_reducible first | exact HB.out | apply below_alloc | apply pw_below_drewN | apply below_drew1) | exact HB.out)⟩
              ·
               rw [if_neg c28] at H
               have c28b0 : decide (((rd_L3 t168 x10_3).length : Int) ≤ (rd l1 x9_2)) = false := decide_eq_false c28
               (try (have c28b0q_hl174_0 := c28b0; rw [hl174_0] at c28b0q_hl174_0))
               (try (have c28b0q_hl185_0 := c28b0; rw [hl185_0] at c28b0q_hl185_0))
               clear c28
               by_cases c30 : (rd l1 x9_2) < 0
               ·
                rw [if_pos c30] at H
                have c30b0 : decide ((rd l1 x9_2) < 0) = true := decide_eq_true c30
                clear c30
                obtain rfl := Option.some.inj H
                try go_wp2
                have n0_ := Aside0.mk (Kd.N_drew HO_6.out)
                have n1_ := Aside0.mk (Kd.N_drew HO_7.out)
                have n2_ := Aside0.mk (below_drew1 HB.out)
                clear HO_6
                clear HO_7
                clear HB
                have HO_6 := n0_
                have HO_7 := n1_
                have HB := n2_
                clear n0_ n1_ n2_
                have p184 : 0 ≤ (x9_2 : Int) := of_decide_eq_true (by first | (with_reducible assumption) | assumption)
                have q184 : x9_2 < (l1.length : Int) := of_decide_eq_true (by first | (with_reducible assumption) | assumption)
                obtain ⟨ad184, e184, hx184_0⟩ := Kd.at_int HR1.out x9_2 p184 q184
                have hw184_0 := hx184_0
                cases e184
                replace hx184_0 := (HB.out.cell (World.block_lt_of_cell? w _ hx184_0)).trans hx184_0
                replace p184 := eq_true p184
                replace q184 := eq_true q184
                have p185 : 0 ≤ (x10_3 : Int) := of_decide_eq_true (by first | (with_reducible assumption) | assumption)
                have q185 : x10_3 < (t168.length : Int) := of_decide_eq_true (by first | (with_reducible assumption) | assumption)
                obtain ⟨ad185, A185_0, c185_0, e185, hx185_0, hl185_0, hi185_0⟩ := at_L3 (Kd.N_reads' HO_6.out).2.2 x10_3 p185 q185
                cases e185
                obtain ⟨ce185, hce185, hMe185, hcc185⟩ := Kd.N_get HO_6.out [] x10_3 p185 (by first | exact q185 | exact of_decide_eq_true (by first | (with_reducible assumption) | assumption) | (have e_ := (Kd.N_reads' HO_6.out).1; omega))
                obtain ⟨ua185_0, uc185_0, rfl, ul185_0, ge185_0⟩ := Kd.FK_slice_open hMe185
                have hv185_0 := hcc185 0 _ rfl
                rw [Nat.add_zero, show ((Kd.slice 28 k28)).sz = 1 from rfl, Nat.mul_one] at hv185_0
                replace hv185_0 := Option.some.inj (hv185_0.symm.trans hx185_0)
                injection hv185_0 with hva_ hvn_ hvc_
                rw [hva_] at ge185_0
                rw [hvc_] at ul185_0
                have HL185_0 := Aside0.mk (show Kd.V k28 28 _ w.heap.size _ _ (rd_L3 t168 x10_3) from Kd.V_mk ul185_0 ge185_0)
                clear hva_ hvn_ hvc_ ge185_0 ul185_0
                clear hcc185 hce185
                have HR185_0 := Aside0.mk hi185_0
                have HC185_0 := Aside0.mk hl185_0
                clear hi185_0 hl185_0
                replace p185 := eq_true p185
                replace q185 := eq_true q185
                have p186 : 0 ≤ (x9_2 : Int) := of_decide_eq_true (by first | (with_reducible assumption) | assumption)
                have q186 : x9_2 < (l1.length : Int) := of_decide_eq_true (by first | (with_reducible assumption) | assumption)
                obtain ⟨ad186, e186, hx186_0⟩ := Kd.at_int HR1.out x9_2 p186 q186
                have hw186_0 := hx186_0
                obtain rfl : ad184 = ad186 := (by injection e186)
                replace hx186_0 := (HB.out.cell (World.block_lt_of_cell? w _ hx186_0)).trans hx186_0
                replace p186 := eq_true p186
                replace q186 := eq_true q186
                refine start_ (n := 17) (S := fun w' => w'.cell? (ad184.add (x9_2).toNat) = some (.int .i64 (rd l1 x9_2)) ∧ w'.cell? (ad185.add (x10_3).toNat) = some (.slice A185_0 (rd_L3 t168 x10_3).length c185_0) ∧ w'.cell? (ad184.add (x9_2).toNat) = some (.int .i64 (rd l1 x9_2))) (ds := []) law16_SortedStays.Y0 (by kernel_rfl) rfl rfl ⟨((HB.out.cell (World.block_lt_of_cell? w _ hw184_0)).trans hw184_0), hx185_0, ((HB.out.cell (World.block_lt_of_cell? w _ hw186_0)).trans hw186_0)⟩ (fun hHeld => ?_); refine with_tabW law16_SortedStays.tab16 law16_SortedStays.bits16 (fun HT_ HW_ => ?_)
                generalize wr.drew = w31 at HO_6 HO_7 HB HL185_0 HR185_0 hx184_0 hx185_0 hx186_0 hHeld ⊢
                refine pure_ (i := 0) (N := some 54) (v := ?_) (a' := ?_) law16_SortedStays.Y1 rfl rfl (any_of HT_.out (by kernel_rfl)) (fun _ _ _ h => h) (Or.inl ⟨by rfl, ?_⟩) ?_ ?_
                rotate_left
                ·
                 intro w'
                 go_simp
                 with_reducible rfl
                rotate_left
                ·
                 simp only [Act.put, List.setIfInBounds_toArray, List.set_cons_zero, List.set_cons_succ, i64_w, i32_w]
                 rfl
                refine pure_ (i := 1) (N := some 55) (v := ?_) (a' := ?_) law16_SortedStays.Y2 rfl rfl (any_of HT_.out (by kernel_rfl)) (fun _ _ _ h => h) (Or.inl ⟨by rfl, ?_⟩) ?_ ?_
                rotate_left
                ·
                 intro w'
                 go_simp
                 with_reducible rfl
                rotate_left
                ·
                 simp only [Act.put, List.setIfInBounds_toArray, List.set_cons_zero, List.set_cons_succ, i64_w, i32_w]
                 rfl
                refine pure_ (i := 2) (N := some 56) (v := ?_) (a' := ?_) law16_SortedStays.Y3 rfl rfl (any_of HT_.out (by kernel_rfl)) (fun _ _ _ h => h) (Or.inl ⟨by rfl, ?_⟩) ?_ ?_
                rotate_left
                ·
                 intro w'
                 go_simp
                 with_reducible rfl
                rotate_left
                ·
                 simp only [Act.put, List.setIfInBounds_toArray, List.set_cons_zero, List.set_cons_succ, i64_w, i32_w]
                 rfl
                refine pure_ (i := 4) (N := some 58) (v := ?_) (a' := ?_) law16_SortedStays.Y4 rfl rfl (any_of HT_.out (by kernel_rfl)) (fun _ _ _ h => h) (Or.inl ⟨by rfl, ?_⟩) ?_ ?_
                rotate_left
                ·
                 intro w'
                 go_simp
                 with_reducible rfl
                rotate_left
                ·
                 simp only [Act.put, List.setIfInBounds_toArray, List.set_cons_zero, List.set_cons_succ, i64_w, i32_w]
                 rfl
                refine pure_ (i := 5) (N := some 59) (v := ?_) (a' := ?_) law16_SortedStays.Y5 rfl rfl (any_of HT_.out (by kernel_rfl)) (fun _ _ _ h => h) (Or.inl ⟨by rfl, ?_⟩) ?_ ?_
                rotate_left
                ·
                 intro w'
                 go_simp
                 with_reducible rfl
                rotate_left
                ·
                 simp only [Act.put, List.setIfInBounds_toArray, List.set_cons_zero, List.set_cons_succ, i64_w, i32_w]
                 rfl
                refine pure_ (i := 6) (N := some 60) (v := ?_) (a' := ?_) law16_SortedStays.Y6 rfl rfl (any_of HT_.out (by kernel_rfl)) (fun _ _ _ h => h) (Or.inl ⟨by rfl, ?_⟩) ?_ ?_
                rotate_left
                ·
                 intro w'
                 go_simp
                 with_reducible rfl
                rotate_left
                ·
                 simp only [Act.put, List.setIfInBounds_toArray, List.set_cons_zero, List.set_cons_succ, i64_w, i32_w]
                 rfl
                refine take_ (i := 3) (N := some 57) (v := ?_) (a' := ?_) law16_SortedStays.Y7 rfl rfl (take_ofW HT_.out HW_.out (by kernel_rfl)) (fun _ _ _ h => h) (Or.inl ⟨by rfl, ?_⟩) hHeld ?_ ?_
                rotate_left
                ·
                 rintro w' ⟨s0, s1, s2⟩
                 go_simp
                 with_reducible rfl
                rotate_left
                ·
                 simp only [Act.put, List.setIfInBounds_toArray, List.set_cons_zero, List.set_cons_succ, i64_w, i32_w]
                 rfl
                refine take_ (i := 7) (N := some 61) (v := ?_) (a' := ?_) law16_SortedStays.Y8 rfl rfl (take_ofW HT_.out HW_.out (by kernel_rfl)) (fun _ _ _ h => h) (Or.inl ⟨by rfl, ?_⟩) hHeld ?_ ?_
                rotate_left
                ·
                 rintro w' ⟨s0, s1, s2⟩
                 go_simp
                 with_reducible rfl
                rotate_left
                ·
                 simp only [Act.put, List.setIfInBounds_toArray, List.set_cons_zero, List.set_cons_succ, i64_w, i32_w]
                 rfl
                refine pure_ (i := 8) (N := some 62) (v := ?_) (a' := ?_) law16_SortedStays.Y9 rfl rfl (any_of HT_.out (by kernel_rfl)) (fun _ _ _ h => h) (Or.inl ⟨by rfl, ?_⟩) ?_ ?_
                rotate_left
                ·
                 intro w'
                 go_simp
                 with_reducible rfl
                rotate_left
                ·
                 simp only [Act.put, List.setIfInBounds_toArray, List.set_cons_zero, List.set_cons_succ, i64_w, i32_w]
                 rfl
                refine pure_ (i := 9) (N := some 63) (v := ?_) (a' := ?_) law16_SortedStays.Y10 rfl rfl (any_of HT_.out (by kernel_rfl)) (fun _ _ _ h => h) (Or.inl ⟨by rfl, ?_⟩) ?_ ?_
                rotate_left
                ·
                 intro w'
                 go_simp
                 with_reducible rfl
                rotate_left
                ·
                 simp only [Act.put, List.setIfInBounds_toArray, List.set_cons_zero, List.set_cons_succ, i64_w, i32_w]
                 rfl
                refine pure_ (i := 10) (N := some 64) (v := ?_) (a' := ?_) law16_SortedStays.Y11 rfl rfl (any_of HT_.out (by kernel_rfl)) (fun _ _ _ h => h) (Or.inl ⟨by rfl, ?_⟩) ?_ ?_
                rotate_left
                ·
                 intro w'
                 go_simp
                 with_reducible rfl
                rotate_left
                ·
                 simp only [Act.put, List.setIfInBounds_toArray, List.set_cons_zero, List.set_cons_succ, i64_w, i32_w]
                 rfl
                refine pure_ (i := 11) (N := some 65) (v := ?_) (a' := ?_) law16_SortedStays.Y12 rfl rfl (any_of HT_.out (by kernel_rfl)) (fun _ _ _ h => h) (Or.inl ⟨by rfl, ?_⟩) ?_ ?_
                rotate_left
                ·
                 intro w'
                 go_simp
                 with_reducible rfl
                rotate_left
                ·
                 simp only [Act.put, List.setIfInBounds_toArray, List.set_cons_zero, List.set_cons_succ, i64_w, i32_w]
                 rfl
                refine pure_ (i := 12) (N := some 66) (v := ?_) (a' := ?_) law16_SortedStays.Y13 rfl rfl (any_of HT_.out (by kernel_rfl)) (fun _ _ _ h => h) (Or.inl ⟨by rfl, ?_⟩) ?_ ?_
                rotate_left
                ·
                 intro w'
                 go_simp
                 with_reducible rfl
                rotate_left
                ·
                 simp only [Act.put, List.setIfInBounds_toArray, List.set_cons_zero, List.set_cons_succ, i64_w, i32_w]
                 rfl
                refine pure_ (i := 13) (N := some 67) (v := ?_) (a' := ?_) law16_SortedStays.Y14 rfl rfl (any_of HT_.out (by kernel_rfl)) (fun _ _ _ h => h) (Or.inl ⟨by rfl, ?_⟩) ?_ ?_
                rotate_left
                ·
                 intro w'
                 go_simp
                 with_reducible rfl
                rotate_left
                ·
                 simp only [Act.put, List.setIfInBounds_toArray, List.set_cons_zero, List.set_cons_succ, i64_w, i32_w]
                 rfl
                refine take_ (i := 14) (N := some 68) (v := ?_) (a' := ?_) law16_SortedStays.Y15 rfl rfl (take_ofW HT_.out HW_.out (by kernel_rfl)) (fun _ _ _ h => h) (Or.inl ⟨by rfl, ?_⟩) hHeld ?_ ?_
                rotate_left
                ·
                 rintro w' ⟨s0, s1, s2⟩
                 go_simp
                 with_reducible rfl
                rotate_left
                ·
                 simp only [Act.put, List.setIfInBounds_toArray, List.set_cons_zero, List.set_cons_succ, i64_w, i32_w]
                 rfl
                refine pure_ (i := 15) (N := some 69) (v := ?_) (a' := ?_) law16_SortedStays.Y16 rfl rfl (any_of HT_.out (by kernel_rfl)) (fun _ _ _ h => h) (Or.inl ⟨by rfl, ?_⟩) ?_ ?_
                rotate_left
                ·
                 intro w'
                 go_simp
                 with_reducible rfl
                rotate_left
                ·
                 simp only [Act.put, List.setIfInBounds_toArray, List.set_cons_zero, List.set_cons_succ, i64_w, i32_w]
                 rfl
                refine pure_ (i := 16) (N := some 70) (v := ?_) (a' := ?_) law16_SortedStays.Y17 rfl rfl (any_of HT_.out (by kernel_rfl)) (fun _ _ _ h => h) (Or.inl ⟨by rfl, ?_⟩) ?_ ?_
                rotate_left
                ·
                 intro w'
                 go_simp
                 with_reducible rfl
                rotate_left
                ·
                 simp only [Act.put, List.setIfInBounds_toArray, List.set_cons_zero, List.set_cons_succ, i64_w, i32_w]
                 rfl
                refine done_ (done_of HT_.out (by kernel_rfl)) ?_
                try go_wp2
                go_ret
                exact ⟨by first | rfl | (simp [errW_none, errW_some] <;> rfl) | (simp [*, errW_none, errW_some] <;> rfl), by repeat (first | (with_reducible first | exact HB.out | apply below_alloc | apply pw_below_drewN | apply below_drew1) | exact HB.out)⟩
               ·
                rw [if_neg c30] at H
                have c30b0 : decide ((rd l1 x9_2) < 0) = false := decide_eq_false c30
                clear c30
                have H' := Aside0.mk H
                clear H
                try go_wp2
                have n0_ := Aside0.mk (Kd.N_drew HO_6.out)
                have n1_ := Aside0.mk (Kd.N_drew HO_7.out)
                have n2_ := Aside0.mk (below_drew1 HB.out)
                clear HO_6
                clear HO_7
                clear HB
                have HO_6 := n0_
                have HO_7 := n1_
                have HB := n2_
                clear n0_ n1_ n2_
                have p184 : 0 ≤ (x9_2 : Int) := of_decide_eq_true (by first | (with_reducible assumption) | assumption)
                have q184 : x9_2 < (l1.length : Int) := of_decide_eq_true (by first | (with_reducible assumption) | assumption)
                obtain ⟨ad184, e184, hx184_0⟩ := Kd.at_int HR1.out x9_2 p184 q184
                have hw184_0 := hx184_0
                cases e184
                replace hx184_0 := (HB.out.cell (World.block_lt_of_cell? w _ hx184_0)).trans hx184_0
                replace p184 := eq_true p184
                replace q184 := eq_true q184
                have p185 : 0 ≤ (x10_3 : Int) := of_decide_eq_true (by first | (with_reducible assumption) | assumption)
                have q185 : x10_3 < (t168.length : Int) := of_decide_eq_true (by first | (with_reducible assumption) | assumption)
                obtain ⟨ad185, A185_0, c185_0, e185, hx185_0, hl185_0, hi185_0⟩ := at_L3 (Kd.N_reads' HO_6.out).2.2 x10_3 p185 q185
                cases e185
                obtain ⟨ce185, hce185, hMe185, hcc185⟩ := Kd.N_get HO_6.out [] x10_3 p185 (by first | exact q185 | exact of_decide_eq_true (by first | (with_reducible assumption) | assumption) | (have e_ := (Kd.N_reads' HO_6.out).1; omega))
                obtain ⟨ua185_0, uc185_0, rfl, ul185_0, ge185_0⟩ := Kd.FK_slice_open hMe185
                have hv185_0 := hcc185 0 _ rfl
                rw [Nat.add_zero, show ((Kd.slice 28 k28)).sz = 1 from rfl, Nat.mul_one] at hv185_0
                replace hv185_0 := Option.some.inj (hv185_0.symm.trans hx185_0)
                injection hv185_0 with hva_ hvn_ hvc_
                rw [hva_] at ge185_0
                rw [hvc_] at ul185_0
                have HL185_0 := Aside0.mk (show Kd.V k28 28 _ w.heap.size _ _ (rd_L3 t168 x10_3) from Kd.V_mk ul185_0 ge185_0)
                clear hva_ hvn_ hvc_ ge185_0 ul185_0
                clear hcc185 hce185
                have HR185_0 := Aside0.mk hi185_0
                have HC185_0 := Aside0.mk hl185_0
                clear hi185_0 hl185_0
                replace p185 := eq_true p185
                replace q185 := eq_true q185
                have p186 : 0 ≤ (x9_2 : Int) := of_decide_eq_true (by first | (with_reducible assumption) | assumption)
                have q186 : x9_2 < (l1.length : Int) := of_decide_eq_true (by first | (with_reducible assumption) | assumption)
                obtain ⟨ad186, e186, hx186_0⟩ := Kd.at_int HR1.out x9_2 p186 q186
                have hw186_0 := hx186_0
                obtain rfl : ad184 = ad186 := (by injection e186)
                replace hx186_0 := (HB.out.cell (World.block_lt_of_cell? w _ hx186_0)).trans hx186_0
                replace p186 := eq_true p186
                replace q186 := eq_true q186
                refine start_ (n := 17) (S := fun w' => w'.cell? (ad184.add (x9_2).toNat) = some (.int .i64 (rd l1 x9_2)) ∧ w'.cell? (ad185.add (x10_3).toNat) = some (.slice A185_0 (rd_L3 t168 x10_3).length c185_0) ∧ w'.cell? (ad184.add (x9_2).toNat) = some (.int .i64 (rd l1 x9_2))) (ds := []) law16_SortedStays.Y0 (by kernel_rfl) rfl rfl ⟨((HB.out.cell (World.block_lt_of_cell? w _ hw184_0)).trans hw184_0), hx185_0, ((HB.out.cell (World.block_lt_of_cell? w _ hw186_0)).trans hw186_0)⟩ (fun hHeld => ?_); refine with_tabW law16_SortedStays.tab16 law16_SortedStays.bits16 (fun HT_ HW_ => ?_)
                generalize wr.drew = w32 at HO_6 HO_7 HB HL185_0 HR185_0 hx184_0 hx185_0 hx186_0 hHeld ⊢
                refine pure_ (i := 0) (N := some 54) (v := ?_) (a' := ?_) law16_SortedStays.Y1 rfl rfl (any_of HT_.out (by kernel_rfl)) (fun _ _ _ h => h) (Or.inl ⟨by rfl, ?_⟩) ?_ ?_
                rotate_left
                ·
                 intro w'
                 go_simp
                 with_reducible rfl
                rotate_left
                ·
                 simp only [Act.put, List.setIfInBounds_toArray, List.set_cons_zero, List.set_cons_succ, i64_w, i32_w]
                 rfl
                refine pure_ (i := 1) (N := some 55) (v := ?_) (a' := ?_) law16_SortedStays.Y2 rfl rfl (any_of HT_.out (by kernel_rfl)) (fun _ _ _ h => h) (Or.inl ⟨by rfl, ?_⟩) ?_ ?_
                rotate_left
                ·
                 intro w'
                 go_simp
                 with_reducible rfl
                rotate_left
                ·
                 simp only [Act.put, List.setIfInBounds_toArray, List.set_cons_zero, List.set_cons_succ, i64_w, i32_w]
                 rfl
                refine pure_ (i := 2) (N := some 56) (v := ?_) (a' := ?_) law16_SortedStays.Y3 rfl rfl (any_of HT_.out (by kernel_rfl)) (fun _ _ _ h => h) (Or.inl ⟨by rfl, ?_⟩) ?_ ?_
                rotate_left
                ·
                 intro w'
                 go_simp
                 with_reducible rfl
                rotate_left
                ·
                 simp only [Act.put, List.setIfInBounds_toArray, List.set_cons_zero, List.set_cons_succ, i64_w, i32_w]
                 rfl
                refine pure_ (i := 4) (N := some 58) (v := ?_) (a' := ?_) law16_SortedStays.Y4 rfl rfl (any_of HT_.out (by kernel_rfl)) (fun _ _ _ h => h) (Or.inl ⟨by rfl, ?_⟩) ?_ ?_
                rotate_left
                ·
                 intro w'
                 go_simp
                 with_reducible rfl
                rotate_left
                ·
                 simp only [Act.put, List.setIfInBounds_toArray, List.set_cons_zero, List.set_cons_succ, i64_w, i32_w]
                 rfl
                refine pure_ (i := 5) (N := some 59) (v := ?_) (a' := ?_) law16_SortedStays.Y5 rfl rfl (any_of HT_.out (by kernel_rfl)) (fun _ _ _ h => h) (Or.inl ⟨by rfl, ?_⟩) ?_ ?_
                rotate_left
                ·
                 intro w'
                 go_simp
                 with_reducible rfl
                rotate_left
                ·
                 simp only [Act.put, List.setIfInBounds_toArray, List.set_cons_zero, List.set_cons_succ, i64_w, i32_w]
                 rfl
                refine pure_ (i := 6) (N := some 60) (v := ?_) (a' := ?_) law16_SortedStays.Y6 rfl rfl (any_of HT_.out (by kernel_rfl)) (fun _ _ _ h => h) (Or.inl ⟨by rfl, ?_⟩) ?_ ?_
                rotate_left
                ·
                 intro w'
                 go_simp
                 with_reducible rfl
                rotate_left
                ·
                 simp only [Act.put, List.setIfInBounds_toArray, List.set_cons_zero, List.set_cons_succ, i64_w, i32_w]
                 rfl
                refine take_ (i := 3) (N := some 57) (v := ?_) (a' := ?_) law16_SortedStays.Y7 rfl rfl (take_ofW HT_.out HW_.out (by kernel_rfl)) (fun _ _ _ h => h) (Or.inl ⟨by rfl, ?_⟩) hHeld ?_ ?_
                rotate_left
                ·
                 rintro w' ⟨s0, s1, s2⟩
                 go_simp
                 with_reducible rfl
                rotate_left
                ·
                 simp only [Act.put, List.setIfInBounds_toArray, List.set_cons_zero, List.set_cons_succ, i64_w, i32_w]
                 rfl
                refine take_ (i := 7) (N := some 61) (v := ?_) (a' := ?_) law16_SortedStays.Y8 rfl rfl (take_ofW HT_.out HW_.out (by kernel_rfl)) (fun _ _ _ h => h) (Or.inl ⟨by rfl, ?_⟩) hHeld ?_ ?_
                rotate_left
                ·
                 rintro w' ⟨s0, s1, s2⟩
                 go_simp
                 with_reducible rfl
                rotate_left
                ·
                 simp only [Act.put, List.setIfInBounds_toArray, List.set_cons_zero, List.set_cons_succ, i64_w, i32_w]
                 rfl
                refine pure_ (i := 8) (N := some 62) (v := ?_) (a' := ?_) law16_SortedStays.Y9 rfl rfl (any_of HT_.out (by kernel_rfl)) (fun _ _ _ h => h) (Or.inl ⟨by rfl, ?_⟩) ?_ ?_
                rotate_left
                ·
                 intro w'
                 go_simp
                 with_reducible rfl
                rotate_left
                ·
                 simp only [Act.put, List.setIfInBounds_toArray, List.set_cons_zero, List.set_cons_succ, i64_w, i32_w]
                 rfl
                refine pure_ (i := 9) (N := some 63) (v := ?_) (a' := ?_) law16_SortedStays.Y10 rfl rfl (any_of HT_.out (by kernel_rfl)) (fun _ _ _ h => h) (Or.inl ⟨by rfl, ?_⟩) ?_ ?_
                rotate_left
                ·
                 intro w'
                 go_simp
                 with_reducible rfl
                rotate_left
                ·
                 simp only [Act.put, List.setIfInBounds_toArray, List.set_cons_zero, List.set_cons_succ, i64_w, i32_w]
                 rfl
                refine pure_ (i := 10) (N := some 64) (v := ?_) (a' := ?_) law16_SortedStays.Y11 rfl rfl (any_of HT_.out (by kernel_rfl)) (fun _ _ _ h => h) (Or.inl ⟨by rfl, ?_⟩) ?_ ?_
                rotate_left
                ·
                 intro w'
                 go_simp
                 with_reducible rfl
                rotate_left
                ·
                 simp only [Act.put, List.setIfInBounds_toArray, List.set_cons_zero, List.set_cons_succ, i64_w, i32_w]
                 rfl
                refine pure_ (i := 11) (N := some 65) (v := ?_) (a' := ?_) law16_SortedStays.Y12 rfl rfl (any_of HT_.out (by kernel_rfl)) (fun _ _ _ h => h) (Or.inl ⟨by rfl, ?_⟩) ?_ ?_
                rotate_left
                ·
                 intro w'
                 go_simp
                 with_reducible rfl
                rotate_left
                ·
                 simp only [Act.put, List.setIfInBounds_toArray, List.set_cons_zero, List.set_cons_succ, i64_w, i32_w]
                 rfl
                refine pure_ (i := 12) (N := some 66) (v := ?_) (a' := ?_) law16_SortedStays.Y13 rfl rfl (any_of HT_.out (by kernel_rfl)) (fun _ _ _ h => h) (Or.inl ⟨by rfl, ?_⟩) ?_ ?_
                rotate_left
                ·
                 intro w'
                 go_simp
                 with_reducible rfl
                rotate_left
                ·
                 simp only [Act.put, List.setIfInBounds_toArray, List.set_cons_zero, List.set_cons_succ, i64_w, i32_w]
                 rfl
                refine pure_ (i := 13) (N := some 67) (v := ?_) (a' := ?_) law16_SortedStays.Y14 rfl rfl (any_of HT_.out (by kernel_rfl)) (fun _ _ _ h => h) (Or.inl ⟨by rfl, ?_⟩) ?_ ?_
                rotate_left
                ·
                 intro w'
                 go_simp
                 with_reducible rfl
                rotate_left
                ·
                 simp only [Act.put, List.setIfInBounds_toArray, List.set_cons_zero, List.set_cons_succ, i64_w, i32_w]
                 rfl
                refine take_ (i := 14) (N := some 68) (v := ?_) (a' := ?_) law16_SortedStays.Y15 rfl rfl (take_ofW HT_.out HW_.out (by kernel_rfl)) (fun _ _ _ h => h) (Or.inl ⟨by rfl, ?_⟩) hHeld ?_ ?_
                rotate_left
                ·
                 rintro w' ⟨s0, s1, s2⟩
                 go_simp
                 with_reducible rfl
                rotate_left
                ·
                 simp only [Act.put, List.setIfInBounds_toArray, List.set_cons_zero, List.set_cons_succ, i64_w, i32_w]
                 rfl
                refine pure_ (i := 15) (N := some 69) (v := ?_) (a' := ?_) law16_SortedStays.Y16 rfl rfl (any_of HT_.out (by kernel_rfl)) (fun _ _ _ h => h) (Or.inl ⟨by rfl, ?_⟩) ?_ ?_
                rotate_left
                ·
                 intro w'
                 go_simp
                 with_reducible rfl
                rotate_left
                ·
                 simp only [Act.put, List.setIfInBounds_toArray, List.set_cons_zero, List.set_cons_succ, i64_w, i32_w]
                 rfl
                refine pure_ (i := 16) (N := some 70) (v := ?_) (a' := ?_) law16_SortedStays.Y17 rfl rfl (any_of HT_.out (by kernel_rfl)) (fun _ _ _ h => h) (Or.inl ⟨by rfl, ?_⟩) ?_ ?_
                rotate_left
                ·
                 intro w'
                 go_simp
                 with_reducible rfl
                rotate_left
                ·
                 simp only [Act.put, List.setIfInBounds_toArray, List.set_cons_zero, List.set_cons_succ, i64_w, i32_w]
                 rfl
                refine done_ (done_of HT_.out (by kernel_rfl)) ?_
                try go_wp2
                go_roundg k3
                case measure => have := HK1.out; have := HK2.out; have := HK3.out; omega
                case rel => exact ⟨(wrap64 (x10_3 + 1)), (by first | rfl | (simp; done) | (simp [*]; done)), H', ⟨by have := HK1.out; have := HK2.out; have := HK3.out; omega⟩, ⟨by (with_reducible repeat (first | apply Kd.N_alloc | apply Kd.N_drewN | apply Kd.N_drew)); exact HO_6.out⟩, ⟨by (with_reducible repeat (first | apply Kd.N_alloc | apply Kd.N_drewN | apply Kd.N_drew)); exact HO_7.out⟩, ⟨by repeat (first | (with_reducible first | exact HB.out | apply below_alloc | apply pw_below_drewN | apply below_drew1) | exact HB.out)⟩⟩
             ·
              rw [if_neg c27] at H
              exact absurd H (by simp)
            ·
             rw [if_neg c26] at H
             exact absurd H (by simp)
           ·
            rw [if_neg c25] at H
            exact absurd H (by simp)
          ·
           rw [if_neg c24] at H
           have c24b0 : decide (x10_3 < (t168.length : Int)) = false := decide_eq_false c24
           (try (have c24b0q_hl174_0 := c24b0; rw [hl174_0] at c24b0q_hl174_0))
           (try (have c24b0q_hl185_0 := c24b0; rw [hl185_0] at c24b0q_hl185_0))
           clear c24
           have H' := Aside0.mk H
           clear H
           go_wp2
           go_roundg k3
           case measure => have := HK1.out; have := HK2.out; have := HK3.out; omega
           case rel => exact ⟨(wrap64 (x9_2 + 1)), (by first | rfl | (simp; done) | (simp [*]; done)), H', ⟨by have := HK1.out; have := HK2.out; have := HK3.out; omega⟩, ⟨by (with_reducible repeat (first | apply Kd.N_alloc | apply Kd.N_drewN | apply Kd.N_drew)); exact HO_6.out⟩, ⟨by (with_reducible repeat (first | apply Kd.N_alloc | apply Kd.N_drewN | apply Kd.N_drew)); exact HO_7.out⟩, ⟨by repeat (first | (with_reducible first | exact HB.out | apply below_alloc | apply pw_below_drewN | apply below_drew1) | exact HB.out)⟩⟩
       ·
        rw [if_neg c23] at H
        have c23b0 : decide (x9_2 < (l1.length : Int)) = false := decide_eq_false c23
        (try (have c23b0q_hl174_0 := c23b0; rw [hl174_0] at c23b0q_hl174_0))
        (try (have c23b0q_hl185_0 := c23b0; rw [hl185_0] at c23b0q_hl185_0))
        clear c23
        replace H := Option.bind_eq_some_iff.mp H
        obtain ⟨t187, A330, H⟩ := H
        replace H : ((sorted_By.f x7_1 l1).bind fun t190 => ((sorted_Rise.f t187 l1).bind fun t193 => (if t193 = true then ((sorted_Bag.f t168 t187).bind fun t194 => (if t194 = true then ((sorted_By.f t187 l1).bind fun t195 => ((ref05_Lists.f k2 t195 t187).bind fun t198 => (if t198 = true then (law16_SortedStays.j3 k2 l1 t167 t190 ((t190.length : Int) != (t168.length : Int))) else (law16_SortedStays.j3 k2 l1 t167 t190 true)))) else (law16_SortedStays.j3 k2 l1 t167 t190 true))) else (law16_SortedStays.j3 k2 l1 t167 t190 true)))) = some r := H
        have A33 := Aside0.mk A330
        clear A330
        replace H := Option.bind_eq_some_iff.mp H
        obtain ⟨t190, A340, H⟩ := H
        replace H : ((sorted_Rise.f t187 l1).bind fun t193 => (if t193 = true then ((sorted_Bag.f t168 t187).bind fun t194 => (if t194 = true then ((sorted_By.f t187 l1).bind fun t195 => ((ref05_Lists.f k2 t195 t187).bind fun t198 => (if t198 = true then (law16_SortedStays.j3 k2 l1 t167 t190 ((t190.length : Int) != (t168.length : Int))) else (law16_SortedStays.j3 k2 l1 t167 t190 true)))) else (law16_SortedStays.j3 k2 l1 t167 t190 true))) else (law16_SortedStays.j3 k2 l1 t167 t190 true))) = some r := H
        have A34 := Aside0.mk A340
        clear A340
        have HC35 := Aside0.mk H
        clear H
        go_upto_region 20 with (first | ((with_reducible refine gate_callee (f := 11) rfl ?_); refine goesL_ (some 74) rfl rfl Try.func11 (by kernel_rfl) rfl #[.slice Ao22 t168.length co22, .slice A1 l1.length c1] rfl (by (try simp only [List.map_toArray, List.map_cons, List.map_nil]); first | done | rfl | (simp only [List.length_drop, List.length_take]; rfl)) ?_; (with_reducible refine (sorted_By.calls _ _ t168 _ _ l1 t187 _ ?side1 ?side2 ?side3 ?side4 A33.out).mono ?_); (case side1 => repeat (first | exact (Kd.N_reads' HO_6.out).2.2 | (with_reducible refine Kd.C_alloc ?_ _) | (with_reducible refine Kd.C_drewN ?_ _) | (with_reducible refine Kd.C_drew ?_))); (case side2 => exact (Kd.N_reads' HO_6.out).2.1); (case side3 => repeat (first | exact (Kd.C_below HR1.out HB.out) | (with_reducible refine Kd.C_alloc ?_ _) | (with_reducible refine Kd.C_drewN ?_ _) | (with_reducible refine Kd.C_drew ?_))); (case side4 => exact HC1.out); rintro e w36 ⟨v188, rfl, ho0, hb⟩; refine ⟨_, rfl, ?_⟩; have n0_ := Aside0.mk (Kd.N_elder' (by (with_reducible repeat (first | apply Kd.N_alloc | apply Kd.N_drewN | apply Kd.N_drew)); exact HO_6.out) (Kd.S_base ho0) hb); have n1_ := Aside0.mk (Kd.N_elder' (by (with_reducible repeat (first | apply Kd.N_alloc | apply Kd.N_drewN | apply Kd.N_drew)); exact HO_7.out) (Kd.S_base ho0) hb); have n2_ := Aside0.mk (Kd.N_lower (Kd.N_mono (ok' := fun k_ => some k_ ≠ (.slice Ao22 t168.length co22 : Value).ownBlock ∧ some k_ ≠ (u7 : Value).ownBlock) (Kd.S_N (Kd.S_bound ho0)) (fun k_ hk_ => ⟨(Kd.fresh' (Kd.N_lt (by (with_reducible repeat (first | apply Kd.N_alloc | apply Kd.N_drewN | apply Kd.N_drew)); exact HO_6.out)) k_ hk_.2.1), (Kd.fresh' (Kd.N_lt (by (with_reducible repeat (first | apply Kd.N_alloc | apply Kd.N_drewN | apply Kd.N_drew)); exact HO_7.out)) k_ hk_.2.1)⟩)) (below_size (by repeat (first | (with_reducible first | exact HB.out | apply below_alloc | apply pw_below_drewN | apply below_drew1) | exact HB.out)))); have n3_ := Aside0.mk (below_step (by repeat (first | (with_reducible first | exact HB.out | apply below_alloc | apply pw_below_drewN | apply below_drew1) | exact HB.out)) hb); clear HO_6; clear HO_7; clear HB; have HO_6 := n0_; have HO_7 := n1_; have HO189 := n2_; have HB := n3_; clear n0_ n1_ n2_ n3_; (try clear hb); (try clear hb2); (try clear hk); (try clear hi); (try clear ho0); obtain ⟨Ao37, co37, eo37⟩ := Kd.N_slice HO_7.out; subst eo37) | ((with_reducible refine gate_callee (f := 11) rfl ?_); refine goesL_ (some 77) rfl rfl Try.func11 (by kernel_rfl) rfl #[.slice Ao37 x7_1.length co37, .slice A1 l1.length c1] rfl (by (try simp only [List.map_toArray, List.map_cons, List.map_nil]); first | done | rfl | (simp only [List.length_drop, List.length_take]; rfl)) ?_; (with_reducible refine (sorted_By.calls _ _ x7_1 _ _ l1 t190 _ ?side1 ?side2 ?side3 ?side4 A34.out).mono ?_); (case side1 => repeat (first | exact (Kd.N_reads' HO_7.out).2.2 | (with_reducible refine Kd.C_alloc ?_ _) | (with_reducible refine Kd.C_drewN ?_ _) | (with_reducible refine Kd.C_drew ?_))); (case side2 => exact (Kd.N_reads' HO_7.out).2.1); (case side3 => repeat (first | exact (Kd.C_below HR1.out HB.out) | (with_reducible refine Kd.C_alloc ?_ _) | (with_reducible refine Kd.C_drewN ?_ _) | (with_reducible refine Kd.C_drew ?_))); (case side4 => exact HC1.out); rintro e w38 ⟨v191, rfl, ho0, hb⟩; refine ⟨_, rfl, ?_⟩; have n0_ := Aside0.mk (Kd.N_elder' (by (with_reducible repeat (first | apply Kd.N_alloc | apply Kd.N_drewN | apply Kd.N_drew)); exact HO_6.out) (Kd.S_base ho0) hb); have n1_ := Aside0.mk (Kd.N_elder' (by (with_reducible repeat (first | apply Kd.N_alloc | apply Kd.N_drewN | apply Kd.N_drew)); exact HO_7.out) (Kd.S_base ho0) hb); have n2_ := Aside0.mk (Kd.N_elder' (by (with_reducible repeat (first | apply Kd.N_alloc | apply Kd.N_drewN | apply Kd.N_drew)); exact HO189.out) (Kd.S_base ho0) hb); have n3_ := Aside0.mk (Kd.N_lower (Kd.N_mono (ok' := fun k_ => some k_ ≠ (.slice Ao22 t168.length co22 : Value).ownBlock ∧ some k_ ≠ (.slice Ao37 x7_1.length co37 : Value).ownBlock ∧ some k_ ≠ (v188 : Value).ownBlock) (Kd.S_N (Kd.S_bound ho0)) (fun k_ hk_ => ⟨(Kd.fresh' (Kd.N_lt (by (with_reducible repeat (first | apply Kd.N_alloc | apply Kd.N_drewN | apply Kd.N_drew)); exact HO_6.out)) k_ hk_.2.1), (Kd.fresh' (Kd.N_lt (by (with_reducible repeat (first | apply Kd.N_alloc | apply Kd.N_drewN | apply Kd.N_drew)); exact HO_7.out)) k_ hk_.2.1), (Kd.fresh' (Kd.N_lt (by (with_reducible repeat (first | apply Kd.N_alloc | apply Kd.N_drewN | apply Kd.N_drew)); exact HO189.out)) k_ hk_.2.1)⟩)) (below_size (by repeat (first | (with_reducible first | exact HB.out | apply below_alloc | apply pw_below_drewN | apply below_drew1) | exact HB.out)))); have n4_ := Aside0.mk (below_step (by repeat (first | (with_reducible first | exact HB.out | apply below_alloc | apply pw_below_drewN | apply below_drew1) | exact HB.out)) hb); clear HO_6; clear HO_7; clear HO189; clear HB; have HO_6 := n0_; have HO_7 := n1_; have HO189 := n2_; have HO192 := n3_; have HB := n4_; clear n0_ n1_ n2_ n3_ n4_; (try clear hb); (try clear hb2); (try clear hk); (try clear hi); (try clear ho0)))
        (try simp only [Act.put, List.setIfInBounds_toArray, List.set_cons_zero, List.set_cons_succ])
        go_cut [102] (fun v102 wc => ∃ (kq : Nat) (x102_34 : Bool), v102 = .bool x102_34 ∧ Aside0 (law16_SortedStays.j3 kq l1 t167 t190 x102_34 = some r) ∧ Aside0 (kq ≤ k2) ∧ Aside0 (Kd.N (Kd.slice 28 k28) 26 wc w.heap.size (fun _ => True) v191 t190) ∧ Aside0 (Below w.heap.size w wc))
        case first =>
         have H := HC35.out
         clear HC35
         replace H := Option.bind_eq_some_iff.mp H
         obtain ⟨t193, A390, H⟩ := H
         replace H : (if t193 = true then ((sorted_Bag.f t168 t187).bind fun t194 => (if t194 = true then ((sorted_By.f t187 l1).bind fun t195 => ((ref05_Lists.f k2 t195 t187).bind fun t198 => (if t198 = true then (law16_SortedStays.j3 k2 l1 t167 t190 ((t190.length : Int) != (t168.length : Int))) else (law16_SortedStays.j3 k2 l1 t167 t190 true)))) else (law16_SortedStays.j3 k2 l1 t167 t190 true))) else (law16_SortedStays.j3 k2 l1 t167 t190 true)) = some r := H
         have A39 := Aside0.mk A390
         clear A390
         by_cases c40 : t193 = true
         ·
          subst c40
          have H1 : ((sorted_Bag.f t168 t187).bind fun t194 => (if t194 = true then ((sorted_By.f t187 l1).bind fun t195 => ((ref05_Lists.f k2 t195 t187).bind fun t198 => (if t198 = true then (law16_SortedStays.j3 k2 l1 t167 t190 ((t190.length : Int) != (t168.length : Int))) else (law16_SortedStays.j3 k2 l1 t167 t190 true)))) else (law16_SortedStays.j3 k2 l1 t167 t190 true))) = some r := by rw [if_pos rfl] at H; exact H
          clear H
          have H := H1
          clear H1
          replace H := Option.bind_eq_some_iff.mp H
          obtain ⟨t194, A410, H⟩ := H
          replace H : (if t194 = true then ((sorted_By.f t187 l1).bind fun t195 => ((ref05_Lists.f k2 t195 t187).bind fun t198 => (if t198 = true then (law16_SortedStays.j3 k2 l1 t167 t190 ((t190.length : Int) != (t168.length : Int))) else (law16_SortedStays.j3 k2 l1 t167 t190 true)))) else (law16_SortedStays.j3 k2 l1 t167 t190 true)) = some r := H
          have A41 := Aside0.mk A410
          clear A410
          by_cases c42 : t194 = true
          ·
           subst c42
           have H1 : ((sorted_By.f t187 l1).bind fun t195 => ((ref05_Lists.f k2 t195 t187).bind fun t198 => (if t198 = true then (law16_SortedStays.j3 k2 l1 t167 t190 ((t190.length : Int) != (t168.length : Int))) else (law16_SortedStays.j3 k2 l1 t167 t190 true)))) = some r := by rw [if_pos rfl] at H; exact H
           clear H
           have H := H1
           clear H1
           replace H := Option.bind_eq_some_iff.mp H
           obtain ⟨t195, A430, H⟩ := H
           replace H : ((ref05_Lists.f k2 t195 t187).bind fun t198 => (if t198 = true then (law16_SortedStays.j3 k2 l1 t167 t190 ((t190.length : Int) != (t168.length : Int))) else (law16_SortedStays.j3 k2 l1 t167 t190 true))) = some r := H
           have A43 := Aside0.mk A430
           clear A430
           replace H := Option.bind_eq_some_iff.mp H
           obtain ⟨t198, A440, H⟩ := H
           replace H : (if t198 = true then (law16_SortedStays.j3 k2 l1 t167 t190 ((t190.length : Int) != (t168.length : Int))) else (law16_SortedStays.j3 k2 l1 t167 t190 true)) = some r := H
           have A44 := Aside0.mk A440
           clear A440
           by_cases c45 : t198 = true
           ·
            subst c45
            have H1 : (law16_SortedStays.j3 k2 l1 t167 t190 ((t190.length : Int) != (t168.length : Int))) = some r := by rw [if_pos rfl] at H; exact H
            clear H
            have H := H1
            clear H1
            have H' := Aside0.mk H
            clear H
            obtain ⟨Ao46, co46, eo46⟩ := Kd.N_slice HO189.out
            subst eo46
            go_wp2_with (first | ((with_reducible refine gate_callee (f := 12) rfl ?_); refine goesL_ (some 80) rfl rfl Try.func12 (by kernel_rfl) rfl #[.slice Ao46 t187.length co46, .slice A1 l1.length c1] rfl (by (try simp only [List.map_toArray, List.map_cons, List.map_nil]); first | done | rfl | (simp only [List.length_drop, List.length_take]; rfl)) ?_; (with_reducible refine (sorted_Rise.calls _ _ t187 _ _ l1 true _ ?side1 ?side2 ?side3 ?side4 A39.out).mono ?_); (case side1 => repeat (first | exact (Kd.N_reads' HO189.out).2.2 | (with_reducible refine Kd.C_alloc ?_ _) | (with_reducible refine Kd.C_drewN ?_ _) | (with_reducible refine Kd.C_drew ?_))); (case side2 => exact (Kd.N_reads' HO189.out).2.1); (case side3 => repeat (first | exact (Kd.C_below HR1.out HB.out) | (with_reducible refine Kd.C_alloc ?_ _) | (with_reducible refine Kd.C_drewN ?_ _) | (with_reducible refine Kd.C_drew ?_))); (case side4 => exact HC1.out); rintro e w47 ⟨rfl, hb⟩; refine ⟨_, rfl, ?_⟩; have n0_ := Aside0.mk (Kd.N_below (by (with_reducible repeat (first | apply Kd.N_alloc | apply Kd.N_drewN | apply Kd.N_drew)); exact HO_6.out) hb); have n1_ := Aside0.mk (Kd.N_below (by (with_reducible repeat (first | apply Kd.N_alloc | apply Kd.N_drewN | apply Kd.N_drew)); exact HO_7.out) hb); have n2_ := Aside0.mk (Kd.N_below (by (with_reducible repeat (first | apply Kd.N_alloc | apply Kd.N_drewN | apply Kd.N_drew)); exact HO189.out) hb); have n3_ := Aside0.mk (Kd.N_below (by (with_reducible repeat (first | apply Kd.N_alloc | apply Kd.N_drewN | apply Kd.N_drew)); exact HO192.out) hb); have n4_ := Aside0.mk (below_step (by repeat (first | (with_reducible first | exact HB.out | apply below_alloc | apply pw_below_drewN | apply below_drew1) | exact HB.out)) hb); clear HO_6; clear HO_7; clear HO189; clear HO192; clear HB; have HO_6 := n0_; have HO_7 := n1_; have HO189 := n2_; have HO192 := n3_; have HB := n4_; clear n0_ n1_ n2_ n3_ n4_; (try clear hb); (try clear hb2); (try clear hk); (try clear hi)) | (go_at_call 13; (with_reducible refine (sorted_Bag.calls _ _ t168 _ _ t187 true _ ?side1 ?side2 ?side3 ?side4 A41.out).mono ?_); (case side1 => repeat (first | exact (Kd.N_reads' HO_6.out).2.2 | (with_reducible refine Kd.C_alloc ?_ _) | (with_reducible refine Kd.C_drewN ?_ _) | (with_reducible refine Kd.C_drew ?_))); (case side2 => exact (Kd.N_reads' HO_6.out).2.1); (case side3 => repeat (first | exact (Kd.N_reads' HO189.out).2.2 | (with_reducible refine Kd.C_alloc ?_ _) | (with_reducible refine Kd.C_drewN ?_ _) | (with_reducible refine Kd.C_drew ?_))); (case side4 => exact (Kd.N_reads' HO189.out).2.1); rintro e w48 ⟨rfl, hb⟩; have n0_ := Aside0.mk (Kd.N_below (by (with_reducible repeat (first | apply Kd.N_alloc | apply Kd.N_drewN | apply Kd.N_drew)); exact HO_6.out) hb); have n1_ := Aside0.mk (Kd.N_below (by (with_reducible repeat (first | apply Kd.N_alloc | apply Kd.N_drewN | apply Kd.N_drew)); exact HO_7.out) hb); have n2_ := Aside0.mk (Kd.N_below (by (with_reducible repeat (first | apply Kd.N_alloc | apply Kd.N_drewN | apply Kd.N_drew)); exact HO189.out) hb); have n3_ := Aside0.mk (Kd.N_below (by (with_reducible repeat (first | apply Kd.N_alloc | apply Kd.N_drewN | apply Kd.N_drew)); exact HO192.out) hb); have n4_ := Aside0.mk (below_step (by repeat (first | (with_reducible first | exact HB.out | apply below_alloc | apply pw_below_drewN | apply below_drew1) | exact HB.out)) hb); clear HO_6; clear HO_7; clear HO189; clear HO192; clear HB; have HO_6 := n0_; have HO_7 := n1_; have HO189 := n2_; have HO192 := n3_; have HB := n4_; clear n0_ n1_ n2_ n3_ n4_; (try clear hb); (try clear hb2); (try clear hk); (try clear hi)) | (go_at_call 11; (with_reducible refine (sorted_By.calls _ _ t187 _ _ l1 t195 _ ?side1 ?side2 ?side3 ?side4 A43.out).mono ?_); (case side1 => repeat (first | exact (Kd.N_reads' HO189.out).2.2 | (with_reducible refine Kd.C_alloc ?_ _) | (with_reducible refine Kd.C_drewN ?_ _) | (with_reducible refine Kd.C_drew ?_))); (case side2 => exact (Kd.N_reads' HO189.out).2.1); (case side3 => repeat (first | exact (Kd.C_below HR1.out HB.out) | (with_reducible refine Kd.C_alloc ?_ _) | (with_reducible refine Kd.C_drewN ?_ _) | (with_reducible refine Kd.C_drew ?_))); (case side4 => exact HC1.out); rintro e w49 ⟨v196, rfl, ho0, hb⟩; have n0_ := Aside0.mk (Kd.N_elder' (by (with_reducible repeat (first | apply Kd.N_alloc | apply Kd.N_drewN | apply Kd.N_drew)); exact HO_6.out) (Kd.S_base ho0) hb); have n1_ := Aside0.mk (Kd.N_elder' (by (with_reducible repeat (first | apply Kd.N_alloc | apply Kd.N_drewN | apply Kd.N_drew)); exact HO_7.out) (Kd.S_base ho0) hb); have n2_ := Aside0.mk (Kd.N_elder' (by (with_reducible repeat (first | apply Kd.N_alloc | apply Kd.N_drewN | apply Kd.N_drew)); exact HO189.out) (Kd.S_base ho0) hb); have n3_ := Aside0.mk (Kd.N_elder' (by (with_reducible repeat (first | apply Kd.N_alloc | apply Kd.N_drewN | apply Kd.N_drew)); exact HO192.out) (Kd.S_base ho0) hb); have n4_ := Aside0.mk (Kd.N_lower (Kd.N_mono (ok' := fun k_ => some k_ ≠ (.slice Ao22 t168.length co22 : Value).ownBlock ∧ some k_ ≠ (.slice Ao37 x7_1.length co37 : Value).ownBlock ∧ some k_ ≠ (.slice Ao46 t187.length co46 : Value).ownBlock ∧ some k_ ≠ (v191 : Value).ownBlock) (Kd.S_N (Kd.S_bound ho0)) (fun k_ hk_ => ⟨(Kd.fresh' (Kd.N_lt (by (with_reducible repeat (first | apply Kd.N_alloc | apply Kd.N_drewN | apply Kd.N_drew)); exact HO_6.out)) k_ hk_.2.1), (Kd.fresh' (Kd.N_lt (by (with_reducible repeat (first | apply Kd.N_alloc | apply Kd.N_drewN | apply Kd.N_drew)); exact HO_7.out)) k_ hk_.2.1), (Kd.fresh' (Kd.N_lt (by (with_reducible repeat (first | apply Kd.N_alloc | apply Kd.N_drewN | apply Kd.N_drew)); exact HO189.out)) k_ hk_.2.1), (Kd.fresh' (Kd.N_lt (by (with_reducible repeat (first | apply Kd.N_alloc | apply Kd.N_drewN | apply Kd.N_drew)); exact HO192.out)) k_ hk_.2.1)⟩)) (below_size (by repeat (first | (with_reducible first | exact HB.out | apply below_alloc | apply pw_below_drewN | apply below_drew1) | exact HB.out)))); have n5_ := Aside0.mk (below_step (by repeat (first | (with_reducible first | exact HB.out | apply below_alloc | apply pw_below_drewN | apply below_drew1) | exact HB.out)) hb); clear HO_6; clear HO_7; clear HO189; clear HO192; clear HB; have HO_6 := n0_; have HO_7 := n1_; have HO189 := n2_; have HO192 := n3_; have HO197 := n4_; have HB := n5_; clear n0_ n1_ n2_ n3_ n4_ n5_; (try clear hb); (try clear hb2); (try clear hk); (try clear hi); (try clear ho0); obtain ⟨Ao50, co50, eo50⟩ := Kd.N_slice HO197.out; subst eo50) | (go_at_call 14; (with_reducible refine (ref05_Lists.calls k2 _ _ t195 _ _ t187 true _ ?side1 ?side2 ?side3 ?side4 A44.out).mono ?_); (case side1 => repeat (first | exact (Kd.N_reads' HO197.out).2.2 | (with_reducible refine Kd.C_alloc ?_ _) | (with_reducible refine Kd.C_drewN ?_ _) | (with_reducible refine Kd.C_drew ?_))); (case side2 => exact (Kd.N_reads' HO197.out).2.1); (case side3 => repeat (first | exact (Kd.N_reads' HO189.out).2.2 | (with_reducible refine Kd.C_alloc ?_ _) | (with_reducible refine Kd.C_drewN ?_ _) | (with_reducible refine Kd.C_drew ?_))); (case side4 => exact (Kd.N_reads' HO189.out).2.1); rintro e w' ⟨rfl, ⟨nd, rfl⟩⟩; obtain ⟨Ao51, co51, eo51⟩ := Kd.N_slice HO192.out; subst eo51))
            go_meet
            case rel => exact ⟨_, (((t190.length : Int) != (t168.length : Int))), (by first | rfl | (simp; done) | (simp [*]; done)), H', ⟨by have := HK1.out; have := HK2.out; first | omega | exact Nat.le_refl _⟩, ⟨by (with_reducible repeat (first | apply Kd.N_alloc | apply Kd.N_drewN | apply Kd.N_drew)); exact Kd.N_mono HO192.out (fun _ hk => trivial)⟩, ⟨by repeat (first | (with_reducible first | exact HB.out | apply below_alloc | apply pw_below_drewN | apply below_drew1) | exact HB.out)⟩⟩
           ·
            replace c45 := Bool.eq_false_iff.mpr c45
            subst c45
            have H1 : (law16_SortedStays.j3 k2 l1 t167 t190 true) = some r := by rw [if_neg (show ¬ (false = true) by decide)] at H; exact H
            clear H
            have H := H1
            clear H1
            have H' := Aside0.mk H
            clear H
            obtain ⟨Ao52, co52, eo52⟩ := Kd.N_slice HO189.out
            subst eo52
            go_wp2_with (first | ((with_reducible refine gate_callee (f := 12) rfl ?_); refine goesL_ (some 80) rfl rfl Try.func12 (by kernel_rfl) rfl #[.slice Ao52 t187.length co52, .slice A1 l1.length c1] rfl (by (try simp only [List.map_toArray, List.map_cons, List.map_nil]); first | done | rfl | (simp only [List.length_drop, List.length_take]; rfl)) ?_; (with_reducible refine (sorted_Rise.calls _ _ t187 _ _ l1 true _ ?side1 ?side2 ?side3 ?side4 A39.out).mono ?_); (case side1 => repeat (first | exact (Kd.N_reads' HO189.out).2.2 | (with_reducible refine Kd.C_alloc ?_ _) | (with_reducible refine Kd.C_drewN ?_ _) | (with_reducible refine Kd.C_drew ?_))); (case side2 => exact (Kd.N_reads' HO189.out).2.1); (case side3 => repeat (first | exact (Kd.C_below HR1.out HB.out) | (with_reducible refine Kd.C_alloc ?_ _) | (with_reducible refine Kd.C_drewN ?_ _) | (with_reducible refine Kd.C_drew ?_))); (case side4 => exact HC1.out); rintro e w53 ⟨rfl, hb⟩; refine ⟨_, rfl, ?_⟩; have n0_ := Aside0.mk (Kd.N_below (by (with_reducible repeat (first | apply Kd.N_alloc | apply Kd.N_drewN | apply Kd.N_drew)); exact HO_6.out) hb); have n1_ := Aside0.mk (Kd.N_below (by (with_reducible repeat (first | apply Kd.N_alloc | apply Kd.N_drewN | apply Kd.N_drew)); exact HO_7.out) hb); have n2_ := Aside0.mk (Kd.N_below (by (with_reducible repeat (first | apply Kd.N_alloc | apply Kd.N_drewN | apply Kd.N_drew)); exact HO189.out) hb); have n3_ := Aside0.mk (Kd.N_below (by (with_reducible repeat (first | apply Kd.N_alloc | apply Kd.N_drewN | apply Kd.N_drew)); exact HO192.out) hb); have n4_ := Aside0.mk (below_step (by repeat (first | (with_reducible first | exact HB.out | apply below_alloc | apply pw_below_drewN | apply below_drew1) | exact HB.out)) hb); clear HO_6; clear HO_7; clear HO189; clear HO192; clear HB; have HO_6 := n0_; have HO_7 := n1_; have HO189 := n2_; have HO192 := n3_; have HB := n4_; clear n0_ n1_ n2_ n3_ n4_; (try clear hb); (try clear hb2); (try clear hk); (try clear hi)) | (go_at_call 13; (with_reducible refine (sorted_Bag.calls _ _ t168 _ _ t187 true _ ?side1 ?side2 ?side3 ?side4 A41.out).mono ?_); (case side1 => repeat (first | exact (Kd.N_reads' HO_6.out).2.2 | (with_reducible refine Kd.C_alloc ?_ _) | (with_reducible refine Kd.C_drewN ?_ _) | (with_reducible refine Kd.C_drew ?_))); (case side2 => exact (Kd.N_reads' HO_6.out).2.1); (case side3 => repeat (first | exact (Kd.N_reads' HO189.out).2.2 | (with_reducible refine Kd.C_alloc ?_ _) | (with_reducible refine Kd.C_drewN ?_ _) | (with_reducible refine Kd.C_drew ?_))); (case side4 => exact (Kd.N_reads' HO189.out).2.1); rintro e w54 ⟨rfl, hb⟩; have n0_ := Aside0.mk (Kd.N_below (by (with_reducible repeat (first | apply Kd.N_alloc | apply Kd.N_drewN | apply Kd.N_drew)); exact HO_6.out) hb); have n1_ := Aside0.mk (Kd.N_below (by (with_reducible repeat (first | apply Kd.N_alloc | apply Kd.N_drewN | apply Kd.N_drew)); exact HO_7.out) hb); have n2_ := Aside0.mk (Kd.N_below (by (with_reducible repeat (first | apply Kd.N_alloc | apply Kd.N_drewN | apply Kd.N_drew)); exact HO189.out) hb); have n3_ := Aside0.mk (Kd.N_below (by (with_reducible repeat (first | apply Kd.N_alloc | apply Kd.N_drewN | apply Kd.N_drew)); exact HO192.out) hb); have n4_ := Aside0.mk (below_step (by repeat (first | (with_reducible first | exact HB.out | apply below_alloc | apply pw_below_drewN | apply below_drew1) | exact HB.out)) hb); clear HO_6; clear HO_7; clear HO189; clear HO192; clear HB; have HO_6 := n0_; have HO_7 := n1_; have HO189 := n2_; have HO192 := n3_; have HB := n4_; clear n0_ n1_ n2_ n3_ n4_; (try clear hb); (try clear hb2); (try clear hk); (try clear hi)) | (go_at_call 11; (with_reducible refine (sorted_By.calls _ _ t187 _ _ l1 t195 _ ?side1 ?side2 ?side3 ?side4 A43.out).mono ?_); (case side1 => repeat (first | exact (Kd.N_reads' HO189.out).2.2 | (with_reducible refine Kd.C_alloc ?_ _) | (with_reducible refine Kd.C_drewN ?_ _) | (with_reducible refine Kd.C_drew ?_))); (case side2 => exact (Kd.N_reads' HO189.out).2.1); (case side3 => repeat (first | exact (Kd.C_below HR1.out HB.out) | (with_reducible refine Kd.C_alloc ?_ _) | (with_reducible refine Kd.C_drewN ?_ _) | (with_reducible refine Kd.C_drew ?_))); (case side4 => exact HC1.out); rintro e w55 ⟨v196, rfl, ho0, hb⟩; have n0_ := Aside0.mk (Kd.N_elder' (by (with_reducible repeat (first | apply Kd.N_alloc | apply Kd.N_drewN | apply Kd.N_drew)); exact HO_6.out) (Kd.S_base ho0) hb); have n1_ := Aside0.mk (Kd.N_elder' (by (with_reducible repeat (first | apply Kd.N_alloc | apply Kd.N_drewN | apply Kd.N_drew)); exact HO_7.out) (Kd.S_base ho0) hb); have n2_ := Aside0.mk (Kd.N_elder' (by (with_reducible repeat (first | apply Kd.N_alloc | apply Kd.N_drewN | apply Kd.N_drew)); exact HO189.out) (Kd.S_base ho0) hb); have n3_ := Aside0.mk (Kd.N_elder' (by (with_reducible repeat (first | apply Kd.N_alloc | apply Kd.N_drewN | apply Kd.N_drew)); exact HO192.out) (Kd.S_base ho0) hb); have n4_ := Aside0.mk (Kd.N_lower (Kd.N_mono (ok' := fun k_ => some k_ ≠ (.slice Ao22 t168.length co22 : Value).ownBlock ∧ some k_ ≠ (.slice Ao37 x7_1.length co37 : Value).ownBlock ∧ some k_ ≠ (.slice Ao52 t187.length co52 : Value).ownBlock ∧ some k_ ≠ (v191 : Value).ownBlock) (Kd.S_N (Kd.S_bound ho0)) (fun k_ hk_ => ⟨(Kd.fresh' (Kd.N_lt (by (with_reducible repeat (first | apply Kd.N_alloc | apply Kd.N_drewN | apply Kd.N_drew)); exact HO_6.out)) k_ hk_.2.1), (Kd.fresh' (Kd.N_lt (by (with_reducible repeat (first | apply Kd.N_alloc | apply Kd.N_drewN | apply Kd.N_drew)); exact HO_7.out)) k_ hk_.2.1), (Kd.fresh' (Kd.N_lt (by (with_reducible repeat (first | apply Kd.N_alloc | apply Kd.N_drewN | apply Kd.N_drew)); exact HO189.out)) k_ hk_.2.1), (Kd.fresh' (Kd.N_lt (by (with_reducible repeat (first | apply Kd.N_alloc | apply Kd.N_drewN | apply Kd.N_drew)); exact HO192.out)) k_ hk_.2.1)⟩)) (below_size (by repeat (first | (with_reducible first | exact HB.out | apply below_alloc | apply pw_below_drewN | apply below_drew1) | exact HB.out)))); have n5_ := Aside0.mk (below_step (by repeat (first | (with_reducible first | exact HB.out | apply below_alloc | apply pw_below_drewN | apply below_drew1) | exact HB.out)) hb); clear HO_6; clear HO_7; clear HO189; clear HO192; clear HB; have HO_6 := n0_; have HO_7 := n1_; have HO189 := n2_; have HO192 := n3_; have HO197 := n4_; have HB := n5_; clear n0_ n1_ n2_ n3_ n4_ n5_; (try clear hb); (try clear hb2); (try clear hk); (try clear hi); (try clear ho0); obtain ⟨Ao56, co56, eo56⟩ := Kd.N_slice HO197.out; subst eo56) | (go_at_call 14; (with_reducible refine (ref05_Lists.calls k2 _ _ t195 _ _ t187 false _ ?side1 ?side2 ?side3 ?side4 A44.out).mono ?_); (case side1 => repeat (first | exact (Kd.N_reads' HO197.out).2.2 | (with_reducible refine Kd.C_alloc ?_ _) | (with_reducible refine Kd.C_drewN ?_ _) | (with_reducible refine Kd.C_drew ?_))); (case side2 => exact (Kd.N_reads' HO197.out).2.1); (case side3 => repeat (first | exact (Kd.N_reads' HO189.out).2.2 | (with_reducible refine Kd.C_alloc ?_ _) | (with_reducible refine Kd.C_drewN ?_ _) | (with_reducible refine Kd.C_drew ?_))); (case side4 => exact (Kd.N_reads' HO189.out).2.1); rintro e w' ⟨rfl, ⟨nd, rfl⟩⟩))
            go_meet
            case rel => exact ⟨_, (true), (by first | rfl | (simp; done) | (simp [*]; done)), H', ⟨by have := HK1.out; have := HK2.out; first | omega | exact Nat.le_refl _⟩, ⟨by (with_reducible repeat (first | apply Kd.N_alloc | apply Kd.N_drewN | apply Kd.N_drew)); exact Kd.N_mono HO192.out (fun _ hk => trivial)⟩, ⟨by repeat (first | (with_reducible first | exact HB.out | apply below_alloc | apply pw_below_drewN | apply below_drew1) | exact HB.out)⟩⟩
          ·
           replace c42 := Bool.eq_false_iff.mpr c42
           subst c42
           have H1 : (law16_SortedStays.j3 k2 l1 t167 t190 true) = some r := by rw [if_neg (show ¬ (false = true) by decide)] at H; exact H
           clear H
           have H := H1
           clear H1
           have H' := Aside0.mk H
           clear H
           obtain ⟨Ao57, co57, eo57⟩ := Kd.N_slice HO189.out
           subst eo57
           go_wp2_with (first | ((with_reducible refine gate_callee (f := 12) rfl ?_); refine goesL_ (some 80) rfl rfl Try.func12 (by kernel_rfl) rfl #[.slice Ao57 t187.length co57, .slice A1 l1.length c1] rfl (by (try simp only [List.map_toArray, List.map_cons, List.map_nil]); first | done | rfl | (simp only [List.length_drop, List.length_take]; rfl)) ?_; (with_reducible refine (sorted_Rise.calls _ _ t187 _ _ l1 true _ ?side1 ?side2 ?side3 ?side4 A39.out).mono ?_); (case side1 => repeat (first | exact (Kd.N_reads' HO189.out).2.2 | (with_reducible refine Kd.C_alloc ?_ _) | (with_reducible refine Kd.C_drewN ?_ _) | (with_reducible refine Kd.C_drew ?_))); (case side2 => exact (Kd.N_reads' HO189.out).2.1); (case side3 => repeat (first | exact (Kd.C_below HR1.out HB.out) | (with_reducible refine Kd.C_alloc ?_ _) | (with_reducible refine Kd.C_drewN ?_ _) | (with_reducible refine Kd.C_drew ?_))); (case side4 => exact HC1.out); rintro e w58 ⟨rfl, hb⟩; refine ⟨_, rfl, ?_⟩; have n0_ := Aside0.mk (Kd.N_below (by (with_reducible repeat (first | apply Kd.N_alloc | apply Kd.N_drewN | apply Kd.N_drew)); exact HO_6.out) hb); have n1_ := Aside0.mk (Kd.N_below (by (with_reducible repeat (first | apply Kd.N_alloc | apply Kd.N_drewN | apply Kd.N_drew)); exact HO_7.out) hb); have n2_ := Aside0.mk (Kd.N_below (by (with_reducible repeat (first | apply Kd.N_alloc | apply Kd.N_drewN | apply Kd.N_drew)); exact HO189.out) hb); have n3_ := Aside0.mk (Kd.N_below (by (with_reducible repeat (first | apply Kd.N_alloc | apply Kd.N_drewN | apply Kd.N_drew)); exact HO192.out) hb); have n4_ := Aside0.mk (below_step (by repeat (first | (with_reducible first | exact HB.out | apply below_alloc | apply pw_below_drewN | apply below_drew1) | exact HB.out)) hb); clear HO_6; clear HO_7; clear HO189; clear HO192; clear HB; have HO_6 := n0_; have HO_7 := n1_; have HO189 := n2_; have HO192 := n3_; have HB := n4_; clear n0_ n1_ n2_ n3_ n4_; (try clear hb); (try clear hb2); (try clear hk); (try clear hi)) | (go_at_call 13; (with_reducible refine (sorted_Bag.calls _ _ t168 _ _ t187 false _ ?side1 ?side2 ?side3 ?side4 A41.out).mono ?_); (case side1 => repeat (first | exact (Kd.N_reads' HO_6.out).2.2 | (with_reducible refine Kd.C_alloc ?_ _) | (with_reducible refine Kd.C_drewN ?_ _) | (with_reducible refine Kd.C_drew ?_))); (case side2 => exact (Kd.N_reads' HO_6.out).2.1); (case side3 => repeat (first | exact (Kd.N_reads' HO189.out).2.2 | (with_reducible refine Kd.C_alloc ?_ _) | (with_reducible refine Kd.C_drewN ?_ _) | (with_reducible refine Kd.C_drew ?_))); (case side4 => exact (Kd.N_reads' HO189.out).2.1); rintro e w59 ⟨rfl, hb⟩; have n0_ := Aside0.mk (Kd.N_below (by (with_reducible repeat (first | apply Kd.N_alloc | apply Kd.N_drewN | apply Kd.N_drew)); exact HO_6.out) hb); have n1_ := Aside0.mk (Kd.N_below (by (with_reducible repeat (first | apply Kd.N_alloc | apply Kd.N_drewN | apply Kd.N_drew)); exact HO_7.out) hb); have n2_ := Aside0.mk (Kd.N_below (by (with_reducible repeat (first | apply Kd.N_alloc | apply Kd.N_drewN | apply Kd.N_drew)); exact HO189.out) hb); have n3_ := Aside0.mk (Kd.N_below (by (with_reducible repeat (first | apply Kd.N_alloc | apply Kd.N_drewN | apply Kd.N_drew)); exact HO192.out) hb); have n4_ := Aside0.mk (below_step (by repeat (first | (with_reducible first | exact HB.out | apply below_alloc | apply pw_below_drewN | apply below_drew1) | exact HB.out)) hb); clear HO_6; clear HO_7; clear HO189; clear HO192; clear HB; have HO_6 := n0_; have HO_7 := n1_; have HO189 := n2_; have HO192 := n3_; have HB := n4_; clear n0_ n1_ n2_ n3_ n4_; (try clear hb); (try clear hb2); (try clear hk); (try clear hi)))
           go_meet
           case rel => exact ⟨_, (true), (by first | rfl | (simp; done) | (simp [*]; done)), H', ⟨by have := HK1.out; have := HK2.out; first | omega | exact Nat.le_refl _⟩, ⟨by (with_reducible repeat (first | apply Kd.N_alloc | apply Kd.N_drewN | apply Kd.N_drew)); exact Kd.N_mono HO192.out (fun _ hk => trivial)⟩, ⟨by repeat (first | (with_reducible first | exact HB.out | apply below_alloc | apply pw_below_drewN | apply below_drew1) | exact HB.out)⟩⟩
         ·
          replace c40 := Bool.eq_false_iff.mpr c40
          subst c40
          have H1 : (law16_SortedStays.j3 k2 l1 t167 t190 true) = some r := by rw [if_neg (show ¬ (false = true) by decide)] at H; exact H
          clear H
          have H := H1
          clear H1
          have H' := Aside0.mk H
          clear H
          obtain ⟨Ao60, co60, eo60⟩ := Kd.N_slice HO189.out
          subst eo60
          go_wp2_with (first | ((with_reducible refine gate_callee (f := 12) rfl ?_); refine goesL_ (some 80) rfl rfl Try.func12 (by kernel_rfl) rfl #[.slice Ao60 t187.length co60, .slice A1 l1.length c1] rfl (by (try simp only [List.map_toArray, List.map_cons, List.map_nil]); first | done | rfl | (simp only [List.length_drop, List.length_take]; rfl)) ?_; (with_reducible refine (sorted_Rise.calls _ _ t187 _ _ l1 false _ ?side1 ?side2 ?side3 ?side4 A39.out).mono ?_); (case side1 => repeat (first | exact (Kd.N_reads' HO189.out).2.2 | (with_reducible refine Kd.C_alloc ?_ _) | (with_reducible refine Kd.C_drewN ?_ _) | (with_reducible refine Kd.C_drew ?_))); (case side2 => exact (Kd.N_reads' HO189.out).2.1); (case side3 => repeat (first | exact (Kd.C_below HR1.out HB.out) | (with_reducible refine Kd.C_alloc ?_ _) | (with_reducible refine Kd.C_drewN ?_ _) | (with_reducible refine Kd.C_drew ?_))); (case side4 => exact HC1.out); rintro e w61 ⟨rfl, hb⟩; refine ⟨_, rfl, ?_⟩; have n0_ := Aside0.mk (Kd.N_below (by (with_reducible repeat (first | apply Kd.N_alloc | apply Kd.N_drewN | apply Kd.N_drew)); exact HO_6.out) hb); have n1_ := Aside0.mk (Kd.N_below (by (with_reducible repeat (first | apply Kd.N_alloc | apply Kd.N_drewN | apply Kd.N_drew)); exact HO_7.out) hb); have n2_ := Aside0.mk (Kd.N_below (by (with_reducible repeat (first | apply Kd.N_alloc | apply Kd.N_drewN | apply Kd.N_drew)); exact HO189.out) hb); have n3_ := Aside0.mk (Kd.N_below (by (with_reducible repeat (first | apply Kd.N_alloc | apply Kd.N_drewN | apply Kd.N_drew)); exact HO192.out) hb); have n4_ := Aside0.mk (below_step (by repeat (first | (with_reducible first | exact HB.out | apply below_alloc | apply pw_below_drewN | apply below_drew1) | exact HB.out)) hb); clear HO_6; clear HO_7; clear HO189; clear HO192; clear HB; have HO_6 := n0_; have HO_7 := n1_; have HO189 := n2_; have HO192 := n3_; have HB := n4_; clear n0_ n1_ n2_ n3_ n4_; (try clear hb); (try clear hb2); (try clear hk); (try clear hi)))
          go_meet
          case rel => exact ⟨_, (true), (by first | rfl | (simp; done) | (simp [*]; done)), H', ⟨by have := HK1.out; have := HK2.out; first | omega | exact Nat.le_refl _⟩, ⟨by (with_reducible repeat (first | apply Kd.N_alloc | apply Kd.N_drewN | apply Kd.N_drew)); exact Kd.N_mono HO192.out (fun _ hk => trivial)⟩, ⟨by repeat (first | (with_reducible first | exact HB.out | apply below_alloc | apply pw_below_drewN | apply below_drew1) | exact HB.out)⟩⟩
        case rest =>
         clear HC35
         try clear c1
         try clear p1
         try clear q1
         try clear hx1
         try clear c2
         try clear p2
         try clear c3
         try clear c4
         try clear p6
         try clear c11
         try clear c12
         try clear c18
         try clear p18
         try clear q18
         try clear hx18
         try clear c23
         try clear c23b0
         try clear c24
         try clear c24b0
         try clear c25
         try clear c26
         try clear c27
         try clear c28
         try clear c28b0
         try clear c30
         try clear c30b0
         try clear c40
         try clear c42
         try clear c45
         try clear hx184_0
         try clear hx185_0
         try clear hx186_0
         try clear p184
         try clear p185
         try clear p186
         try clear q184
         try clear q185
         try clear q186
         obtain ⟨kq, x102_34, rfl, HA, HJ34, HO_12, HB⟩ := hcut
         cases kq with
         | zero => exact absurd HA.out (by simp [law16_SortedStays.j3])
         | succ kj34 =>
          have H := HA.out
          clear HA
          simp only [law16_SortedStays.j3] at H
          by_cases c62 : x102_34 = true
          ·
           subst c62
           have H1 : (some false) = some r := by rw [if_pos rfl] at H; exact H
           clear H
           have H := H1
           clear H1
           exact absurd ((Option.some.inj H).trans hr_.out) (by decide)
          ·
           replace c62 := Bool.eq_false_iff.mpr c62
           subst c62
           have H1 : (law16_SortedStays.l3 kj34 l1 t167 t190 1) = some r := by rw [if_neg (show ¬ (false = true) by decide)] at H; exact H
           clear H
           have H := H1
           clear H1
           have H' := Aside0.mk H
           clear H
           go_wp2
           go_loopg [13] kj34 (fun kq v13 w' => ∃ (x13_4 : Int), v13 = .int .i64 x13_4 ∧ Aside0 (law16_SortedStays.l3 kq l1 t167 t190 x13_4 = some r) ∧ Aside0 (kq ≤ kj34) ∧ Aside0 (Kd.N (Kd.slice 28 k28) 26 w' w.heap.size (fun _ => True) v191 t190) ∧ Aside0 (Below w.heap.size w w'))
           case atStart => exact ⟨(1), (by first | rfl | (simp; done) | (simp [*]; done)), H', ⟨Nat.le_refl _⟩, ⟨by (with_reducible repeat (first | apply Kd.N_alloc | apply Kd.N_drewN | apply Kd.N_drew)); exact HO_12.out⟩, ⟨by repeat (first | (with_reducible first | exact HB.out | apply below_alloc | apply pw_below_drewN | apply below_drew1) | exact HB.out)⟩⟩
           case round =>
            clear H'
            try clear c1
            try clear p1
            try clear q1
            try clear hx1
            try clear c2
            try clear p2
            try clear c3
            try clear c4
            try clear c6
            try clear p6
            try clear c11
            try clear c12
            try clear c18
            try clear p18
            try clear q18
            try clear hx18
            try clear c23
            try clear c23b0
            try clear c24
            try clear c24b0
            try clear c25
            try clear c26
            try clear c27
            try clear c28
            try clear c28b0
            try clear c30
            try clear c30b0
            try clear c40
            try clear c42
            try clear c45
            try clear c62
            try clear hx184_0
            try clear hx185_0
            try clear hx186_0
            try clear p1
            try clear p18
            try clear p184
            try clear p185
            try clear p186
            try clear p2
            try clear p6
            try clear q1
            try clear q18
            try clear q184
            try clear q185
            try clear q186
            obtain ⟨x13_4, rfl, HA, HK4, HO_12, HB⟩ := hrel
            cases gk with
            | zero => exact absurd HA.out (by simp [law16_SortedStays.l3])
            | succ k4 =>
             have H := HA.out
             clear HA
             simp only [law16_SortedStays.l3] at H
             by_cases c63 : x13_4 < (t190.length : Int)
             ·
              rw [if_pos c63] at H
              have c63b0 : decide (x13_4 < (t190.length : Int)) = true := decide_eq_true c63
              (try (have c63b0q_hl174_0 := c63b0; rw [hl174_0] at c63b0q_hl174_0))
              (try (have c63b0q_hl185_0 := c63b0; rw [hl185_0] at c63b0q_hl185_0))
              clear c63
              obtain ⟨ji64, hji64⟩ : ∃ j_ : Int, (wrap64 (x13_4 - 1)) = j_ := ⟨_, rfl⟩
              replace H : (if 0 ≤ (ji64) then (if (ji64) < (t190.length : Int) then (if 0 ≤ (wrap64 (((rd_L3 t190 (ji64)).length : Int) - 1)) then (if (wrap64 (((rd_L3 t190 (ji64)).length : Int) - 1)) < ((rd_L3 t190 (ji64)).length : Int) then (if 0 ≤ x13_4 then (if 0 ≤ (wrap64 (((rd_L3 t190 x13_4).length : Int) - 1)) then (if (wrap64 (((rd_L3 t190 x13_4).length : Int) - 1)) < ((rd_L3 t190 x13_4).length : Int) then ((ref16_Order.f k4 (rd_L3 t190 (ji64)) (rd_L3 t190 x13_4) l1).bind fun t207 => (if t207 = 0 then (if ((rd_T28 (rd_L3 t190 (ji64)) (wrap64 (((rd_L3 t190 (ji64)).length : Int) - 1))).f1) ≥ ((rd_T28 (rd_L3 t190 x13_4) (wrap64 (((rd_L3 t190 x13_4).length : Int) - 1))).f1) then (some false) else (law16_SortedStays.l3 k4 l1 t167 t190 (wrap64 (x13_4 + 1)))) else (law16_SortedStays.l3 k4 l1 t167 t190 (wrap64 (x13_4 + 1))))) else (none)) else (none)) else (none)) else (none)) else (none)) else (none)) else (none)) = some r := by first | (rw [hji64] at H; exact H) | (simp only [hji64] at H ⊢; exact H)
              have hji64w : (IntKind.i64.wrap (x13_4 - 1)) = ji64 := (i64_w _).trans hji64
              by_cases c65 : 0 ≤ (ji64)
              ·
               rw [if_pos c65] at H
               have c65b0 : decide (0 ≤ (ji64)) = true := decide_eq_true c65
               clear c65
               by_cases c66 : (ji64) < (t190.length : Int)
               ·
                rw [if_pos c66] at H
                have c66b0 : decide ((ji64) < (t190.length : Int)) = true := decide_eq_true c66
                (try (have c66b0q_hl174_0 := c66b0; rw [hl174_0] at c66b0q_hl174_0))
                (try (have c66b0q_hl185_0 := c66b0; rw [hl185_0] at c66b0q_hl185_0))
                clear c66
                obtain ⟨ji67, hji67⟩ : ∃ j_ : Int, (wrap64 (((rd_L3 t190 (ji64)).length : Int) - 1)) = j_ := ⟨_, rfl⟩
                replace H : (if 0 ≤ (ji67) then (if (ji67) < ((rd_L3 t190 (ji64)).length : Int) then (if 0 ≤ x13_4 then (if 0 ≤ (wrap64 (((rd_L3 t190 x13_4).length : Int) - 1)) then (if (wrap64 (((rd_L3 t190 x13_4).length : Int) - 1)) < ((rd_L3 t190 x13_4).length : Int) then ((ref16_Order.f k4 (rd_L3 t190 (ji64)) (rd_L3 t190 x13_4) l1).bind fun t207 => (if t207 = 0 then (if ((rd_T28 (rd_L3 t190 (ji64)) (ji67)).f1) ≥ ((rd_T28 (rd_L3 t190 x13_4) (wrap64 (((rd_L3 t190 x13_4).length : Int) - 1))).f1) then (some false) else (law16_SortedStays.l3 k4 l1 t167 t190 (wrap64 (x13_4 + 1)))) else (law16_SortedStays.l3 k4 l1 t167 t190 (wrap64 (x13_4 + 1))))) else (none)) else (none)) else (none)) else (none)) else (none)) = some r := by first | (rw [hji67] at H; exact H) | (simp only [hji67] at H ⊢; exact H)
                have hji67w : (IntKind.i64.wrap (((rd_L3 t190 (ji64)).length : Int) - 1)) = ji67 := (i64_w _).trans hji67
                (try (have hji67wq_hl174_0 := hji67w; rw [hl174_0] at hji67wq_hl174_0)); (try (have hji67r_hl174_0 := hji67; rw [hl174_0] at hji67r_hl174_0))
                (try (have hji67wq_hl185_0 := hji67w; rw [hl185_0] at hji67wq_hl185_0)); (try (have hji67r_hl185_0 := hji67; rw [hl185_0] at hji67r_hl185_0))
                by_cases c68 : 0 ≤ (ji67)
                ·
                 rw [if_pos c68] at H
                 have c68b0 : decide (0 ≤ (ji67)) = true := decide_eq_true c68
                 clear c68
                 by_cases c69 : (ji67) < ((rd_L3 t190 (ji64)).length : Int)
                 ·
                  rw [if_pos c69] at H
                  have c69b0 : decide ((ji67) < ((rd_L3 t190 (ji64)).length : Int)) = true := decide_eq_true c69
                  (try (have c69b0q_hl174_0 := c69b0; rw [hl174_0] at c69b0q_hl174_0))
                  (try (have c69b0q_hl185_0 := c69b0; rw [hl185_0] at c69b0q_hl185_0))
                  clear c69
                  by_cases c70 : 0 ≤ x13_4
                  ·
                   rw [if_pos c70] at H
                   have c70b0 : decide (0 ≤ x13_4) = true := decide_eq_true c70
                   clear c70
                   obtain ⟨ji71, hji71⟩ : ∃ j_ : Int, (wrap64 (((rd_L3 t190 x13_4).length : Int) - 1)) = j_ := ⟨_, rfl⟩
                   replace H : (if 0 ≤ (ji71) then (if (ji71) < ((rd_L3 t190 x13_4).length : Int) then ((ref16_Order.f k4 (rd_L3 t190 (ji64)) (rd_L3 t190 x13_4) l1).bind fun t207 => (if t207 = 0 then (if ((rd_T28 (rd_L3 t190 (ji64)) (ji67)).f1) ≥ ((rd_T28 (rd_L3 t190 x13_4) (ji71)).f1) then (some false) else (law16_SortedStays.l3 k4 l1 t167 t190 (wrap64 (x13_4 + 1)))) else (law16_SortedStays.l3 k4 l1 t167 t190 (wrap64 (x13_4 + 1))))) else (none)) else (none)) = some r := by first | (rw [hji71] at H; exact H) | (simp only [hji71] at H ⊢; exact H)
                   have hji71w : (IntKind.i64.wrap (((rd_L3 t190 x13_4).length : Int) - 1)) = ji71 := (i64_w _).trans hji71
                   (try (have hji71wq_hl174_0 := hji71w; rw [hl174_0] at hji71wq_hl174_0)); (try (have hji71r_hl174_0 := hji71; rw [hl174_0] at hji71r_hl174_0))
                   (try (have hji71wq_hl185_0 := hji71w; rw [hl185_0] at hji71wq_hl185_0)); (try (have hji71r_hl185_0 := hji71; rw [hl185_0] at hji71r_hl185_0))
                   by_cases c72 : 0 ≤ (ji71)
                   ·
                    rw [if_pos c72] at H
                    have c72b0 : decide (0 ≤ (ji71)) = true := decide_eq_true c72
                    clear c72
                    by_cases c73 : (ji71) < ((rd_L3 t190 x13_4).length : Int)
                    ·
                     rw [if_pos c73] at H
                     have c73b0 : decide ((ji71) < ((rd_L3 t190 x13_4).length : Int)) = true := decide_eq_true c73
                     (try (have c73b0q_hl174_0 := c73b0; rw [hl174_0] at c73b0q_hl174_0))
                     (try (have c73b0q_hl185_0 := c73b0; rw [hl185_0] at c73b0q_hl185_0))
                     clear c73
                     replace H := Option.bind_eq_some_iff.mp H
                     obtain ⟨t207, A740, H⟩ := H
                     replace H : (if t207 = 0 then (if ((rd_T28 (rd_L3 t190 (ji64)) (ji67)).f1) ≥ ((rd_T28 (rd_L3 t190 x13_4) (ji71)).f1) then (some false) else (law16_SortedStays.l3 k4 l1 t167 t190 (wrap64 (x13_4 + 1)))) else (law16_SortedStays.l3 k4 l1 t167 t190 (wrap64 (x13_4 + 1)))) = some r := H
                     have A74 := Aside0.mk A740
                     clear A740
                     by_cases c75 : t207 = 0
                     ·
                      rw [if_pos c75] at H
                      have c75b0 : (t207 == 0) = true := beq_iff_eq.mpr c75
                      have c75b1 : (t207 != 0) = false := bne_eq_false_iff_eq.mpr c75
                      clear c75
                      by_cases c76 : ((rd_T28 (rd_L3 t190 (ji64)) (ji67)).f1) ≥ ((rd_T28 (rd_L3 t190 x13_4) (ji71)).f1)
                      ·
                       rw [if_pos c76] at H
                       have c76b0 : decide (((rd_T28 (rd_L3 t190 x13_4) (ji71)).f1) ≤ ((rd_T28 (rd_L3 t190 (ji64)) (ji67)).f1)) = true := decide_eq_true c76
                       clear c76
                       exact absurd ((Option.some.inj H).trans hr_.out) (by decide)
                      ·
                       rw [if_neg c76] at H
                       have c76b0 : decide (((rd_T28 (rd_L3 t190 x13_4) (ji71)).f1) ≤ ((rd_T28 (rd_L3 t190 (ji64)) (ji67)).f1)) = false := decide_eq_false c76
                       clear c76
                       have H' := Aside0.mk H
                       clear H
                       obtain ⟨Ao77, co77, eo77⟩ := Kd.N_slice HO_12.out
                       subst eo77
                       try go_wp2
                       have n0_ := Aside0.mk (Kd.N_drew HO_12.out)
                       have n1_ := Aside0.mk (below_drew1 HB.out)
                       clear HO_12
                       clear HB
                       have HO_12 := n0_
                       have HB := n1_
                       clear n0_ n1_
                       have p199 : 0 ≤ ((ji64) : Int) := of_decide_eq_true (by first | (with_reducible assumption) | assumption)
                       have q199 : (ji64) < (t190.length : Int) := of_decide_eq_true (by first | (with_reducible assumption) | assumption)
                       obtain ⟨ad199, A199_0, c199_0, e199, hx199_0, hl199_0, hi199_0⟩ := at_L3 (Kd.N_reads' HO_12.out).2.2 (ji64) p199 q199
                       cases e199
                       obtain ⟨ce199, hce199, hMe199, hcc199⟩ := Kd.N_get HO_12.out [] (ji64) p199 (by first | exact q199 | exact of_decide_eq_true (by first | (with_reducible assumption) | assumption) | (have e_ := (Kd.N_reads' HO_12.out).1; omega))
                       obtain ⟨ua199_0, uc199_0, rfl, ul199_0, ge199_0⟩ := Kd.FK_slice_open hMe199
                       have hv199_0 := hcc199 0 _ rfl
                       rw [Nat.add_zero, show ((Kd.slice 28 k28)).sz = 1 from rfl, Nat.mul_one] at hv199_0
                       replace hv199_0 := Option.some.inj (hv199_0.symm.trans hx199_0)
                       injection hv199_0 with hva_ hvn_ hvc_
                       rw [hva_] at ge199_0
                       rw [hvc_] at ul199_0
                       have HL199_0 := Aside0.mk (show Kd.V k28 28 _ w.heap.size _ _ (rd_L3 t190 (ji64)) from Kd.V_mk ul199_0 ge199_0)
                       clear hva_ hvn_ hvc_ ge199_0 ul199_0
                       clear hcc199 hce199
                       have HR199_0 := Aside0.mk hi199_0
                       have HC199_0 := Aside0.mk hl199_0
                       clear hi199_0 hl199_0
                       replace p199 := eq_true p199
                       replace q199 := eq_true q199
                       have p200 : 0 ≤ ((ji64) : Int) := of_decide_eq_true (by first | (with_reducible assumption) | assumption)
                       have q200 : (ji64) < (t190.length : Int) := of_decide_eq_true (by first | (with_reducible assumption) | assumption)
                       obtain ⟨ad200, A200_0, c200_0, e200, hx200_0, hl200_0, hi200_0⟩ := at_L3 (Kd.N_reads' HO_12.out).2.2 (ji64) p200 q200
                       obtain rfl : ad199 = ad200 := (by injection e200)
                       obtain ⟨ce200, hce200, hMe200, hcc200⟩ := Kd.N_get HO_12.out [] (ji64) p200 (by first | exact q200 | exact of_decide_eq_true (by first | (with_reducible assumption) | assumption) | (have e_ := (Kd.N_reads' HO_12.out).1; omega))
                       obtain ⟨ua200_0, uc200_0, rfl, ul200_0, ge200_0⟩ := Kd.FK_slice_open hMe200
                       have hv200_0 := hcc200 0 _ rfl
                       rw [Nat.add_zero, show ((Kd.slice 28 k28)).sz = 1 from rfl, Nat.mul_one] at hv200_0
                       replace hv200_0 := Option.some.inj (hv200_0.symm.trans hx200_0)
                       injection hv200_0 with hva_ hvn_ hvc_
                       rw [hva_] at ge200_0
                       rw [hvc_] at ul200_0
                       have HL200_0 := Aside0.mk (show Kd.V k28 28 _ w.heap.size _ _ (rd_L3 t190 (ji64)) from Kd.V_mk ul200_0 ge200_0)
                       clear hva_ hvn_ hvc_ ge200_0 ul200_0
                       clear hcc200 hce200
                       have HR200_0 := Aside0.mk hi200_0
                       have HC200_0 := Aside0.mk hl200_0
                       clear hi200_0 hl200_0
                       replace p200 := eq_true p200
                       replace q200 := eq_true q200
                       have ea_ := Option.some.inj (hx199_0.symm.trans hx200_0)
                       injection ea_ with ea_ en_ ec_
                       subst ea_
                       subst ec_
                       clear en_
                       have p201 : 0 ≤ ((ji67) : Int) := of_decide_eq_true (by first | (with_reducible assumption) | assumption)
                       have q201 : (ji67) < ((rd_L3 t190 (ji64)).length : Int) := of_decide_eq_true (by first | (with_reducible assumption) | assumption)
                       obtain ⟨ad201, e201, hx201_0, hx201_1, hx201_2⟩ := at_T28 (by repeat (first | (with_reducible exact HR199_0.out) | (with_reducible refine Kd.C_alloc ?_ _) | (with_reducible refine Kd.C_drewN ?_ _) | (with_reducible refine Kd.C_drew ?_) | exact HR199_0.out)) (ji67) p201 q201
                       cases e201
                       replace p201 := eq_true p201
                       replace q201 := eq_true q201
                       refine start_ (n := 16) (S := fun w' => w'.cell? (ad199.add ((ji64)).toNat) = some (.slice (some ad201) (rd_L3 t190 (ji64)).length c199_0) ∧ w'.cell? (ad199.add ((ji64)).toNat) = some (.slice (some ad201) (rd_L3 t190 (ji64)).length c199_0) ∧ w'.cell? (ad201.add (((ji67)).toNat * 3)) = some (.int .i64 ((rd_T28 (rd_L3 t190 (ji64)) (ji67)).f0)) ∧ w'.cell? ⟨(ad201.add (((ji67)).toNat * 3)).block, (ad201.add (((ji67)).toNat * 3)).off + 1, none⟩ = some (.int .i64 ((rd_T28 (rd_L3 t190 (ji64)) (ji67)).f1)) ∧ w'.cell? ⟨(ad201.add (((ji67)).toNat * 3)).block, (ad201.add (((ji67)).toNat * 3)).off + 2, none⟩ = some (.string ((rd_T28 (rd_L3 t190 (ji64)) (ji67)).f2))) (ds := []) #[false, false, false, false, false, false, false, false, false, false, false, false, false, false, false, false] (by kernel_rfl) rfl rfl ⟨hx199_0, hx200_0, hx201_0, hx201_1, hx201_2⟩ (fun hHeld => ?_); refine with_tabW law16_SortedStays.tab25 law16_SortedStays.bits25 (fun HT_ HW_ => ?_)
                       generalize wr.drew = w78 at HO_12 HB HL199_0 HL200_0 HR199_0 HR200_0 hx199_0 hx200_0 hx201_0 hx201_1 hx201_2 hHeld ⊢
                       refine pure_ (i := 0) (N := some 109) (v := ?_) (a' := ?_) #[true, false, false, false, false, false, false, false, false, false, false, false, false, false, false, false] rfl rfl (any_of HT_.out (by kernel_rfl)) (fun _ _ _ h => h) (Or.inl ⟨by rfl, ?_⟩) ?_ ?_
                       rotate_left
                       ·
                        intro w'
                        go_simp
                        with_reducible rfl
                       rotate_left
                       ·
                        simp only [Act.put, List.setIfInBounds_toArray, List.set_cons_zero, List.set_cons_succ, i64_w, i32_w]
                        rfl
                       refine pure_ (i := 1) (N := some 110) (v := ?_) (a' := ?_) #[true, true, false, false, false, false, false, false, false, false, false, false, false, false, false, false] rfl rfl (any_of HT_.out (by kernel_rfl)) (fun _ _ _ h => h) (Or.inl ⟨by rfl, ?_⟩) ?_ ?_
                       rotate_left
                       ·
                        intro w'
                        go_simp
                        with_reducible rfl
                       rotate_left
                       ·
                        simp only [Act.put, List.setIfInBounds_toArray, List.set_cons_zero, List.set_cons_succ, i64_w, i32_w]
                        rfl
                       refine pure_ (i := 2) (N := some 111) (v := ?_) (a' := ?_) #[true, true, true, false, false, false, false, false, false, false, false, false, false, false, false, false] rfl rfl (any_of HT_.out (by kernel_rfl)) (fun _ _ _ h => h) (Or.inl ⟨by rfl, ?_⟩) ?_ ?_
                       rotate_left
                       ·
                        intro w'
                        go_simp
                        with_reducible rfl
                       rotate_left
                       ·
                        simp only [Act.put, List.setIfInBounds_toArray, List.set_cons_zero, List.set_cons_succ, i64_w, i32_w]
                        rfl
                       refine pure_ (i := 3) (N := some 112) (v := ?_) (a' := ?_) #[true, true, true, true, false, false, false, false, false, false, false, false, false, false, false, false] rfl rfl (any_of HT_.out (by kernel_rfl)) (fun _ _ _ h => h) (Or.inl ⟨by rfl, ?_⟩) ?_ ?_
                       rotate_left
                       ·
                        intro w'
                        go_simp
                        with_reducible rfl
                       rotate_left
                       ·
                        simp only [Act.put, List.setIfInBounds_toArray, List.set_cons_zero, List.set_cons_succ, i64_w, i32_w]
                        rfl
                       refine pure_ (i := 5) (N := some 114) (v := ?_) (a' := ?_) #[true, true, true, true, false, true, false, false, false, false, false, false, false, false, false, false] rfl rfl (any_of HT_.out (by kernel_rfl)) (fun _ _ _ h => h) (Or.inl ⟨by rfl, ?_⟩) ?_ ?_
                       rotate_left
                       ·
                        intro w'
                        go_simp
                        with_reducible rfl
                       rotate_left
                       ·
                        simp only [Act.put, List.setIfInBounds_toArray, List.set_cons_zero, List.set_cons_succ, i64_w, i32_w]
                        rfl
                       refine pure_ (i := 6) (N := some 115) (v := ?_) (a' := ?_) #[true, true, true, true, false, true, true, false, false, false, false, false, false, false, false, false] rfl rfl (any_of HT_.out (by kernel_rfl)) (fun _ _ _ h => h) (Or.inl ⟨by rfl, ?_⟩) ?_ ?_
                       rotate_left
                       ·
                        intro w'
                        go_simp
                        with_reducible rfl
                       rotate_left
                       ·
                        simp only [Act.put, List.setIfInBounds_toArray, List.set_cons_zero, List.set_cons_succ, i64_w, i32_w]
                        rfl
                       refine pure_ (i := 7) (N := some 116) (v := ?_) (a' := ?_) #[true, true, true, true, false, true, true, true, false, false, false, false, false, false, false, false] rfl rfl (any_of HT_.out (by kernel_rfl)) (fun _ _ _ h => h) (Or.inl ⟨by rfl, ?_⟩) ?_ ?_
                       rotate_left
                       ·
                        intro w'
                        go_simp
                        with_reducible rfl
                       rotate_left
                       ·
                        simp only [Act.put, List.setIfInBounds_toArray, List.set_cons_zero, List.set_cons_succ, i64_w, i32_w]
                        rfl
                       refine pure_ (i := 8) (N := some 117) (v := ?_) (a' := ?_) #[true, true, true, true, false, true, true, true, true, false, false, false, false, false, false, false] rfl rfl (any_of HT_.out (by kernel_rfl)) (fun _ _ _ h => h) (Or.inl ⟨by rfl, ?_⟩) ?_ ?_
                       rotate_left
                       ·
                        intro w'
                        go_simp
                        with_reducible rfl
                       rotate_left
                       ·
                        simp only [Act.put, List.setIfInBounds_toArray, List.set_cons_zero, List.set_cons_succ, i64_w, i32_w]
                        rfl
                       refine take_ (i := 4) (N := some 113) (v := ?_) (a' := ?_) #[true, true, true, true, true, true, true, true, true, false, false, false, false, false, false, false] rfl rfl (take_ofW HT_.out HW_.out (by kernel_rfl)) (fun _ _ _ h => h) (Or.inl ⟨by rfl, ?_⟩) hHeld ?_ ?_
                       rotate_left
                       ·
                        rintro w' ⟨s0, s1, s2, s3, s4⟩
                        go_simp
                        with_reducible rfl
                       rotate_left
                       ·
                        simp only [Act.put, List.setIfInBounds_toArray, List.set_cons_zero, List.set_cons_succ, i64_w, i32_w]
                        rfl
                       refine take_ (i := 9) (N := some 118) (v := ?_) (a' := ?_) #[true, true, true, true, true, true, true, true, true, true, false, false, false, false, false, false] rfl rfl (take_ofW HT_.out HW_.out (by kernel_rfl)) (fun _ _ _ h => h) (Or.inl ⟨by rfl, ?_⟩) hHeld ?_ ?_
                       rotate_left
                       ·
                        rintro w' ⟨s0, s1, s2, s3, s4⟩
                        go_simp
                        with_reducible rfl
                       rotate_left
                       ·
                        simp only [Act.put, List.setIfInBounds_toArray, List.set_cons_zero, List.set_cons_succ, i64_w, i32_w]
                        rfl
                       refine pure_ (i := 10) (N := some 119) (v := ?_) (a' := ?_) #[true, true, true, true, true, true, true, true, true, true, true, false, false, false, false, false] rfl rfl (any_of HT_.out (by kernel_rfl)) (fun _ _ _ h => h) (Or.inl ⟨by rfl, ?_⟩) ?_ ?_
                       rotate_left
                       ·
                        intro w'
                        go_simp
                        with_reducible rfl
                       rotate_left
                       ·
                        simp only [Act.put, List.setIfInBounds_toArray, List.set_cons_zero, List.set_cons_succ, i64_w, i32_w]
                        rfl
                       refine pure_ (i := 11) (N := some 120) (v := ?_) (a' := ?_) #[true, true, true, true, true, true, true, true, true, true, true, true, false, false, false, false] rfl rfl (any_of HT_.out (by kernel_rfl)) (fun _ _ _ h => h) (Or.inl ⟨by rfl, ?_⟩) ?_ ?_
                       rotate_left
                       ·
                        intro w'
                        go_simp
                        with_reducible rfl
                       rotate_left
                       ·
                        simp only [Act.put, List.setIfInBounds_toArray, List.set_cons_zero, List.set_cons_succ, i64_w, i32_w]
                        rfl
                       refine pure_ (i := 12) (N := some 121) (v := ?_) (a' := ?_) #[true, true, true, true, true, true, true, true, true, true, true, true, true, false, false, false] rfl rfl (any_of HT_.out (by kernel_rfl)) (fun _ _ _ h => h) (Or.inl ⟨by rfl, ?_⟩) ?_ ?_
                       rotate_left
                       ·
                        intro w'
                        go_simp
                        with_reducible rfl
                       rotate_left
                       ·
                        simp only [Act.put, List.setIfInBounds_toArray, List.set_cons_zero, List.set_cons_succ, i64_w, i32_w]
                        rfl
                       refine pure_ (i := 13) (N := some 122) (v := ?_) (a' := ?_) #[true, true, true, true, true, true, true, true, true, true, true, true, true, true, false, false] rfl rfl (any_of HT_.out (by kernel_rfl)) (fun _ _ _ h => h) (Or.inl ⟨by rfl, ?_⟩) ?_ ?_
                       rotate_left
                       ·
                        intro w'
                        go_simp
                        with_reducible rfl
                       rotate_left
                       ·
                        simp only [Act.put, List.setIfInBounds_toArray, List.set_cons_zero, List.set_cons_succ, i64_w, i32_w]
                        rfl
                       refine take_ (i := 14) (N := some 123) (v := ?_) (a' := ?_) #[true, true, true, true, true, true, true, true, true, true, true, true, true, true, true, false] rfl rfl (take_ofW HT_.out HW_.out (by kernel_rfl)) (fun _ _ _ h => h) (Or.inl ⟨by rfl, ?_⟩) hHeld ?_ ?_
                       rotate_left
                       ·
                        rintro w' ⟨s0, s1, s2, s3, s4⟩
                        go_simp
                        with_reducible rfl
                       rotate_left
                       ·
                        simp only [Act.put, List.setIfInBounds_toArray, List.set_cons_zero, List.set_cons_succ, i64_w, i32_w]
                        rfl
                       refine pure_ (i := 15) (N := some 14) (v := ?_) (a' := ?_) #[true, true, true, true, true, true, true, true, true, true, true, true, true, true, true, true] rfl rfl (any_of HT_.out (by kernel_rfl)) (fun _ _ _ h => h) (Or.inl ⟨by rfl, ?_⟩) ?_ ?_
                       rotate_left
                       ·
                        intro w'
                        go_simp
                        with_reducible rfl
                       rotate_left
                       ·
                        simp only [Act.put, List.setIfInBounds_toArray, List.set_cons_zero, List.set_cons_succ, i64_w, i32_w]
                        rfl
                       refine done_ (done_of HT_.out (by kernel_rfl)) ?_
                       try go_wp2
                       have n0_ := Aside0.mk (Kd.N_drew HO_12.out)
                       have n1_ := Aside0.mk (Kd.V_drew HL199_0.out)
                       have n2_ := Aside0.mk (Kd.V_drew HL200_0.out)
                       have n3_ := Aside0.mk (Kd.C_drew HR199_0.out)
                       have n4_ := Aside0.mk (Kd.C_drew HR200_0.out)
                       have n5_ := Aside0.mk (below_drew1 HB.out)
                       clear HO_12
                       clear HL199_0
                       clear HL200_0
                       clear HR199_0
                       clear HR200_0
                       clear HB
                       have HO_12 := n0_
                       have HL199_0 := n1_
                       have HL200_0 := n2_
                       have HR199_0 := n3_
                       have HR200_0 := n4_
                       have HB := n5_
                       clear n0_ n1_ n2_ n3_ n4_ n5_
                       have p202 : 0 ≤ (x13_4 : Int) := of_decide_eq_true (by first | (with_reducible assumption) | assumption)
                       have q202 : x13_4 < (t190.length : Int) := of_decide_eq_true (by first | (with_reducible assumption) | assumption)
                       obtain ⟨ad202, A202_0, c202_0, e202, hx202_0, hl202_0, hi202_0⟩ := at_L3 (Kd.N_reads' HO_12.out).2.2 x13_4 p202 q202
                       obtain rfl : ad199 = ad202 := (by injection e202)
                       obtain ⟨ce202, hce202, hMe202, hcc202⟩ := Kd.N_get HO_12.out [] x13_4 p202 (by first | exact q202 | exact of_decide_eq_true (by first | (with_reducible assumption) | assumption) | (have e_ := (Kd.N_reads' HO_12.out).1; omega))
                       obtain ⟨ua202_0, uc202_0, rfl, ul202_0, ge202_0⟩ := Kd.FK_slice_open hMe202
                       have hv202_0 := hcc202 0 _ rfl
                       rw [Nat.add_zero, show ((Kd.slice 28 k28)).sz = 1 from rfl, Nat.mul_one] at hv202_0
                       replace hv202_0 := Option.some.inj (hv202_0.symm.trans hx202_0)
                       injection hv202_0 with hva_ hvn_ hvc_
                       rw [hva_] at ge202_0
                       rw [hvc_] at ul202_0
                       have HL202_0 := Aside0.mk (show Kd.V k28 28 _ w.heap.size _ _ (rd_L3 t190 x13_4) from Kd.V_mk ul202_0 ge202_0)
                       clear hva_ hvn_ hvc_ ge202_0 ul202_0
                       clear hcc202 hce202
                       have HR202_0 := Aside0.mk hi202_0
                       have HC202_0 := Aside0.mk hl202_0
                       clear hi202_0 hl202_0
                       replace p202 := eq_true p202
                       replace q202 := eq_true q202
                       have p203 : 0 ≤ (x13_4 : Int) := of_decide_eq_true (by first | (with_reducible assumption) | assumption)
                       have q203 : x13_4 < (t190.length : Int) := of_decide_eq_true (by first | (with_reducible assumption) | assumption)
                       obtain ⟨ad203, A203_0, c203_0, e203, hx203_0, hl203_0, hi203_0⟩ := at_L3 (Kd.N_reads' HO_12.out).2.2 x13_4 p203 q203
                       obtain rfl : ad199 = ad203 := (by injection e203)
                       obtain ⟨ce203, hce203, hMe203, hcc203⟩ := Kd.N_get HO_12.out [] x13_4 p203 (by first | exact q203 | exact of_decide_eq_true (by first | (with_reducible assumption) | assumption) | (have e_ := (Kd.N_reads' HO_12.out).1; omega))
                       obtain ⟨ua203_0, uc203_0, rfl, ul203_0, ge203_0⟩ := Kd.FK_slice_open hMe203
                       have hv203_0 := hcc203 0 _ rfl
                       rw [Nat.add_zero, show ((Kd.slice 28 k28)).sz = 1 from rfl, Nat.mul_one] at hv203_0
                       replace hv203_0 := Option.some.inj (hv203_0.symm.trans hx203_0)
                       injection hv203_0 with hva_ hvn_ hvc_
                       rw [hva_] at ge203_0
                       rw [hvc_] at ul203_0
                       have HL203_0 := Aside0.mk (show Kd.V k28 28 _ w.heap.size _ _ (rd_L3 t190 x13_4) from Kd.V_mk ul203_0 ge203_0)
                       clear hva_ hvn_ hvc_ ge203_0 ul203_0
                       clear hcc203 hce203
                       have HR203_0 := Aside0.mk hi203_0
                       have HC203_0 := Aside0.mk hl203_0
                       clear hi203_0 hl203_0
                       replace p203 := eq_true p203
                       replace q203 := eq_true q203
                       have ea_ := Option.some.inj (hx202_0.symm.trans hx203_0)
                       injection ea_ with ea_ en_ ec_
                       subst ea_
                       subst ec_
                       clear en_
                       have p204 : 0 ≤ ((ji71) : Int) := of_decide_eq_true (by first | (with_reducible assumption) | assumption)
                       have q204 : (ji71) < ((rd_L3 t190 x13_4).length : Int) := of_decide_eq_true (by first | (with_reducible assumption) | assumption)
                       obtain ⟨ad204, e204, hx204_0, hx204_1, hx204_2⟩ := at_T28 (by repeat (first | (with_reducible exact HR202_0.out) | (with_reducible refine Kd.C_alloc ?_ _) | (with_reducible refine Kd.C_drewN ?_ _) | (with_reducible refine Kd.C_drew ?_) | exact HR202_0.out)) (ji71) p204 q204
                       cases e204
                       replace p204 := eq_true p204
                       replace q204 := eq_true q204
                       refine start_ (n := 14) (S := fun w' => w'.cell? (ad199.add (x13_4).toNat) = some (.slice (some ad204) (rd_L3 t190 x13_4).length c202_0) ∧ w'.cell? (ad199.add (x13_4).toNat) = some (.slice (some ad204) (rd_L3 t190 x13_4).length c202_0) ∧ w'.cell? (ad204.add (((ji71)).toNat * 3)) = some (.int .i64 ((rd_T28 (rd_L3 t190 x13_4) (ji71)).f0)) ∧ w'.cell? ⟨(ad204.add (((ji71)).toNat * 3)).block, (ad204.add (((ji71)).toNat * 3)).off + 1, none⟩ = some (.int .i64 ((rd_T28 (rd_L3 t190 x13_4) (ji71)).f1)) ∧ w'.cell? ⟨(ad204.add (((ji71)).toNat * 3)).block, (ad204.add (((ji71)).toNat * 3)).off + 2, none⟩ = some (.string ((rd_T28 (rd_L3 t190 x13_4) (ji71)).f2))) (ds := []) #[false, false, false, false, false, false, false, false, false, false, false, false, false, false] (by kernel_rfl) rfl rfl ⟨hx202_0, hx203_0, hx204_0, hx204_1, hx204_2⟩ (fun hHeld => ?_); refine with_tabW law16_SortedStays.tab26 law16_SortedStays.bits26 (fun HT_ HW_ => ?_)
                       generalize w78.drew = w79 at HO_12 HL199_0 HL200_0 HR199_0 HR200_0 HB HL202_0 HL203_0 HR202_0 HR203_0 hx202_0 hx203_0 hx204_0 hx204_1 hx204_2 hHeld ⊢
                       refine pure_ (i := 0) (N := some 124) (v := ?_) (a' := ?_) #[true, false, false, false, false, false, false, false, false, false, false, false, false, false] rfl rfl (any_of HT_.out (by kernel_rfl)) (fun _ _ _ h => h) (Or.inl ⟨by rfl, ?_⟩) ?_ ?_
                       rotate_left
                       ·
                        intro w'
                        go_simp
                        with_reducible rfl
                       rotate_left
                       ·
                        simp only [Act.put, List.setIfInBounds_toArray, List.set_cons_zero, List.set_cons_succ, i64_w, i32_w]
                        rfl
                       refine pure_ (i := 1) (N := some 125) (v := ?_) (a' := ?_) #[true, true, false, false, false, false, false, false, false, false, false, false, false, false] rfl rfl (any_of HT_.out (by kernel_rfl)) (fun _ _ _ h => h) (Or.inl ⟨by rfl, ?_⟩) ?_ ?_
                       rotate_left
                       ·
                        intro w'
                        go_simp
                        with_reducible rfl
                       rotate_left
                       ·
                        simp only [Act.put, List.setIfInBounds_toArray, List.set_cons_zero, List.set_cons_succ, i64_w, i32_w]
                        rfl
                       refine pure_ (i := 2) (N := some 126) (v := ?_) (a' := ?_) #[true, true, true, false, false, false, false, false, false, false, false, false, false, false] rfl rfl (any_of HT_.out (by kernel_rfl)) (fun _ _ _ h => h) (Or.inl ⟨by rfl, ?_⟩) ?_ ?_
                       rotate_left
                       ·
                        intro w'
                        go_simp
                        with_reducible rfl
                       rotate_left
                       ·
                        simp only [Act.put, List.setIfInBounds_toArray, List.set_cons_zero, List.set_cons_succ, i64_w, i32_w]
                        rfl
                       refine pure_ (i := 4) (N := some 128) (v := ?_) (a' := ?_) #[true, true, true, false, true, false, false, false, false, false, false, false, false, false] rfl rfl (any_of HT_.out (by kernel_rfl)) (fun _ _ _ h => h) (Or.inl ⟨by rfl, ?_⟩) ?_ ?_
                       rotate_left
                       ·
                        intro w'
                        go_simp
                        with_reducible rfl
                       rotate_left
                       ·
                        simp only [Act.put, List.setIfInBounds_toArray, List.set_cons_zero, List.set_cons_succ, i64_w, i32_w]
                        rfl
                       refine pure_ (i := 5) (N := some 129) (v := ?_) (a' := ?_) #[true, true, true, false, true, true, false, false, false, false, false, false, false, false] rfl rfl (any_of HT_.out (by kernel_rfl)) (fun _ _ _ h => h) (Or.inl ⟨by rfl, ?_⟩) ?_ ?_
                       rotate_left
                       ·
                        intro w'
                        go_simp
                        with_reducible rfl
                       rotate_left
                       ·
                        simp only [Act.put, List.setIfInBounds_toArray, List.set_cons_zero, List.set_cons_succ, i64_w, i32_w]
                        rfl
                       refine pure_ (i := 6) (N := some 130) (v := ?_) (a' := ?_) #[true, true, true, false, true, true, true, false, false, false, false, false, false, false] rfl rfl (any_of HT_.out (by kernel_rfl)) (fun _ _ _ h => h) (Or.inl ⟨by rfl, ?_⟩) ?_ ?_
                       rotate_left
                       ·
                        intro w'
                        go_simp
                        with_reducible rfl
                       rotate_left
                       ·
                        simp only [Act.put, List.setIfInBounds_toArray, List.set_cons_zero, List.set_cons_succ, i64_w, i32_w]
                        rfl
                       refine take_ (i := 3) (N := some 127) (v := ?_) (a' := ?_) #[true, true, true, true, true, true, true, false, false, false, false, false, false, false] rfl rfl (take_ofW HT_.out HW_.out (by kernel_rfl)) (fun _ _ _ h => h) (Or.inl ⟨by rfl, ?_⟩) hHeld ?_ ?_
                       rotate_left
                       ·
                        rintro w' ⟨s0, s1, s2, s3, s4⟩
                        go_simp
                        with_reducible rfl
                       rotate_left
                       ·
                        simp only [Act.put, List.setIfInBounds_toArray, List.set_cons_zero, List.set_cons_succ, i64_w, i32_w]
                        rfl
                       refine take_ (i := 7) (N := some 131) (v := ?_) (a' := ?_) #[true, true, true, true, true, true, true, true, false, false, false, false, false, false] rfl rfl (take_ofW HT_.out HW_.out (by kernel_rfl)) (fun _ _ _ h => h) (Or.inl ⟨by rfl, ?_⟩) hHeld ?_ ?_
                       rotate_left
                       ·
                        rintro w' ⟨s0, s1, s2, s3, s4⟩
                        go_simp
                        with_reducible rfl
                       rotate_left
                       ·
                        simp only [Act.put, List.setIfInBounds_toArray, List.set_cons_zero, List.set_cons_succ, i64_w, i32_w]
                        rfl
                       refine pure_ (i := 8) (N := some 132) (v := ?_) (a' := ?_) #[true, true, true, true, true, true, true, true, true, false, false, false, false, false] rfl rfl (any_of HT_.out (by kernel_rfl)) (fun _ _ _ h => h) (Or.inl ⟨by rfl, ?_⟩) ?_ ?_
                       rotate_left
                       ·
                        intro w'
                        go_simp
                        with_reducible rfl
                       rotate_left
                       ·
                        simp only [Act.put, List.setIfInBounds_toArray, List.set_cons_zero, List.set_cons_succ, i64_w, i32_w]
                        rfl
                       refine pure_ (i := 9) (N := some 133) (v := ?_) (a' := ?_) #[true, true, true, true, true, true, true, true, true, true, false, false, false, false] rfl rfl (any_of HT_.out (by kernel_rfl)) (fun _ _ _ h => h) (Or.inl ⟨by rfl, ?_⟩) ?_ ?_
                       rotate_left
                       ·
                        intro w'
                        go_simp
                        with_reducible rfl
                       rotate_left
                       ·
                        simp only [Act.put, List.setIfInBounds_toArray, List.set_cons_zero, List.set_cons_succ, i64_w, i32_w]
                        rfl
                       refine pure_ (i := 10) (N := some 134) (v := ?_) (a' := ?_) #[true, true, true, true, true, true, true, true, true, true, true, false, false, false] rfl rfl (any_of HT_.out (by kernel_rfl)) (fun _ _ _ h => h) (Or.inl ⟨by rfl, ?_⟩) ?_ ?_
                       rotate_left
                       ·
                        intro w'
                        go_simp
                        with_reducible rfl
                       rotate_left
                       ·
                        simp only [Act.put, List.setIfInBounds_toArray, List.set_cons_zero, List.set_cons_succ, i64_w, i32_w]
                        rfl
                       refine pure_ (i := 11) (N := some 135) (v := ?_) (a' := ?_) #[true, true, true, true, true, true, true, true, true, true, true, true, false, false] rfl rfl (any_of HT_.out (by kernel_rfl)) (fun _ _ _ h => h) (Or.inl ⟨by rfl, ?_⟩) ?_ ?_
                       rotate_left
                       ·
                        intro w'
                        go_simp
                        with_reducible rfl
                       rotate_left
                       ·
                        simp only [Act.put, List.setIfInBounds_toArray, List.set_cons_zero, List.set_cons_succ, i64_w, i32_w]
                        rfl
                       refine take_ (i := 12) (N := some 136) (v := ?_) (a' := ?_) #[true, true, true, true, true, true, true, true, true, true, true, true, true, false] rfl rfl (take_ofW HT_.out HW_.out (by kernel_rfl)) (fun _ _ _ h => h) (Or.inl ⟨by rfl, ?_⟩) hHeld ?_ ?_
                       rotate_left
                       ·
                        rintro w' ⟨s0, s1, s2, s3, s4⟩
                        go_simp
                        with_reducible rfl
                       rotate_left
                       ·
                        simp only [Act.put, List.setIfInBounds_toArray, List.set_cons_zero, List.set_cons_succ, i64_w, i32_w]
                        rfl
                       refine pure_ (i := 13) (N := some 15) (v := ?_) (a' := ?_) #[true, true, true, true, true, true, true, true, true, true, true, true, true, true] rfl rfl (any_of HT_.out (by kernel_rfl)) (fun _ _ _ h => h) (Or.inl ⟨by rfl, ?_⟩) ?_ ?_
                       rotate_left
                       ·
                        intro w'
                        go_simp
                        with_reducible rfl
                       rotate_left
                       ·
                        simp only [Act.put, List.setIfInBounds_toArray, List.set_cons_zero, List.set_cons_succ, i64_w, i32_w]
                        rfl
                       refine done_ (done_of HT_.out (by kernel_rfl)) ?_
                       try go_wp2
                       have n0_ := Aside0.mk (Kd.N_drew HO_12.out)
                       have n1_ := Aside0.mk (Kd.V_drew HL199_0.out)
                       have n2_ := Aside0.mk (Kd.V_drew HL200_0.out)
                       have n3_ := Aside0.mk (Kd.V_drew HL202_0.out)
                       have n4_ := Aside0.mk (Kd.V_drew HL203_0.out)
                       have n5_ := Aside0.mk (Kd.C_drew HR199_0.out)
                       have n6_ := Aside0.mk (Kd.C_drew HR200_0.out)
                       have n7_ := Aside0.mk (Kd.C_drew HR202_0.out)
                       have n8_ := Aside0.mk (Kd.C_drew HR203_0.out)
                       have n9_ := Aside0.mk (below_drew1 HB.out)
                       clear HO_12
                       clear HL199_0
                       clear HL200_0
                       clear HL202_0
                       clear HL203_0
                       clear HR199_0
                       clear HR200_0
                       clear HR202_0
                       clear HR203_0
                       clear HB
                       have HO_12 := n0_
                       have HL199_0 := n1_
                       have HL200_0 := n2_
                       have HL202_0 := n3_
                       have HL203_0 := n4_
                       have HR199_0 := n5_
                       have HR200_0 := n6_
                       have HR202_0 := n7_
                       have HR203_0 := n8_
                       have HB := n9_
                       clear n0_ n1_ n2_ n3_ n4_ n5_ n6_ n7_ n8_ n9_
                       have p205 : 0 ≤ ((ji64) : Int) := of_decide_eq_true (by first | (with_reducible assumption) | assumption)
                       have q205 : (ji64) < (t190.length : Int) := of_decide_eq_true (by first | (with_reducible assumption) | assumption)
                       obtain ⟨ad205, A205_0, c205_0, e205, hx205_0, hl205_0, hi205_0⟩ := at_L3 (Kd.N_reads' HO_12.out).2.2 (ji64) p205 q205
                       obtain rfl : ad199 = ad205 := (by injection e205)
                       obtain ⟨ce205, hce205, hMe205, hcc205⟩ := Kd.N_get HO_12.out [] (ji64) p205 (by first | exact q205 | exact of_decide_eq_true (by first | (with_reducible assumption) | assumption) | (have e_ := (Kd.N_reads' HO_12.out).1; omega))
                       obtain ⟨ua205_0, uc205_0, rfl, ul205_0, ge205_0⟩ := Kd.FK_slice_open hMe205
                       have hv205_0 := hcc205 0 _ rfl
                       rw [Nat.add_zero, show ((Kd.slice 28 k28)).sz = 1 from rfl, Nat.mul_one] at hv205_0
                       replace hv205_0 := Option.some.inj (hv205_0.symm.trans hx205_0)
                       injection hv205_0 with hva_ hvn_ hvc_
                       rw [hva_] at ge205_0
                       rw [hvc_] at ul205_0
                       have HL205_0 := Aside0.mk (show Kd.V k28 28 _ w.heap.size _ _ (rd_L3 t190 (ji64)) from Kd.V_mk ul205_0 ge205_0)
                       clear hva_ hvn_ hvc_ ge205_0 ul205_0
                       clear hcc205 hce205
                       have HR205_0 := Aside0.mk hi205_0
                       have HC205_0 := Aside0.mk hl205_0
                       clear hi205_0 hl205_0
                       replace p205 := eq_true p205
                       replace q205 := eq_true q205
                       have p206 : 0 ≤ (x13_4 : Int) := of_decide_eq_true (by first | (with_reducible assumption) | assumption)
                       have q206 : x13_4 < (t190.length : Int) := of_decide_eq_true (by first | (with_reducible assumption) | assumption)
                       obtain ⟨ad206, A206_0, c206_0, e206, hx206_0, hl206_0, hi206_0⟩ := at_L3 (Kd.N_reads' HO_12.out).2.2 x13_4 p206 q206
                       obtain rfl : ad199 = ad206 := (by injection e206)
                       obtain ⟨ce206, hce206, hMe206, hcc206⟩ := Kd.N_get HO_12.out [] x13_4 p206 (by first | exact q206 | exact of_decide_eq_true (by first | (with_reducible assumption) | assumption) | (have e_ := (Kd.N_reads' HO_12.out).1; omega))
                       obtain ⟨ua206_0, uc206_0, rfl, ul206_0, ge206_0⟩ := Kd.FK_slice_open hMe206
                       have hv206_0 := hcc206 0 _ rfl
                       rw [Nat.add_zero, show ((Kd.slice 28 k28)).sz = 1 from rfl, Nat.mul_one] at hv206_0
                       replace hv206_0 := Option.some.inj (hv206_0.symm.trans hx206_0)
                       injection hv206_0 with hva_ hvn_ hvc_
                       rw [hva_] at ge206_0
                       rw [hvc_] at ul206_0
                       have HL206_0 := Aside0.mk (show Kd.V k28 28 _ w.heap.size _ _ (rd_L3 t190 x13_4) from Kd.V_mk ul206_0 ge206_0)
                       clear hva_ hvn_ hvc_ ge206_0 ul206_0
                       clear hcc206 hce206
                       have HR206_0 := Aside0.mk hi206_0
                       have HC206_0 := Aside0.mk hl206_0
                       clear hi206_0 hl206_0
                       replace p206 := eq_true p206
                       replace q206 := eq_true q206
                       refine start_ (n := 17) (S := fun w' => w'.cell? (ad199.add ((ji64)).toNat) = some (.slice A205_0 (rd_L3 t190 (ji64)).length c205_0) ∧ w'.cell? (ad199.add (x13_4).toNat) = some (.slice A206_0 (rd_L3 t190 x13_4).length c206_0)) (ds := []) law16_SortedStays.Y0 (by kernel_rfl) rfl rfl ⟨hx205_0, hx206_0⟩ (fun hHeld => ?_); refine with_tabW law16_SortedStays.tab27 law16_SortedStays.bits27 (fun HT_ HW_ => ?_)
                       generalize w79.drew = w80 at HO_12 HL199_0 HL200_0 HL202_0 HL203_0 HR199_0 HR200_0 HR202_0 HR203_0 HB HL205_0 HL206_0 HR205_0 HR206_0 hx205_0 hx206_0 hHeld ⊢
                       refine pure_ (i := 0) (N := some 137) (v := ?_) (a' := ?_) law16_SortedStays.Y1 rfl rfl (any_of HT_.out (by kernel_rfl)) (fun _ _ _ h => h) (Or.inl ⟨by rfl, ?_⟩) ?_ ?_
                       rotate_left
                       ·
                        intro w'
                        go_simp
                        with_reducible rfl
                       rotate_left
                       ·
                        simp only [Act.put, List.setIfInBounds_toArray, List.set_cons_zero, List.set_cons_succ, i64_w, i32_w]
                        rfl
                       refine pure_ (i := 1) (N := some 138) (v := ?_) (a' := ?_) law16_SortedStays.Y2 rfl rfl (any_of HT_.out (by kernel_rfl)) (fun _ _ _ h => h) (Or.inl ⟨by rfl, ?_⟩) ?_ ?_
                       rotate_left
                       ·
                        intro w'
                        go_simp
                        with_reducible rfl
                       rotate_left
                       ·
                        simp only [Act.put, List.setIfInBounds_toArray, List.set_cons_zero, List.set_cons_succ, i64_w, i32_w]
                        rfl
                       refine pure_ (i := 2) (N := some 139) (v := ?_) (a' := ?_) law16_SortedStays.Y3 rfl rfl (any_of HT_.out (by kernel_rfl)) (fun _ _ _ h => h) (Or.inl ⟨by rfl, ?_⟩) ?_ ?_
                       rotate_left
                       ·
                        intro w'
                        go_simp
                        with_reducible rfl
                       rotate_left
                       ·
                        simp only [Act.put, List.setIfInBounds_toArray, List.set_cons_zero, List.set_cons_succ, i64_w, i32_w]
                        rfl
                       refine pure_ (i := 3) (N := some 140) (v := ?_) (a' := ?_) #[true, true, true, true, false, false, false, false, false, false, false, false, false, false, false, false, false] rfl rfl (any_of HT_.out (by kernel_rfl)) (fun _ _ _ h => h) (Or.inl ⟨by rfl, ?_⟩) ?_ ?_
                       rotate_left
                       ·
                        intro w'
                        go_simp
                        with_reducible rfl
                       rotate_left
                       ·
                        simp only [Act.put, List.setIfInBounds_toArray, List.set_cons_zero, List.set_cons_succ, i64_w, i32_w]
                        rfl
                       refine pure_ (i := 5) (N := some 142) (v := ?_) (a' := ?_) #[true, true, true, true, false, true, false, false, false, false, false, false, false, false, false, false, false] rfl rfl (any_of HT_.out (by kernel_rfl)) (fun _ _ _ h => h) (Or.inl ⟨by rfl, ?_⟩) ?_ ?_
                       rotate_left
                       ·
                        intro w'
                        go_simp
                        with_reducible rfl
                       rotate_left
                       ·
                        simp only [Act.put, List.setIfInBounds_toArray, List.set_cons_zero, List.set_cons_succ, i64_w, i32_w]
                        rfl
                       refine pure_ (i := 6) (N := some 143) (v := ?_) (a' := ?_) #[true, true, true, true, false, true, true, false, false, false, false, false, false, false, false, false, false] rfl rfl (any_of HT_.out (by kernel_rfl)) (fun _ _ _ h => h) (Or.inl ⟨by rfl, ?_⟩) ?_ ?_
                       rotate_left
                       ·
                        intro w'
                        go_simp
                        with_reducible rfl
                       rotate_left
                       ·
                        simp only [Act.put, List.setIfInBounds_toArray, List.set_cons_zero, List.set_cons_succ, i64_w, i32_w]
                        rfl
                       refine pure_ (i := 7) (N := some 144) (v := ?_) (a' := ?_) #[true, true, true, true, false, true, true, true, false, false, false, false, false, false, false, false, false] rfl rfl (any_of HT_.out (by kernel_rfl)) (fun _ _ _ h => h) (Or.inl ⟨by rfl, ?_⟩) ?_ ?_
                       rotate_left
                       ·
                        intro w'
                        go_simp
                        with_reducible rfl
                       rotate_left
                       ·
                        simp only [Act.put, List.setIfInBounds_toArray, List.set_cons_zero, List.set_cons_succ, i64_w, i32_w]
                        rfl
                       refine pure_ (i := 9) (N := some 146) (v := ?_) (a' := ?_) #[true, true, true, true, false, true, true, true, false, true, false, false, false, false, false, false, false] rfl rfl (any_of HT_.out (by kernel_rfl)) (fun _ _ _ h => h) (Or.inl ⟨by rfl, ?_⟩) ?_ ?_
                       rotate_left
                       ·
                        intro w'
                        go_simp
                        with_reducible rfl
                       rotate_left
                       ·
                        simp only [Act.put, List.setIfInBounds_toArray, List.set_cons_zero, List.set_cons_succ, i64_w, i32_w]
                        rfl
                       refine take_ (i := 4) (N := some 141) (v := ?_) (a' := ?_) #[true, true, true, true, true, true, true, true, false, true, false, false, false, false, false, false, false] rfl rfl (take_ofW HT_.out HW_.out (by kernel_rfl)) (fun _ _ _ h => h) (Or.inl ⟨by rfl, ?_⟩) hHeld ?_ ?_
                       rotate_left
                       ·
                        rintro w' ⟨s0, s1⟩
                        go_simp
                        with_reducible rfl
                       rotate_left
                       ·
                        simp only [Act.put, List.setIfInBounds_toArray, List.set_cons_zero, List.set_cons_succ, i64_w, i32_w]
                        rfl
                       refine take_ (i := 8) (N := some 145) (v := ?_) (a' := ?_) law16_SortedStays.Y10 rfl rfl (take_ofW HT_.out HW_.out (by kernel_rfl)) (fun _ _ _ h => h) (Or.inl ⟨by rfl, ?_⟩) hHeld ?_ ?_
                       rotate_left
                       ·
                        rintro w' ⟨s0, s1⟩
                        go_simp
                        with_reducible rfl
                       rotate_left
                       ·
                        simp only [Act.put, List.setIfInBounds_toArray, List.set_cons_zero, List.set_cons_succ, i64_w, i32_w]
                        rfl
                       refine one_ (i := 10) (N := some 147) law16_SortedStays.Y11 rfl rfl (one_of HT_.out (by kernel_rfl)) (by decide) (fun K hK => ?_)
                       refine goes_ Try.func15 (by kernel_rfl) rfl #[.slice A205_0 (rd_L3 t190 (ji64)).length c205_0, .slice A206_0 (rd_L3 t190 x13_4).length c206_0, .slice A1 l1.length c1] (by rfl) rfl rfl (by (try simp only [List.map_toArray, List.map_cons, List.map_nil]); first | done | (simp only [hji64]; rfl) | rfl | (simp only [List.length_drop, List.length_take]; rfl)) ?_
                       with_reducible refine (ref16_Order.calls k4 _ _ (rd_L3 t190 (ji64)) _ _ (rd_L3 t190 x13_4) _ _ l1 t207 _ ?side1 ?side2 ?side3 ?side4 ?side5 ?side6 A74.out).mono ?_
                       (case side1 => repeat (first | exact (by repeat (first | (with_reducible exact HR205_0.out) | (with_reducible refine Kd.C_alloc ?_ _) | (with_reducible refine Kd.C_drewN ?_ _) | (with_reducible refine Kd.C_drew ?_) | exact HR205_0.out)) | (with_reducible refine Kd.C_alloc ?_ _) | (with_reducible refine Kd.C_drewN ?_ _) | (with_reducible refine Kd.C_drew ?_)))
                       (case side2 => exact HC205_0.out)
                       (case side3 => repeat (first | exact (by repeat (first | (with_reducible exact HR206_0.out) | (with_reducible refine Kd.C_alloc ?_ _) | (with_reducible refine Kd.C_drewN ?_ _) | (with_reducible refine Kd.C_drew ?_) | exact HR206_0.out)) | (with_reducible refine Kd.C_alloc ?_ _) | (with_reducible refine Kd.C_drewN ?_ _) | (with_reducible refine Kd.C_drew ?_)))
                       (case side4 => exact HC206_0.out)
                       (case side5 => repeat (first | exact (Kd.C_below HR1.out HB.out) | (with_reducible refine Kd.C_alloc ?_ _) | (with_reducible refine Kd.C_drewN ?_ _) | (with_reducible refine Kd.C_drew ?_)))
                       (case side6 => exact HC1.out)
                       rintro e w81 ⟨rfl, hb⟩
                       have HS0_ := (hb.cell (World.block_lt_of_cell? _ _ (hHeld.1))).trans (hHeld.1)
                       have HS1_ := (hb.cell (World.block_lt_of_cell? _ _ (hHeld.2))).trans (hHeld.2)
                       refine ⟨_, rfl, ?_⟩
                       have n0_ := Aside0.mk (Kd.N_below (by (with_reducible repeat (first | apply Kd.N_alloc | apply Kd.N_drewN | apply Kd.N_drew)); exact HO_12.out) hb)
                       have n1_ := Aside0.mk (Kd.V_below (by (with_reducible repeat (first | apply Kd.V_alloc | apply Kd.V_drewN | apply Kd.V_drew)); exact HL199_0.out) hb)
                       have n2_ := Aside0.mk (Kd.V_below (by (with_reducible repeat (first | apply Kd.V_alloc | apply Kd.V_drewN | apply Kd.V_drew)); exact HL200_0.out) hb)
                       have n3_ := Aside0.mk (Kd.V_below (by (with_reducible repeat (first | apply Kd.V_alloc | apply Kd.V_drewN | apply Kd.V_drew)); exact HL202_0.out) hb)
                       have n4_ := Aside0.mk (Kd.V_below (by (with_reducible repeat (first | apply Kd.V_alloc | apply Kd.V_drewN | apply Kd.V_drew)); exact HL203_0.out) hb)
                       have n5_ := Aside0.mk (Kd.V_below (by (with_reducible repeat (first | apply Kd.V_alloc | apply Kd.V_drewN | apply Kd.V_drew)); exact HL205_0.out) hb)
                       have n6_ := Aside0.mk (Kd.V_below (by (with_reducible repeat (first | apply Kd.V_alloc | apply Kd.V_drewN | apply Kd.V_drew)); exact HL206_0.out) hb)
                       have n7_ := Aside0.mk (Kd.C_below (by repeat (first | (with_reducible exact HR199_0.out) | (with_reducible refine Kd.C_alloc ?_ _) | (with_reducible refine Kd.C_drewN ?_ _) | (with_reducible refine Kd.C_drew ?_) | exact HR199_0.out)) hb)
                       have n8_ := Aside0.mk (Kd.C_below (by repeat (first | (with_reducible exact HR200_0.out) | (with_reducible refine Kd.C_alloc ?_ _) | (with_reducible refine Kd.C_drewN ?_ _) | (with_reducible refine Kd.C_drew ?_) | exact HR200_0.out)) hb)
                       have n9_ := Aside0.mk (Kd.C_below (by repeat (first | (with_reducible exact HR202_0.out) | (with_reducible refine Kd.C_alloc ?_ _) | (with_reducible refine Kd.C_drewN ?_ _) | (with_reducible refine Kd.C_drew ?_) | exact HR202_0.out)) hb)
                       have n10_ := Aside0.mk (Kd.C_below (by repeat (first | (with_reducible exact HR203_0.out) | (with_reducible refine Kd.C_alloc ?_ _) | (with_reducible refine Kd.C_drewN ?_ _) | (with_reducible refine Kd.C_drew ?_) | exact HR203_0.out)) hb)
                       have n11_ := Aside0.mk (Kd.C_below (by repeat (first | (with_reducible exact HR205_0.out) | (with_reducible refine Kd.C_alloc ?_ _) | (with_reducible refine Kd.C_drewN ?_ _) | (with_reducible refine Kd.C_drew ?_) | exact HR205_0.out)) hb)
                       have n12_ := Aside0.mk (Kd.C_below (by repeat (first | (with_reducible exact HR206_0.out) | (with_reducible refine Kd.C_alloc ?_ _) | (with_reducible refine Kd.C_drewN ?_ _) | (with_reducible refine Kd.C_drew ?_) | exact HR206_0.out)) hb)
                       have n13_ := Aside0.mk (below_step (by repeat (first | (with_reducible first | exact HB.out | apply below_alloc | apply pw_below_drewN | apply below_drew1) | exact HB.out)) hb)
                       clear HO_12
                       clear HL199_0
                       clear HL200_0
                       clear HL202_0
                       clear HL203_0
                       clear HL205_0
                       clear HL206_0
                       clear HR199_0
                       clear HR200_0
                       clear HR202_0
                       clear HR203_0
                       clear HR205_0
                       clear HR206_0
                       clear HB
                       have HO_12 := n0_
                       have HL199_0 := n1_
                       have HL200_0 := n2_
                       have HL202_0 := n3_
                       have HL203_0 := n4_
                       have HL205_0 := n5_
                       have HL206_0 := n6_
                       have HR199_0 := n7_
                       have HR200_0 := n8_
                       have HR202_0 := n9_
                       have HR203_0 := n10_
                       have HR205_0 := n11_
                       have HR206_0 := n12_
                       have HB := n13_
                       clear n0_ n1_ n2_ n3_ n4_ n5_ n6_ n7_ n8_ n9_ n10_ n11_ n12_ n13_
                       (try clear hb)
                       (try clear hb2)
                       (try clear hk)
                       (try clear hi)
                       refine hK.out _ _ ⟨HS0_, HS1_⟩ (fun hHeld => ?_)
                       clear hK K
                       refine norm_ (a' := ?_) ?_ ?_
                       rotate_left
                       ·
                        show Act.put _ (some 147) _ = _
                        simp only [Act.put, List.setIfInBounds_toArray, List.set_cons_zero, List.set_cons_succ, i64_w, i32_w]
                        rfl
                       refine pure_ (i := 11) (N := some 148) (v := ?_) (a' := ?_) law16_SortedStays.Y12 rfl rfl (any_of HT_.out (by kernel_rfl)) (fun _ _ _ h => h) (Or.inl ⟨by rfl, ?_⟩) ?_ ?_
                       rotate_left
                       ·
                        intro w'
                        go_simp
                        with_reducible rfl
                       rotate_left
                       ·
                        simp only [Act.put, List.setIfInBounds_toArray, List.set_cons_zero, List.set_cons_succ, i64_w, i32_w]
                        rfl
                       refine pure_ (i := 12) (N := some 149) (v := ?_) (a' := ?_) law16_SortedStays.Y13 rfl rfl (any_of HT_.out (by kernel_rfl)) (fun _ _ _ h => h) (Or.inl ⟨by rfl, ?_⟩) ?_ ?_
                       rotate_left
                       ·
                        intro w'
                        go_simp
                        with_reducible rfl
                       rotate_left
                       ·
                        simp only [Act.put, List.setIfInBounds_toArray, List.set_cons_zero, List.set_cons_succ, i64_w, i32_w]
                        rfl
                       refine pure_ (i := 13) (N := some 150) (v := ?_) (a' := ?_) law16_SortedStays.Y14 rfl rfl (any_of HT_.out (by kernel_rfl)) (fun _ _ _ h => h) (Or.inl ⟨by rfl, ?_⟩) ?_ ?_
                       rotate_left
                       ·
                        intro w'
                        go_simp
                        with_reducible rfl
                       rotate_left
                       ·
                        simp only [Act.put, List.setIfInBounds_toArray, List.set_cons_zero, List.set_cons_succ, i64_w, i32_w]
                        rfl
                       refine pure_ (i := 14) (N := some 151) (v := ?_) (a' := ?_) law16_SortedStays.Y15 rfl rfl (any_of HT_.out (by kernel_rfl)) (fun _ _ _ h => h) (Or.inl ⟨by rfl, ?_⟩) ?_ ?_
                       rotate_left
                       ·
                        intro w'
                        go_simp
                        with_reducible rfl
                       rotate_left
                       ·
                        simp only [Act.put, List.setIfInBounds_toArray, List.set_cons_zero, List.set_cons_succ, i64_w, i32_w]
                        rfl
                       refine pure_ (i := 15) (N := some 152) (v := ?_) (a' := ?_) law16_SortedStays.Y16 rfl rfl (any_of HT_.out (by kernel_rfl)) (fun _ _ _ h => h) (Or.inl ⟨by rfl, ?_⟩) ?_ ?_
                       rotate_left
                       ·
                        intro w'
                        go_simp
                        with_reducible rfl
                       rotate_left
                       ·
                        simp only [Act.put, List.setIfInBounds_toArray, List.set_cons_zero, List.set_cons_succ, i64_w, i32_w]
                        rfl
                       refine pure_ (i := 16) (N := some 153) (v := ?_) (a' := ?_) law16_SortedStays.Y17 rfl rfl (any_of HT_.out (by kernel_rfl)) (fun _ _ _ h => h) (Or.inl ⟨by rfl, ?_⟩) ?_ ?_
                       rotate_left
                       ·
                        intro w'
                        go_simp
                        with_reducible rfl
                       rotate_left
                       ·
                        simp only [Act.put, List.setIfInBounds_toArray, List.set_cons_zero, List.set_cons_succ, i64_w, i32_w]
                        rfl
                       refine done_ (done_of HT_.out (by kernel_rfl)) ?_
                       try go_wp2
                       go_roundg k4
                       case measure => have := HK1.out; have := HK2.out; have := HJ34.out; have := HK4.out; omega
                       case rel => exact ⟨(wrap64 (x13_4 + 1)), (by first | rfl | (simp; done) | (simp [*]; done)), H', ⟨by have := HK1.out; have := HK2.out; have := HJ34.out; have := HK4.out; omega⟩, ⟨by (with_reducible repeat (first | apply Kd.N_alloc | apply Kd.N_drewN | apply Kd.N_drew)); exact HO_12.out⟩, ⟨by repeat (first | (with_reducible first | exact HB.out | apply below_alloc | apply pw_below_drewN | apply below_drew1) | exact HB.out)⟩⟩
                     ·
                      rw [if_neg c75] at H
                      have c75b0 : (t207 == 0) = false := beq_eq_false_iff_ne.mpr c75
                      have c75b1 : (t207 != 0) = true := bne_iff_ne.mpr c75
                      have H' := Aside0.mk H
                      clear H
                      obtain ⟨Ao82, co82, eo82⟩ := Kd.N_slice HO_12.out
                      subst eo82
                      try go_wp2
                      have n0_ := Aside0.mk (Kd.N_drew HO_12.out)
                      have n1_ := Aside0.mk (below_drew1 HB.out)
                      clear HO_12
                      clear HB
                      have HO_12 := n0_
                      have HB := n1_
                      clear n0_ n1_
                      have p199 : 0 ≤ ((ji64) : Int) := of_decide_eq_true (by first | (with_reducible assumption) | assumption)
                      have q199 : (ji64) < (t190.length : Int) := of_decide_eq_true (by first | (with_reducible assumption) | assumption)
                      obtain ⟨ad199, A199_0, c199_0, e199, hx199_0, hl199_0, hi199_0⟩ := at_L3 (Kd.N_reads' HO_12.out).2.2 (ji64) p199 q199
                      cases e199
                      obtain ⟨ce199, hce199, hMe199, hcc199⟩ := Kd.N_get HO_12.out [] (ji64) p199 (by first | exact q199 | exact of_decide_eq_true (by first | (with_reducible assumption) | assumption) | (have e_ := (Kd.N_reads' HO_12.out).1; omega))
                      obtain ⟨ua199_0, uc199_0, rfl, ul199_0, ge199_0⟩ := Kd.FK_slice_open hMe199
                      have hv199_0 := hcc199 0 _ rfl
                      rw [Nat.add_zero, show ((Kd.slice 28 k28)).sz = 1 from rfl, Nat.mul_one] at hv199_0
                      replace hv199_0 := Option.some.inj (hv199_0.symm.trans hx199_0)
                      injection hv199_0 with hva_ hvn_ hvc_
                      rw [hva_] at ge199_0
                      rw [hvc_] at ul199_0
                      have HL199_0 := Aside0.mk (show Kd.V k28 28 _ w.heap.size _ _ (rd_L3 t190 (ji64)) from Kd.V_mk ul199_0 ge199_0)
                      clear hva_ hvn_ hvc_ ge199_0 ul199_0
                      clear hcc199 hce199
                      have HR199_0 := Aside0.mk hi199_0
                      have HC199_0 := Aside0.mk hl199_0
                      clear hi199_0 hl199_0
                      replace p199 := eq_true p199
                      replace q199 := eq_true q199
                      have p200 : 0 ≤ ((ji64) : Int) := of_decide_eq_true (by first | (with_reducible assumption) | assumption)
                      have q200 : (ji64) < (t190.length : Int) := of_decide_eq_true (by first | (with_reducible assumption) | assumption)
                      obtain ⟨ad200, A200_0, c200_0, e200, hx200_0, hl200_0, hi200_0⟩ := at_L3 (Kd.N_reads' HO_12.out).2.2 (ji64) p200 q200
                      obtain rfl : ad199 = ad200 := (by injection e200)
                      obtain ⟨ce200, hce200, hMe200, hcc200⟩ := Kd.N_get HO_12.out [] (ji64) p200 (by first | exact q200 | exact of_decide_eq_true (by first | (with_reducible assumption) | assumption) | (have e_ := (Kd.N_reads' HO_12.out).1; omega))
                      obtain ⟨ua200_0, uc200_0, rfl, ul200_0, ge200_0⟩ := Kd.FK_slice_open hMe200
                      have hv200_0 := hcc200 0 _ rfl
                      rw [Nat.add_zero, show ((Kd.slice 28 k28)).sz = 1 from rfl, Nat.mul_one] at hv200_0
                      replace hv200_0 := Option.some.inj (hv200_0.symm.trans hx200_0)
                      injection hv200_0 with hva_ hvn_ hvc_
                      rw [hva_] at ge200_0
                      rw [hvc_] at ul200_0
                      have HL200_0 := Aside0.mk (show Kd.V k28 28 _ w.heap.size _ _ (rd_L3 t190 (ji64)) from Kd.V_mk ul200_0 ge200_0)
                      clear hva_ hvn_ hvc_ ge200_0 ul200_0
                      clear hcc200 hce200
                      have HR200_0 := Aside0.mk hi200_0
                      have HC200_0 := Aside0.mk hl200_0
                      clear hi200_0 hl200_0
                      replace p200 := eq_true p200
                      replace q200 := eq_true q200
                      have ea_ := Option.some.inj (hx199_0.symm.trans hx200_0)
                      injection ea_ with ea_ en_ ec_
                      subst ea_
                      subst ec_
                      clear en_
                      have p201 : 0 ≤ ((ji67) : Int) := of_decide_eq_true (by first | (with_reducible assumption) | assumption)
                      have q201 : (ji67) < ((rd_L3 t190 (ji64)).length : Int) := of_decide_eq_true (by first | (with_reducible assumption) | assumption)
                      obtain ⟨ad201, e201, hx201_0, hx201_1, hx201_2⟩ := at_T28 (by repeat (first | (with_reducible exact HR199_0.out) | (with_reducible refine Kd.C_alloc ?_ _) | (with_reducible refine Kd.C_drewN ?_ _) | (with_reducible refine Kd.C_drew ?_) | exact HR199_0.out)) (ji67) p201 q201
                      cases e201
                      replace p201 := eq_true p201
                      replace q201 := eq_true q201
                      refine start_ (n := 16) (S := fun w' => w'.cell? (ad199.add ((ji64)).toNat) = some (.slice (some ad201) (rd_L3 t190 (ji64)).length c199_0) ∧ w'.cell? (ad199.add ((ji64)).toNat) = some (.slice (some ad201) (rd_L3 t190 (ji64)).length c199_0) ∧ w'.cell? (ad201.add (((ji67)).toNat * 3)) = some (.int .i64 ((rd_T28 (rd_L3 t190 (ji64)) (ji67)).f0)) ∧ w'.cell? ⟨(ad201.add (((ji67)).toNat * 3)).block, (ad201.add (((ji67)).toNat * 3)).off + 1, none⟩ = some (.int .i64 ((rd_T28 (rd_L3 t190 (ji64)) (ji67)).f1)) ∧ w'.cell? ⟨(ad201.add (((ji67)).toNat * 3)).block, (ad201.add (((ji67)).toNat * 3)).off + 2, none⟩ = some (.string ((rd_T28 (rd_L3 t190 (ji64)) (ji67)).f2))) (ds := []) #[false, false, false, false, false, false, false, false, false, false, false, false, false, false, false, false] (by kernel_rfl) rfl rfl ⟨hx199_0, hx200_0, hx201_0, hx201_1, hx201_2⟩ (fun hHeld => ?_); refine with_tabW law16_SortedStays.tab25 law16_SortedStays.bits25 (fun HT_ HW_ => ?_)
                      generalize wr.drew = w83 at HO_12 HB HL199_0 HL200_0 HR199_0 HR200_0 hx199_0 hx200_0 hx201_0 hx201_1 hx201_2 hHeld ⊢
                      refine pure_ (i := 0) (N := some 109) (v := ?_) (a' := ?_) #[true, false, false, false, false, false, false, false, false, false, false, false, false, false, false, false] rfl rfl (any_of HT_.out (by kernel_rfl)) (fun _ _ _ h => h) (Or.inl ⟨by rfl, ?_⟩) ?_ ?_
                      rotate_left
                      ·
                       intro w'
                       go_simp
                       with_reducible rfl
                      rotate_left
                      ·
                       simp only [Act.put, List.setIfInBounds_toArray, List.set_cons_zero, List.set_cons_succ, i64_w, i32_w]
                       rfl
                      refine pure_ (i := 1) (N := some 110) (v := ?_) (a' := ?_) #[true, true, false, false, false, false, false, false, false, false, false, false, false, false, false, false] rfl rfl (any_of HT_.out (by kernel_rfl)) (fun _ _ _ h => h) (Or.inl ⟨by rfl, ?_⟩) ?_ ?_
                      rotate_left
                      ·
                       intro w'
                       go_simp
                       with_reducible rfl
                      rotate_left
                      ·
                       simp only [Act.put, List.setIfInBounds_toArray, List.set_cons_zero, List.set_cons_succ, i64_w, i32_w]
                       rfl
                      refine pure_ (i := 2) (N := some 111) (v := ?_) (a' := ?_) #[true, true, true, false, false, false, false, false, false, false, false, false, false, false, false, false] rfl rfl (any_of HT_.out (by kernel_rfl)) (fun _ _ _ h => h) (Or.inl ⟨by rfl, ?_⟩) ?_ ?_
                      rotate_left
                      ·
                       intro w'
                       go_simp
                       with_reducible rfl
                      rotate_left
                      ·
                       simp only [Act.put, List.setIfInBounds_toArray, List.set_cons_zero, List.set_cons_succ, i64_w, i32_w]
                       rfl
                      refine pure_ (i := 3) (N := some 112) (v := ?_) (a' := ?_) #[true, true, true, true, false, false, false, false, false, false, false, false, false, false, false, false] rfl rfl (any_of HT_.out (by kernel_rfl)) (fun _ _ _ h => h) (Or.inl ⟨by rfl, ?_⟩) ?_ ?_
                      rotate_left
                      ·
                       intro w'
                       go_simp
                       with_reducible rfl
                      rotate_left
                      ·
                       simp only [Act.put, List.setIfInBounds_toArray, List.set_cons_zero, List.set_cons_succ, i64_w, i32_w]
                       rfl
                      refine pure_ (i := 5) (N := some 114) (v := ?_) (a' := ?_) #[true, true, true, true, false, true, false, false, false, false, false, false, false, false, false, false] rfl rfl (any_of HT_.out (by kernel_rfl)) (fun _ _ _ h => h) (Or.inl ⟨by rfl, ?_⟩) ?_ ?_
                      rotate_left
                      ·
                       intro w'
                       go_simp
                       with_reducible rfl
                      rotate_left
                      ·
                       simp only [Act.put, List.setIfInBounds_toArray, List.set_cons_zero, List.set_cons_succ, i64_w, i32_w]
                       rfl
                      refine pure_ (i := 6) (N := some 115) (v := ?_) (a' := ?_) #[true, true, true, true, false, true, true, false, false, false, false, false, false, false, false, false] rfl rfl (any_of HT_.out (by kernel_rfl)) (fun _ _ _ h => h) (Or.inl ⟨by rfl, ?_⟩) ?_ ?_
                      rotate_left
                      ·
                       intro w'
                       go_simp
                       with_reducible rfl
                      rotate_left
                      ·
                       simp only [Act.put, List.setIfInBounds_toArray, List.set_cons_zero, List.set_cons_succ, i64_w, i32_w]
                       rfl
                      refine pure_ (i := 7) (N := some 116) (v := ?_) (a' := ?_) #[true, true, true, true, false, true, true, true, false, false, false, false, false, false, false, false] rfl rfl (any_of HT_.out (by kernel_rfl)) (fun _ _ _ h => h) (Or.inl ⟨by rfl, ?_⟩) ?_ ?_
                      rotate_left
                      ·
                       intro w'
                       go_simp
                       with_reducible rfl
                      rotate_left
                      ·
                       simp only [Act.put, List.setIfInBounds_toArray, List.set_cons_zero, List.set_cons_succ, i64_w, i32_w]
                       rfl
                      refine pure_ (i := 8) (N := some 117) (v := ?_) (a' := ?_) #[true, true, true, true, false, true, true, true, true, false, false, false, false, false, false, false] rfl rfl (any_of HT_.out (by kernel_rfl)) (fun _ _ _ h => h) (Or.inl ⟨by rfl, ?_⟩) ?_ ?_
                      rotate_left
                      ·
                       intro w'
                       go_simp
                       with_reducible rfl
                      rotate_left
                      ·
                       simp only [Act.put, List.setIfInBounds_toArray, List.set_cons_zero, List.set_cons_succ, i64_w, i32_w]
                       rfl
                      refine take_ (i := 4) (N := some 113) (v := ?_) (a' := ?_) #[true, true, true, true, true, true, true, true, true, false, false, false, false, false, false, false] rfl rfl (take_ofW HT_.out HW_.out (by kernel_rfl)) (fun _ _ _ h => h) (Or.inl ⟨by rfl, ?_⟩) hHeld ?_ ?_
                      rotate_left
                      ·
                       rintro w' ⟨s0, s1, s2, s3, s4⟩
                       go_simp
                       with_reducible rfl
                      rotate_left
                      ·
                       simp only [Act.put, List.setIfInBounds_toArray, List.set_cons_zero, List.set_cons_succ, i64_w, i32_w]
                       rfl
                      refine take_ (i := 9) (N := some 118) (v := ?_) (a' := ?_) #[true, true, true, true, true, true, true, true, true, true, false, false, false, false, false, false] rfl rfl (take_ofW HT_.out HW_.out (by kernel_rfl)) (fun _ _ _ h => h) (Or.inl ⟨by rfl, ?_⟩) hHeld ?_ ?_
                      rotate_left
                      ·
                       rintro w' ⟨s0, s1, s2, s3, s4⟩
                       go_simp
                       with_reducible rfl
                      rotate_left
                      ·
                       simp only [Act.put, List.setIfInBounds_toArray, List.set_cons_zero, List.set_cons_succ, i64_w, i32_w]
                       rfl
                      refine pure_ (i := 10) (N := some 119) (v := ?_) (a' := ?_) #[true, true, true, true, true, true, true, true, true, true, true, false, false, false, false, false] rfl rfl (any_of HT_.out (by kernel_rfl)) (fun _ _ _ h => h) (Or.inl ⟨by rfl, ?_⟩) ?_ ?_
                      rotate_left
                      ·
                       intro w'
                       go_simp
                       with_reducible rfl
                      rotate_left
                      ·
                       simp only [Act.put, List.setIfInBounds_toArray, List.set_cons_zero, List.set_cons_succ, i64_w, i32_w]
                       rfl
                      refine pure_ (i := 11) (N := some 120) (v := ?_) (a' := ?_) #[true, true, true, true, true, true, true, true, true, true, true, true, false, false, false, false] rfl rfl (any_of HT_.out (by kernel_rfl)) (fun _ _ _ h => h) (Or.inl ⟨by rfl, ?_⟩) ?_ ?_
                      rotate_left
                      ·
                       intro w'
                       go_simp
                       with_reducible rfl
                      rotate_left
                      ·
                       simp only [Act.put, List.setIfInBounds_toArray, List.set_cons_zero, List.set_cons_succ, i64_w, i32_w]
                       rfl
                      refine pure_ (i := 12) (N := some 121) (v := ?_) (a' := ?_) #[true, true, true, true, true, true, true, true, true, true, true, true, true, false, false, false] rfl rfl (any_of HT_.out (by kernel_rfl)) (fun _ _ _ h => h) (Or.inl ⟨by rfl, ?_⟩) ?_ ?_
                      rotate_left
                      ·
                       intro w'
                       go_simp
                       with_reducible rfl
                      rotate_left
                      ·
                       simp only [Act.put, List.setIfInBounds_toArray, List.set_cons_zero, List.set_cons_succ, i64_w, i32_w]
                       rfl
                      refine pure_ (i := 13) (N := some 122) (v := ?_) (a' := ?_) #[true, true, true, true, true, true, true, true, true, true, true, true, true, true, false, false] rfl rfl (any_of HT_.out (by kernel_rfl)) (fun _ _ _ h => h) (Or.inl ⟨by rfl, ?_⟩) ?_ ?_
                      rotate_left
                      ·
                       intro w'
                       go_simp
                       with_reducible rfl
                      rotate_left
                      ·
                       simp only [Act.put, List.setIfInBounds_toArray, List.set_cons_zero, List.set_cons_succ, i64_w, i32_w]
                       rfl
                      refine take_ (i := 14) (N := some 123) (v := ?_) (a' := ?_) #[true, true, true, true, true, true, true, true, true, true, true, true, true, true, true, false] rfl rfl (take_ofW HT_.out HW_.out (by kernel_rfl)) (fun _ _ _ h => h) (Or.inl ⟨by rfl, ?_⟩) hHeld ?_ ?_
                      rotate_left
                      ·
                       rintro w' ⟨s0, s1, s2, s3, s4⟩
                       go_simp
                       with_reducible rfl
                      rotate_left
                      ·
                       simp only [Act.put, List.setIfInBounds_toArray, List.set_cons_zero, List.set_cons_succ, i64_w, i32_w]
                       rfl
                      refine pure_ (i := 15) (N := some 14) (v := ?_) (a' := ?_) #[true, true, true, true, true, true, true, true, true, true, true, true, true, true, true, true] rfl rfl (any_of HT_.out (by kernel_rfl)) (fun _ _ _ h => h) (Or.inl ⟨by rfl, ?_⟩) ?_ ?_
                      rotate_left
                      ·
                       intro w'
                       go_simp
                       with_reducible rfl
                      rotate_left
                      ·
                       simp only [Act.put, List.setIfInBounds_toArray, List.set_cons_zero, List.set_cons_succ, i64_w, i32_w]
                       rfl
                      refine done_ (done_of HT_.out (by kernel_rfl)) ?_
                      try go_wp2
                      have n0_ := Aside0.mk (Kd.N_drew HO_12.out)
                      have n1_ := Aside0.mk (Kd.V_drew HL199_0.out)
                      have n2_ := Aside0.mk (Kd.V_drew HL200_0.out)
                      have n3_ := Aside0.mk (Kd.C_drew HR199_0.out)
                      have n4_ := Aside0.mk (Kd.C_drew HR200_0.out)
                      have n5_ := Aside0.mk (below_drew1 HB.out)
                      clear HO_12
                      clear HL199_0
                      clear HL200_0
                      clear HR199_0
                      clear HR200_0
                      clear HB
                      have HO_12 := n0_
                      have HL199_0 := n1_
                      have HL200_0 := n2_
                      have HR199_0 := n3_
                      have HR200_0 := n4_
                      have HB := n5_
                      clear n0_ n1_ n2_ n3_ n4_ n5_
                      have p202 : 0 ≤ (x13_4 : Int) := of_decide_eq_true (by first | (with_reducible assumption) | assumption)
                      have q202 : x13_4 < (t190.length : Int) := of_decide_eq_true (by first | (with_reducible assumption) | assumption)
                      obtain ⟨ad202, A202_0, c202_0, e202, hx202_0, hl202_0, hi202_0⟩ := at_L3 (Kd.N_reads' HO_12.out).2.2 x13_4 p202 q202
                      obtain rfl : ad199 = ad202 := (by injection e202)
                      obtain ⟨ce202, hce202, hMe202, hcc202⟩ := Kd.N_get HO_12.out [] x13_4 p202 (by first | exact q202 | exact of_decide_eq_true (by first | (with_reducible assumption) | assumption) | (have e_ := (Kd.N_reads' HO_12.out).1; omega))
                      obtain ⟨ua202_0, uc202_0, rfl, ul202_0, ge202_0⟩ := Kd.FK_slice_open hMe202
                      have hv202_0 := hcc202 0 _ rfl
                      rw [Nat.add_zero, show ((Kd.slice 28 k28)).sz = 1 from rfl, Nat.mul_one] at hv202_0
                      replace hv202_0 := Option.some.inj (hv202_0.symm.trans hx202_0)
                      injection hv202_0 with hva_ hvn_ hvc_
                      rw [hva_] at ge202_0
                      rw [hvc_] at ul202_0
                      have HL202_0 := Aside0.mk (show Kd.V k28 28 _ w.heap.size _ _ (rd_L3 t190 x13_4) from Kd.V_mk ul202_0 ge202_0)
                      clear hva_ hvn_ hvc_ ge202_0 ul202_0
                      clear hcc202 hce202
                      have HR202_0 := Aside0.mk hi202_0
                      have HC202_0 := Aside0.mk hl202_0
                      clear hi202_0 hl202_0
                      replace p202 := eq_true p202
                      replace q202 := eq_true q202
                      have p203 : 0 ≤ (x13_4 : Int) := of_decide_eq_true (by first | (with_reducible assumption) | assumption)
                      have q203 : x13_4 < (t190.length : Int) := of_decide_eq_true (by first | (with_reducible assumption) | assumption)
                      obtain ⟨ad203, A203_0, c203_0, e203, hx203_0, hl203_0, hi203_0⟩ := at_L3 (Kd.N_reads' HO_12.out).2.2 x13_4 p203 q203
                      obtain rfl : ad199 = ad203 := (by injection e203)
                      obtain ⟨ce203, hce203, hMe203, hcc203⟩ := Kd.N_get HO_12.out [] x13_4 p203 (by first | exact q203 | exact of_decide_eq_true (by first | (with_reducible assumption) | assumption) | (have e_ := (Kd.N_reads' HO_12.out).1; omega))
                      obtain ⟨ua203_0, uc203_0, rfl, ul203_0, ge203_0⟩ := Kd.FK_slice_open hMe203
                      have hv203_0 := hcc203 0 _ rfl
                      rw [Nat.add_zero, show ((Kd.slice 28 k28)).sz = 1 from rfl, Nat.mul_one] at hv203_0
                      replace hv203_0 := Option.some.inj (hv203_0.symm.trans hx203_0)
                      injection hv203_0 with hva_ hvn_ hvc_
                      rw [hva_] at ge203_0
                      rw [hvc_] at ul203_0
                      have HL203_0 := Aside0.mk (show Kd.V k28 28 _ w.heap.size _ _ (rd_L3 t190 x13_4) from Kd.V_mk ul203_0 ge203_0)
                      clear hva_ hvn_ hvc_ ge203_0 ul203_0
                      clear hcc203 hce203
                      have HR203_0 := Aside0.mk hi203_0
                      have HC203_0 := Aside0.mk hl203_0
                      clear hi203_0 hl203_0
                      replace p203 := eq_true p203
                      replace q203 := eq_true q203
                      have ea_ := Option.some.inj (hx202_0.symm.trans hx203_0)
                      injection ea_ with ea_ en_ ec_
                      subst ea_
                      subst ec_
                      clear en_
                      have p204 : 0 ≤ ((ji71) : Int) := of_decide_eq_true (by first | (with_reducible assumption) | assumption)
                      have q204 : (ji71) < ((rd_L3 t190 x13_4).length : Int) := of_decide_eq_true (by first | (with_reducible assumption) | assumption)
                      obtain ⟨ad204, e204, hx204_0, hx204_1, hx204_2⟩ := at_T28 (by repeat (first | (with_reducible exact HR202_0.out) | (with_reducible refine Kd.C_alloc ?_ _) | (with_reducible refine Kd.C_drewN ?_ _) | (with_reducible refine Kd.C_drew ?_) | exact HR202_0.out)) (ji71) p204 q204
                      cases e204
                      replace p204 := eq_true p204
                      replace q204 := eq_true q204
                      refine start_ (n := 14) (S := fun w' => w'.cell? (ad199.add (x13_4).toNat) = some (.slice (some ad204) (rd_L3 t190 x13_4).length c202_0) ∧ w'.cell? (ad199.add (x13_4).toNat) = some (.slice (some ad204) (rd_L3 t190 x13_4).length c202_0) ∧ w'.cell? (ad204.add (((ji71)).toNat * 3)) = some (.int .i64 ((rd_T28 (rd_L3 t190 x13_4) (ji71)).f0)) ∧ w'.cell? ⟨(ad204.add (((ji71)).toNat * 3)).block, (ad204.add (((ji71)).toNat * 3)).off + 1, none⟩ = some (.int .i64 ((rd_T28 (rd_L3 t190 x13_4) (ji71)).f1)) ∧ w'.cell? ⟨(ad204.add (((ji71)).toNat * 3)).block, (ad204.add (((ji71)).toNat * 3)).off + 2, none⟩ = some (.string ((rd_T28 (rd_L3 t190 x13_4) (ji71)).f2))) (ds := []) #[false, false, false, false, false, false, false, false, false, false, false, false, false, false] (by kernel_rfl) rfl rfl ⟨hx202_0, hx203_0, hx204_0, hx204_1, hx204_2⟩ (fun hHeld => ?_); refine with_tabW law16_SortedStays.tab26 law16_SortedStays.bits26 (fun HT_ HW_ => ?_)
                      generalize w83.drew = w84 at HO_12 HL199_0 HL200_0 HR199_0 HR200_0 HB HL202_0 HL203_0 HR202_0 HR203_0 hx202_0 hx203_0 hx204_0 hx204_1 hx204_2 hHeld ⊢
                      refine pure_ (i := 0) (N := some 124) (v := ?_) (a' := ?_) #[true, false, false, false, false, false, false, false, false, false, false, false, false, false] rfl rfl (any_of HT_.out (by kernel_rfl)) (fun _ _ _ h => h) (Or.inl ⟨by rfl, ?_⟩) ?_ ?_
                      rotate_left
                      ·
                       intro w'
                       go_simp
                       with_reducible rfl
                      rotate_left
                      ·
                       simp only [Act.put, List.setIfInBounds_toArray, List.set_cons_zero, List.set_cons_succ, i64_w, i32_w]
                       rfl
                      refine pure_ (i := 1) (N := some 125) (v := ?_) (a' := ?_) #[true, true, false, false, false, false, false, false, false, false, false, false, false, false] rfl rfl (any_of HT_.out (by kernel_rfl)) (fun _ _ _ h => h) (Or.inl ⟨by rfl, ?_⟩) ?_ ?_
                      rotate_left
                      ·
                       intro w'
                       go_simp
                       with_reducible rfl
                      rotate_left
                      ·
                       simp only [Act.put, List.setIfInBounds_toArray, List.set_cons_zero, List.set_cons_succ, i64_w, i32_w]
                       rfl
                      refine pure_ (i := 2) (N := some 126) (v := ?_) (a' := ?_) #[true, true, true, false, false, false, false, false, false, false, false, false, false, false] rfl rfl (any_of HT_.out (by kernel_rfl)) (fun _ _ _ h => h) (Or.inl ⟨by rfl, ?_⟩) ?_ ?_
                      rotate_left
                      ·
                       intro w'
                       go_simp
                       with_reducible rfl
                      rotate_left
                      ·
                       simp only [Act.put, List.setIfInBounds_toArray, List.set_cons_zero, List.set_cons_succ, i64_w, i32_w]
                       rfl
                      refine pure_ (i := 4) (N := some 128) (v := ?_) (a' := ?_) #[true, true, true, false, true, false, false, false, false, false, false, false, false, false] rfl rfl (any_of HT_.out (by kernel_rfl)) (fun _ _ _ h => h) (Or.inl ⟨by rfl, ?_⟩) ?_ ?_
                      rotate_left
                      ·
                       intro w'
                       go_simp
                       with_reducible rfl
                      rotate_left
                      ·
                       simp only [Act.put, List.setIfInBounds_toArray, List.set_cons_zero, List.set_cons_succ, i64_w, i32_w]
                       rfl
                      refine pure_ (i := 5) (N := some 129) (v := ?_) (a' := ?_) #[true, true, true, false, true, true, false, false, false, false, false, false, false, false] rfl rfl (any_of HT_.out (by kernel_rfl)) (fun _ _ _ h => h) (Or.inl ⟨by rfl, ?_⟩) ?_ ?_
                      rotate_left
                      ·
                       intro w'
                       go_simp
                       with_reducible rfl
                      rotate_left
                      ·
                       simp only [Act.put, List.setIfInBounds_toArray, List.set_cons_zero, List.set_cons_succ, i64_w, i32_w]
                       rfl
                      refine pure_ (i := 6) (N := some 130) (v := ?_) (a' := ?_) #[true, true, true, false, true, true, true, false, false, false, false, false, false, false] rfl rfl (any_of HT_.out (by kernel_rfl)) (fun _ _ _ h => h) (Or.inl ⟨by rfl, ?_⟩) ?_ ?_
                      rotate_left
                      ·
                       intro w'
                       go_simp
                       with_reducible rfl
                      rotate_left
                      ·
                       simp only [Act.put, List.setIfInBounds_toArray, List.set_cons_zero, List.set_cons_succ, i64_w, i32_w]
                       rfl
                      refine take_ (i := 3) (N := some 127) (v := ?_) (a' := ?_) #[true, true, true, true, true, true, true, false, false, false, false, false, false, false] rfl rfl (take_ofW HT_.out HW_.out (by kernel_rfl)) (fun _ _ _ h => h) (Or.inl ⟨by rfl, ?_⟩) hHeld ?_ ?_
                      rotate_left
                      ·
                       rintro w' ⟨s0, s1, s2, s3, s4⟩
                       go_simp
                       with_reducible rfl
                      rotate_left
                      ·
                       simp only [Act.put, List.setIfInBounds_toArray, List.set_cons_zero, List.set_cons_succ, i64_w, i32_w]
                       rfl
                      refine take_ (i := 7) (N := some 131) (v := ?_) (a' := ?_) #[true, true, true, true, true, true, true, true, false, false, false, false, false, false] rfl rfl (take_ofW HT_.out HW_.out (by kernel_rfl)) (fun _ _ _ h => h) (Or.inl ⟨by rfl, ?_⟩) hHeld ?_ ?_
                      rotate_left
                      ·
                       rintro w' ⟨s0, s1, s2, s3, s4⟩
                       go_simp
                       with_reducible rfl
                      rotate_left
                      ·
                       simp only [Act.put, List.setIfInBounds_toArray, List.set_cons_zero, List.set_cons_succ, i64_w, i32_w]
                       rfl
                      refine pure_ (i := 8) (N := some 132) (v := ?_) (a' := ?_) #[true, true, true, true, true, true, true, true, true, false, false, false, false, false] rfl rfl (any_of HT_.out (by kernel_rfl)) (fun _ _ _ h => h) (Or.inl ⟨by rfl, ?_⟩) ?_ ?_
                      rotate_left
                      ·
                       intro w'
                       go_simp
                       with_reducible rfl
                      rotate_left
                      ·
                       simp only [Act.put, List.setIfInBounds_toArray, List.set_cons_zero, List.set_cons_succ, i64_w, i32_w]
                       rfl
                      refine pure_ (i := 9) (N := some 133) (v := ?_) (a' := ?_) #[true, true, true, true, true, true, true, true, true, true, false, false, false, false] rfl rfl (any_of HT_.out (by kernel_rfl)) (fun _ _ _ h => h) (Or.inl ⟨by rfl, ?_⟩) ?_ ?_
                      rotate_left
                      ·
                       intro w'
                       go_simp
                       with_reducible rfl
                      rotate_left
                      ·
                       simp only [Act.put, List.setIfInBounds_toArray, List.set_cons_zero, List.set_cons_succ, i64_w, i32_w]
                       rfl
                      refine pure_ (i := 10) (N := some 134) (v := ?_) (a' := ?_) #[true, true, true, true, true, true, true, true, true, true, true, false, false, false] rfl rfl (any_of HT_.out (by kernel_rfl)) (fun _ _ _ h => h) (Or.inl ⟨by rfl, ?_⟩) ?_ ?_
                      rotate_left
                      ·
                       intro w'
                       go_simp
                       with_reducible rfl
                      rotate_left
                      ·
                       simp only [Act.put, List.setIfInBounds_toArray, List.set_cons_zero, List.set_cons_succ, i64_w, i32_w]
                       rfl
                      refine pure_ (i := 11) (N := some 135) (v := ?_) (a' := ?_) #[true, true, true, true, true, true, true, true, true, true, true, true, false, false] rfl rfl (any_of HT_.out (by kernel_rfl)) (fun _ _ _ h => h) (Or.inl ⟨by rfl, ?_⟩) ?_ ?_
                      rotate_left
                      ·
                       intro w'
                       go_simp
                       with_reducible rfl
                      rotate_left
                      ·
                       simp only [Act.put, List.setIfInBounds_toArray, List.set_cons_zero, List.set_cons_succ, i64_w, i32_w]
                       rfl
                      refine take_ (i := 12) (N := some 136) (v := ?_) (a' := ?_) #[true, true, true, true, true, true, true, true, true, true, true, true, true, false] rfl rfl (take_ofW HT_.out HW_.out (by kernel_rfl)) (fun _ _ _ h => h) (Or.inl ⟨by rfl, ?_⟩) hHeld ?_ ?_
                      rotate_left
                      ·
                       rintro w' ⟨s0, s1, s2, s3, s4⟩
                       go_simp
                       with_reducible rfl
                      rotate_left
                      ·
                       simp only [Act.put, List.setIfInBounds_toArray, List.set_cons_zero, List.set_cons_succ, i64_w, i32_w]
                       rfl
                      refine pure_ (i := 13) (N := some 15) (v := ?_) (a' := ?_) #[true, true, true, true, true, true, true, true, true, true, true, true, true, true] rfl rfl (any_of HT_.out (by kernel_rfl)) (fun _ _ _ h => h) (Or.inl ⟨by rfl, ?_⟩) ?_ ?_
                      rotate_left
                      ·
                       intro w'
                       go_simp
                       with_reducible rfl
                      rotate_left
                      ·
                       simp only [Act.put, List.setIfInBounds_toArray, List.set_cons_zero, List.set_cons_succ, i64_w, i32_w]
                       rfl
                      refine done_ (done_of HT_.out (by kernel_rfl)) ?_
                      try go_wp2
                      have n0_ := Aside0.mk (Kd.N_drew HO_12.out)
                      have n1_ := Aside0.mk (Kd.V_drew HL199_0.out)
                      have n2_ := Aside0.mk (Kd.V_drew HL200_0.out)
                      have n3_ := Aside0.mk (Kd.V_drew HL202_0.out)
                      have n4_ := Aside0.mk (Kd.V_drew HL203_0.out)
                      have n5_ := Aside0.mk (Kd.C_drew HR199_0.out)
                      have n6_ := Aside0.mk (Kd.C_drew HR200_0.out)
                      have n7_ := Aside0.mk (Kd.C_drew HR202_0.out)
                      have n8_ := Aside0.mk (Kd.C_drew HR203_0.out)
                      have n9_ := Aside0.mk (below_drew1 HB.out)
                      clear HO_12
                      clear HL199_0
                      clear HL200_0
                      clear HL202_0
                      clear HL203_0
                      clear HR199_0
                      clear HR200_0
                      clear HR202_0
                      clear HR203_0
                      clear HB
                      have HO_12 := n0_
                      have HL199_0 := n1_
                      have HL200_0 := n2_
                      have HL202_0 := n3_
                      have HL203_0 := n4_
                      have HR199_0 := n5_
                      have HR200_0 := n6_
                      have HR202_0 := n7_
                      have HR203_0 := n8_
                      have HB := n9_
                      clear n0_ n1_ n2_ n3_ n4_ n5_ n6_ n7_ n8_ n9_
                      have p205 : 0 ≤ ((ji64) : Int) := of_decide_eq_true (by first | (with_reducible assumption) | assumption)
                      have q205 : (ji64) < (t190.length : Int) := of_decide_eq_true (by first | (with_reducible assumption) | assumption)
                      obtain ⟨ad205, A205_0, c205_0, e205, hx205_0, hl205_0, hi205_0⟩ := at_L3 (Kd.N_reads' HO_12.out).2.2 (ji64) p205 q205
                      obtain rfl : ad199 = ad205 := (by injection e205)
                      obtain ⟨ce205, hce205, hMe205, hcc205⟩ := Kd.N_get HO_12.out [] (ji64) p205 (by first | exact q205 | exact of_decide_eq_true (by first | (with_reducible assumption) | assumption) | (have e_ := (Kd.N_reads' HO_12.out).1; omega))
                      obtain ⟨ua205_0, uc205_0, rfl, ul205_0, ge205_0⟩ := Kd.FK_slice_open hMe205
                      have hv205_0 := hcc205 0 _ rfl
                      rw [Nat.add_zero, show ((Kd.slice 28 k28)).sz = 1 from rfl, Nat.mul_one] at hv205_0
                      replace hv205_0 := Option.some.inj (hv205_0.symm.trans hx205_0)
                      injection hv205_0 with hva_ hvn_ hvc_
                      rw [hva_] at ge205_0
                      rw [hvc_] at ul205_0
                      have HL205_0 := Aside0.mk (show Kd.V k28 28 _ w.heap.size _ _ (rd_L3 t190 (ji64)) from Kd.V_mk ul205_0 ge205_0)
                      clear hva_ hvn_ hvc_ ge205_0 ul205_0
                      clear hcc205 hce205
                      have HR205_0 := Aside0.mk hi205_0
                      have HC205_0 := Aside0.mk hl205_0
                      clear hi205_0 hl205_0
                      replace p205 := eq_true p205
                      replace q205 := eq_true q205
                      have p206 : 0 ≤ (x13_4 : Int) := of_decide_eq_true (by first | (with_reducible assumption) | assumption)
                      have q206 : x13_4 < (t190.length : Int) := of_decide_eq_true (by first | (with_reducible assumption) | assumption)
                      obtain ⟨ad206, A206_0, c206_0, e206, hx206_0, hl206_0, hi206_0⟩ := at_L3 (Kd.N_reads' HO_12.out).2.2 x13_4 p206 q206
                      obtain rfl : ad199 = ad206 := (by injection e206)
                      obtain ⟨ce206, hce206, hMe206, hcc206⟩ := Kd.N_get HO_12.out [] x13_4 p206 (by first | exact q206 | exact of_decide_eq_true (by first | (with_reducible assumption) | assumption) | (have e_ := (Kd.N_reads' HO_12.out).1; omega))
                      obtain ⟨ua206_0, uc206_0, rfl, ul206_0, ge206_0⟩ := Kd.FK_slice_open hMe206
                      have hv206_0 := hcc206 0 _ rfl
                      rw [Nat.add_zero, show ((Kd.slice 28 k28)).sz = 1 from rfl, Nat.mul_one] at hv206_0
                      replace hv206_0 := Option.some.inj (hv206_0.symm.trans hx206_0)
                      injection hv206_0 with hva_ hvn_ hvc_
                      rw [hva_] at ge206_0
                      rw [hvc_] at ul206_0
                      have HL206_0 := Aside0.mk (show Kd.V k28 28 _ w.heap.size _ _ (rd_L3 t190 x13_4) from Kd.V_mk ul206_0 ge206_0)
                      clear hva_ hvn_ hvc_ ge206_0 ul206_0
                      clear hcc206 hce206
                      have HR206_0 := Aside0.mk hi206_0
                      have HC206_0 := Aside0.mk hl206_0
                      clear hi206_0 hl206_0
                      replace p206 := eq_true p206
                      replace q206 := eq_true q206
                      refine start_ (n := 17) (S := fun w' => w'.cell? (ad199.add ((ji64)).toNat) = some (.slice A205_0 (rd_L3 t190 (ji64)).length c205_0) ∧ w'.cell? (ad199.add (x13_4).toNat) = some (.slice A206_0 (rd_L3 t190 x13_4).length c206_0)) (ds := []) law16_SortedStays.Y0 (by kernel_rfl) rfl rfl ⟨hx205_0, hx206_0⟩ (fun hHeld => ?_); refine with_tabW law16_SortedStays.tab27 law16_SortedStays.bits27 (fun HT_ HW_ => ?_)
                      generalize w84.drew = w85 at HO_12 HL199_0 HL200_0 HL202_0 HL203_0 HR199_0 HR200_0 HR202_0 HR203_0 HB HL205_0 HL206_0 HR205_0 HR206_0 hx205_0 hx206_0 hHeld ⊢
                      refine pure_ (i := 0) (N := some 137) (v := ?_) (a' := ?_) law16_SortedStays.Y1 rfl rfl (any_of HT_.out (by kernel_rfl)) (fun _ _ _ h => h) (Or.inl ⟨by rfl, ?_⟩) ?_ ?_
                      rotate_left
                      ·
                       intro w'
                       go_simp
                       with_reducible rfl
                      rotate_left
                      ·
                       simp only [Act.put, List.setIfInBounds_toArray, List.set_cons_zero, List.set_cons_succ, i64_w, i32_w]
                       rfl
                      refine pure_ (i := 1) (N := some 138) (v := ?_) (a' := ?_) law16_SortedStays.Y2 rfl rfl (any_of HT_.out (by kernel_rfl)) (fun _ _ _ h => h) (Or.inl ⟨by rfl, ?_⟩) ?_ ?_
                      rotate_left
                      ·
                       intro w'
                       go_simp
                       with_reducible rfl
                      rotate_left
                      ·
                       simp only [Act.put, List.setIfInBounds_toArray, List.set_cons_zero, List.set_cons_succ, i64_w, i32_w]
                       rfl
                      refine pure_ (i := 2) (N := some 139) (v := ?_) (a' := ?_) law16_SortedStays.Y3 rfl rfl (any_of HT_.out (by kernel_rfl)) (fun _ _ _ h => h) (Or.inl ⟨by rfl, ?_⟩) ?_ ?_
                      rotate_left
                      ·
                       intro w'
                       go_simp
                       with_reducible rfl
                      rotate_left
                      ·
                       simp only [Act.put, List.setIfInBounds_toArray, List.set_cons_zero, List.set_cons_succ, i64_w, i32_w]
                       rfl
                      refine pure_ (i := 3) (N := some 140) (v := ?_) (a' := ?_) #[true, true, true, true, false, false, false, false, false, false, false, false, false, false, false, false, false] rfl rfl (any_of HT_.out (by kernel_rfl)) (fun _ _ _ h => h) (Or.inl ⟨by rfl, ?_⟩) ?_ ?_
                      rotate_left
                      ·
                       intro w'
                       go_simp
                       with_reducible rfl
                      rotate_left
                      ·
                       simp only [Act.put, List.setIfInBounds_toArray, List.set_cons_zero, List.set_cons_succ, i64_w, i32_w]
                       rfl
                      refine pure_ (i := 5) (N := some 142) (v := ?_) (a' := ?_) #[true, true, true, true, false, true, false, false, false, false, false, false, false, false, false, false, false] rfl rfl (any_of HT_.out (by kernel_rfl)) (fun _ _ _ h => h) (Or.inl ⟨by rfl, ?_⟩) ?_ ?_
                      rotate_left
                      ·
                       intro w'
                       go_simp
                       with_reducible rfl
                      rotate_left
                      ·
                       simp only [Act.put, List.setIfInBounds_toArray, List.set_cons_zero, List.set_cons_succ, i64_w, i32_w]
                       rfl
                      refine pure_ (i := 6) (N := some 143) (v := ?_) (a' := ?_) #[true, true, true, true, false, true, true, false, false, false, false, false, false, false, false, false, false] rfl rfl (any_of HT_.out (by kernel_rfl)) (fun _ _ _ h => h) (Or.inl ⟨by rfl, ?_⟩) ?_ ?_
                      rotate_left
                      ·
                       intro w'
                       go_simp
                       with_reducible rfl
                      rotate_left
                      ·
                       simp only [Act.put, List.setIfInBounds_toArray, List.set_cons_zero, List.set_cons_succ, i64_w, i32_w]
                       rfl
                      refine pure_ (i := 7) (N := some 144) (v := ?_) (a' := ?_) #[true, true, true, true, false, true, true, true, false, false, false, false, false, false, false, false, false] rfl rfl (any_of HT_.out (by kernel_rfl)) (fun _ _ _ h => h) (Or.inl ⟨by rfl, ?_⟩) ?_ ?_
                      rotate_left
                      ·
                       intro w'
                       go_simp
                       with_reducible rfl
                      rotate_left
                      ·
                       simp only [Act.put, List.setIfInBounds_toArray, List.set_cons_zero, List.set_cons_succ, i64_w, i32_w]
                       rfl
                      refine pure_ (i := 9) (N := some 146) (v := ?_) (a' := ?_) #[true, true, true, true, false, true, true, true, false, true, false, false, false, false, false, false, false] rfl rfl (any_of HT_.out (by kernel_rfl)) (fun _ _ _ h => h) (Or.inl ⟨by rfl, ?_⟩) ?_ ?_
                      rotate_left
                      ·
                       intro w'
                       go_simp
                       with_reducible rfl
                      rotate_left
                      ·
                       simp only [Act.put, List.setIfInBounds_toArray, List.set_cons_zero, List.set_cons_succ, i64_w, i32_w]
                       rfl
                      refine take_ (i := 4) (N := some 141) (v := ?_) (a' := ?_) #[true, true, true, true, true, true, true, true, false, true, false, false, false, false, false, false, false] rfl rfl (take_ofW HT_.out HW_.out (by kernel_rfl)) (fun _ _ _ h => h) (Or.inl ⟨by rfl, ?_⟩) hHeld ?_ ?_
                      rotate_left
                      ·
                       rintro w' ⟨s0, s1⟩
                       go_simp
                       with_reducible rfl
                      rotate_left
                      ·
                       simp only [Act.put, List.setIfInBounds_toArray, List.set_cons_zero, List.set_cons_succ, i64_w, i32_w]
                       rfl
                      refine take_ (i := 8) (N := some 145) (v := ?_) (a' := ?_) law16_SortedStays.Y10 rfl rfl (take_ofW HT_.out HW_.out (by kernel_rfl)) (fun _ _ _ h => h) (Or.inl ⟨by rfl, ?_⟩) hHeld ?_ ?_
                      rotate_left
                      ·
                       rintro w' ⟨s0, s1⟩
                       go_simp
                       with_reducible rfl
                      rotate_left
                      ·
                       simp only [Act.put, List.setIfInBounds_toArray, List.set_cons_zero, List.set_cons_succ, i64_w, i32_w]
                       rfl
                      refine one_ (i := 10) (N := some 147) law16_SortedStays.Y11 rfl rfl (one_of HT_.out (by kernel_rfl)) (by decide) (fun K hK => ?_)
                      refine goes_ Try.func15 (by kernel_rfl) rfl #[.slice A205_0 (rd_L3 t190 (ji64)).length c205_0, .slice A206_0 (rd_L3 t190 x13_4).length c206_0, .slice A1 l1.length c1] (by rfl) rfl rfl (by (try simp only [List.map_toArray, List.map_cons, List.map_nil]); first | done | (simp only [hji64]; rfl) | rfl | (simp only [List.length_drop, List.length_take]; rfl)) ?_
                      with_reducible refine (ref16_Order.calls k4 _ _ (rd_L3 t190 (ji64)) _ _ (rd_L3 t190 x13_4) _ _ l1 t207 _ ?side1 ?side2 ?side3 ?side4 ?side5 ?side6 A74.out).mono ?_
                      (case side1 => repeat (first | exact (by repeat (first | (with_reducible exact HR205_0.out) | (with_reducible refine Kd.C_alloc ?_ _) | (with_reducible refine Kd.C_drewN ?_ _) | (with_reducible refine Kd.C_drew ?_) | exact HR205_0.out)) | (with_reducible refine Kd.C_alloc ?_ _) | (with_reducible refine Kd.C_drewN ?_ _) | (with_reducible refine Kd.C_drew ?_)))
                      (case side2 => exact HC205_0.out)
                      (case side3 => repeat (first | exact (by repeat (first | (with_reducible exact HR206_0.out) | (with_reducible refine Kd.C_alloc ?_ _) | (with_reducible refine Kd.C_drewN ?_ _) | (with_reducible refine Kd.C_drew ?_) | exact HR206_0.out)) | (with_reducible refine Kd.C_alloc ?_ _) | (with_reducible refine Kd.C_drewN ?_ _) | (with_reducible refine Kd.C_drew ?_)))
                      (case side4 => exact HC206_0.out)
                      (case side5 => repeat (first | exact (Kd.C_below HR1.out HB.out) | (with_reducible refine Kd.C_alloc ?_ _) | (with_reducible refine Kd.C_drewN ?_ _) | (with_reducible refine Kd.C_drew ?_)))
                      (case side6 => exact HC1.out)
                      rintro e w86 ⟨rfl, hb⟩
                      have HS0_ := (hb.cell (World.block_lt_of_cell? _ _ (hHeld.1))).trans (hHeld.1)
                      have HS1_ := (hb.cell (World.block_lt_of_cell? _ _ (hHeld.2))).trans (hHeld.2)
                      refine ⟨_, rfl, ?_⟩
                      have n0_ := Aside0.mk (Kd.N_below (by (with_reducible repeat (first | apply Kd.N_alloc | apply Kd.N_drewN | apply Kd.N_drew)); exact HO_12.out) hb)
                      have n1_ := Aside0.mk (Kd.V_below (by (with_reducible repeat (first | apply Kd.V_alloc | apply Kd.V_drewN | apply Kd.V_drew)); exact HL199_0.out) hb)
                      have n2_ := Aside0.mk (Kd.V_below (by (with_reducible repeat (first | apply Kd.V_alloc | apply Kd.V_drewN | apply Kd.V_drew)); exact HL200_0.out) hb)
                      have n3_ := Aside0.mk (Kd.V_below (by (with_reducible repeat (first | apply Kd.V_alloc | apply Kd.V_drewN | apply Kd.V_drew)); exact HL202_0.out) hb)
                      have n4_ := Aside0.mk (Kd.V_below (by (with_reducible repeat (first | apply Kd.V_alloc | apply Kd.V_drewN | apply Kd.V_drew)); exact HL203_0.out) hb)
                      have n5_ := Aside0.mk (Kd.V_below (by (with_reducible repeat (first | apply Kd.V_alloc | apply Kd.V_drewN | apply Kd.V_drew)); exact HL205_0.out) hb)
                      have n6_ := Aside0.mk (Kd.V_below (by (with_reducible repeat (first | apply Kd.V_alloc | apply Kd.V_drewN | apply Kd.V_drew)); exact HL206_0.out) hb)
                      have n7_ := Aside0.mk (Kd.C_below (by repeat (first | (with_reducible exact HR199_0.out) | (with_reducible refine Kd.C_alloc ?_ _) | (with_reducible refine Kd.C_drewN ?_ _) | (with_reducible refine Kd.C_drew ?_) | exact HR199_0.out)) hb)
                      have n8_ := Aside0.mk (Kd.C_below (by repeat (first | (with_reducible exact HR200_0.out) | (with_reducible refine Kd.C_alloc ?_ _) | (with_reducible refine Kd.C_drewN ?_ _) | (with_reducible refine Kd.C_drew ?_) | exact HR200_0.out)) hb)
                      have n9_ := Aside0.mk (Kd.C_below (by repeat (first | (with_reducible exact HR202_0.out) | (with_reducible refine Kd.C_alloc ?_ _) | (with_reducible refine Kd.C_drewN ?_ _) | (with_reducible refine Kd.C_drew ?_) | exact HR202_0.out)) hb)
                      have n10_ := Aside0.mk (Kd.C_below (by repeat (first | (with_reducible exact HR203_0.out) | (with_reducible refine Kd.C_alloc ?_ _) | (with_reducible refine Kd.C_drewN ?_ _) | (with_reducible refine Kd.C_drew ?_) | exact HR203_0.out)) hb)
                      have n11_ := Aside0.mk (Kd.C_below (by repeat (first | (with_reducible exact HR205_0.out) | (with_reducible refine Kd.C_alloc ?_ _) | (with_reducible refine Kd.C_drewN ?_ _) | (with_reducible refine Kd.C_drew ?_) | exact HR205_0.out)) hb)
                      have n12_ := Aside0.mk (Kd.C_below (by repeat (first | (with_reducible exact HR206_0.out) | (with_reducible refine Kd.C_alloc ?_ _) | (with_reducible refine Kd.C_drewN ?_ _) | (with_reducible refine Kd.C_drew ?_) | exact HR206_0.out)) hb)
                      have n13_ := Aside0.mk (below_step (by repeat (first | (with_reducible first | exact HB.out | apply below_alloc | apply pw_below_drewN | apply below_drew1) | exact HB.out)) hb)
                      clear HO_12
                      clear HL199_0
                      clear HL200_0
                      clear HL202_0
                      clear HL203_0
                      clear HL205_0
                      clear HL206_0
                      clear HR199_0
                      clear HR200_0
                      clear HR202_0
                      clear HR203_0
                      clear HR205_0
                      clear HR206_0
                      clear HB
                      have HO_12 := n0_
                      have HL199_0 := n1_
                      have HL200_0 := n2_
                      have HL202_0 := n3_
                      have HL203_0 := n4_
                      have HL205_0 := n5_
                      have HL206_0 := n6_
                      have HR199_0 := n7_
                      have HR200_0 := n8_
                      have HR202_0 := n9_
                      have HR203_0 := n10_
                      have HR205_0 := n11_
                      have HR206_0 := n12_
                      have HB := n13_
                      clear n0_ n1_ n2_ n3_ n4_ n5_ n6_ n7_ n8_ n9_ n10_ n11_ n12_ n13_
                      (try clear hb)
                      (try clear hb2)
                      (try clear hk)
                      (try clear hi)
                      refine hK.out _ _ ⟨HS0_, HS1_⟩ (fun hHeld => ?_)
                      clear hK K
                      refine norm_ (a' := ?_) ?_ ?_
                      rotate_left
                      ·
                       show Act.put _ (some 147) _ = _
                       simp only [Act.put, List.setIfInBounds_toArray, List.set_cons_zero, List.set_cons_succ, i64_w, i32_w]
                       rfl
                      refine pure_ (i := 11) (N := some 148) (v := ?_) (a' := ?_) law16_SortedStays.Y12 rfl rfl (any_of HT_.out (by kernel_rfl)) (fun _ _ _ h => h) (Or.inl ⟨by rfl, ?_⟩) ?_ ?_
                      rotate_left
                      ·
                       intro w'
                       go_simp
                       with_reducible rfl
                      rotate_left
                      ·
                       simp only [Act.put, List.setIfInBounds_toArray, List.set_cons_zero, List.set_cons_succ, i64_w, i32_w]
                       rfl
                      refine pure_ (i := 12) (N := some 149) (v := ?_) (a' := ?_) law16_SortedStays.Y13 rfl rfl (any_of HT_.out (by kernel_rfl)) (fun _ _ _ h => h) (Or.inl ⟨by rfl, ?_⟩) ?_ ?_
                      rotate_left
                      ·
                       intro w'
                       go_simp
                       with_reducible rfl
                      rotate_left
                      ·
                       simp only [Act.put, List.setIfInBounds_toArray, List.set_cons_zero, List.set_cons_succ, i64_w, i32_w]
                       rfl
                      refine pure_ (i := 13) (N := some 150) (v := undef) (a' := ?_) law16_SortedStays.Y14 rfl rfl (any_of HT_.out (by kernel_rfl)) (fun _ _ _ h => h) (Or.inr ⟨by rfl, rfl⟩) ?_ ?_
                      rotate_left
                      ·
                       simp only [Act.put, List.setIfInBounds_toArray, List.set_cons_zero, List.set_cons_succ, i64_w, i32_w]
                       rfl
                      refine pure_ (i := 14) (N := some 151) (v := undef) (a' := ?_) law16_SortedStays.Y15 rfl rfl (any_of HT_.out (by kernel_rfl)) (fun _ _ _ h => h) (Or.inr ⟨by rfl, rfl⟩) ?_ ?_
                      rotate_left
                      ·
                       simp only [Act.put, List.setIfInBounds_toArray, List.set_cons_zero, List.set_cons_succ, i64_w, i32_w]
                       rfl
                      refine pure_ (i := 15) (N := some 152) (v := undef) (a' := ?_) law16_SortedStays.Y16 rfl rfl (any_of HT_.out (by kernel_rfl)) (fun _ _ _ h => h) (Or.inr ⟨by rfl, rfl⟩) ?_ ?_
                      rotate_left
                      ·
                       simp only [Act.put, List.setIfInBounds_toArray, List.set_cons_zero, List.set_cons_succ, i64_w, i32_w]
                       rfl
                      refine pure_ (i := 16) (N := some 153) (v := ?_) (a' := ?_) law16_SortedStays.Y17 rfl rfl (any_of HT_.out (by kernel_rfl)) (fun _ _ _ h => h) (Or.inl ⟨by rfl, ?_⟩) ?_ ?_
                      rotate_left
                      ·
                       intro w'
                       go_simp
                       with_reducible rfl
                      rotate_left
                      ·
                       simp only [Act.put, List.setIfInBounds_toArray, List.set_cons_zero, List.set_cons_succ, i64_w, i32_w]
                       rfl
                      refine done_ (done_of HT_.out (by kernel_rfl)) ?_
                      try go_wp2
                      go_roundg k4
                      case measure => have := HK1.out; have := HK2.out; have := HJ34.out; have := HK4.out; omega
                      case rel => exact ⟨(wrap64 (x13_4 + 1)), (by first | rfl | (simp; done) | (simp [*]; done)), H', ⟨by have := HK1.out; have := HK2.out; have := HJ34.out; have := HK4.out; omega⟩, ⟨by (with_reducible repeat (first | apply Kd.N_alloc | apply Kd.N_drewN | apply Kd.N_drew)); exact HO_12.out⟩, ⟨by repeat (first | (with_reducible first | exact HB.out | apply below_alloc | apply pw_below_drewN | apply below_drew1) | exact HB.out)⟩⟩
                    ·
                     rw [if_neg c73] at H
                     exact absurd H (by simp)
                   ·
                    rw [if_neg c72] at H
                    exact absurd H (by simp)
                  ·
                   rw [if_neg c70] at H
                   exact absurd H (by simp)
                 ·
                  rw [if_neg c69] at H
                  exact absurd H (by simp)
                ·
                 rw [if_neg c68] at H
                 exact absurd H (by simp)
               ·
                rw [if_neg c66] at H
                exact absurd H (by simp)
              ·
               rw [if_neg c65] at H
               exact absurd H (by simp)
             ·
              rw [if_neg c63] at H
              have c63b0 : decide (x13_4 < (t190.length : Int)) = false := decide_eq_false c63
              (try (have c63b0q_hl174_0 := c63b0; rw [hl174_0] at c63b0q_hl174_0))
              (try (have c63b0q_hl185_0 := c63b0; rw [hl185_0] at c63b0q_hl185_0))
              (try (have c63b0q_hl199_0 := c63b0; rw [hl199_0] at c63b0q_hl199_0))
              (try (have c63b0q_hl200_0 := c63b0; rw [hl200_0] at c63b0q_hl200_0))
              (try (have c63b0q_hl202_0 := c63b0; rw [hl202_0] at c63b0q_hl202_0))
              (try (have c63b0q_hl203_0 := c63b0; rw [hl203_0] at c63b0q_hl203_0))
              (try (have c63b0q_hl205_0 := c63b0; rw [hl205_0] at c63b0q_hl205_0))
              (try (have c63b0q_hl206_0 := c63b0; rw [hl206_0] at c63b0q_hl206_0))
              clear c63
              obtain rfl := Option.some.inj H
              obtain ⟨Ao87, co87, eo87⟩ := Kd.N_slice HO_12.out
              subst eo87
              go_wp2
              go_ret
              exact ⟨by first | rfl | (simp [errW_none, errW_some] <;> rfl) | (simp [*, errW_none, errW_some] <;> rfl), by repeat (first | (with_reducible first | exact HB.out | apply below_alloc | apply pw_below_drewN | apply below_drew1) | exact HB.out)⟩

/-- THE ONE PURE STATEMENT of law16_SortedStays: yours. -/
def law16_SortedStays.Pure : Prop := ∀ (l0 : List (List (S28))) (l1 : List Int), Hand.WfRow 24 (Hand.WfRow 32 wfS28) l0 → l1.length ≤ maxLen → l1.length * 8 ≤ 140737488351232 → (∀ x ∈ l1, (Lit.int .i64 x).wf = true) → ∃ k, law16_SortedStays.f k l0 l1 = some true
theorem law16_SortedStays.walk (P : law16_SortedStays.Pure) (A0 : Option Addr) (c0 : Nat) (l0 : List (List (S28))) (a1 : Option Addr) (len1 cap1 : Nat) (z1 : List Int) (w : World) (w0 : l0.length ≤ c0 ∧ Kd.C (Kd.slice 28 k28) w A0 l0.length l0 ∧ Hand.WfRow 24 (Hand.WfRow 32 wfS28) l0) (w1 : (a1 = none ∧ len1 = 0 ∧ cap1 = 0 ∧ z1 = []) ∨ ∃ x, a1 = some x ∧ len1 ≤ cap1 ∧ cap1 ≤ maxLen ∧ z1.length = cap1 ∧ (∀ i, i < z1.length → w.cell? (x.add i) = some (.int .i64 (z1.getD i 0))) ∧ ∀ n ∈ z1, (Lit.int .i64 n).wf = true) (y1 : len1 * 8 ≤ 140737488351232) :
  Calls Try.prog 3 #[.slice A0 l0.length c0, .slice a1 len1 cap1] w fun e w' => e = .returned (.bool true) ∧ Below w.heap.size w w' := by
 obtain ⟨hc0, hr0, hw0⟩ := w0
 obtain ⟨l1, rfl, hr1, hm1, hw1, hc1⟩ := ReadsInt.ofRowC w1
 obtain ⟨k, h⟩ := P l0 l1 hw0 hm1 y1 hw1
 refine (law16_SortedStays.calls k _ _ l0 _ _ l1 true w hr0 hc0 (Kd.C_of_reads (d := (0 : Int)) (h1 := fun _ => rfl) hr1) hc1 ⟨rfl⟩ h).mono ?_
 rintro e w' ⟨rfl, hd⟩
 exact ⟨rfl, hd⟩

end Go.Proofs.Ythpoeljnmdjjiaa.PSrn
