-- Written by this session's program wip/gprint/gprint.py, over the kit's print, with given functions; no text of print.sh's; an append by vro2.py.
import Derived.Test.YthooijfdlamkkaaPVrox0
import Derived.Test.YthooijfdlamkkaaPVrox6
import Derived.Test.YthooijfdlamkkaaPVrox8
import Derived.Test.YthooijfdlamkkaaPVrox9
namespace Go.Proofs.Ythooijfdlamkkaa.PVro
open Go.RowKit Go.Proofs.YthooijfdlamkkaaW.PrintWords Go.Proofs.YthooijfdlamkkaaW.PrintLast Go.Proofs.YthooijfdlamkkaaW.PrintMore
attribute [local go_sem] max2_int min2_int max_two min_two max_three min_three max_four min_four   -- for this text's walks alone
set_option linter.unusedVariables false
set_option linter.unusedSimpArgs false

/-! ### law05_ValRows: function 5 -/
def law05_ValRows.j0 : Nat → List (S23) → List (S23) → Bool → List (S23) → Bool → Option (Bool)
  | 0, _, _, _, _, _ => none
  | k + 1, x0, x1, x9, x10, x39 => if x39 = true then (some false) else (if x9 = true then ((val_Rows.f k x0 x10).bind fun t152 => (if t152 = (-1) then ((val_Rows.f k x10 x0).bind fun t153 => (if t153 = 1 then ((val_Rows.f k x0 x0).bind fun t154 => (if t154 = 0 then ((val_Rows.f k x0 x1).bind fun t155 => ((val_Rows.f k x1 x0).bind fun t156 => (some (t155 == (wrap64 (-t156)))))) else (some false))) else (some false))) else (some false))) else (some false))
def law05_ValRows.f (k : Nat) (l0 : List (S23)) (l1 : List (S23)) (a2_0 : Int) (a2_1 : Int) (a2_2 : ByteArray) (a3_0 : Int) (a3_1 : Int) (a3_2 : ByteArray) : Option (Bool) := (law05_shown.f).bind fun t125 => ((some (([] : List (S23)) : List (S23))).bind fun y126 => (if y126.length + l0.length < 4398046511104 then ((some (y126 ++ l0 : List (S23))).bind fun y129 => ((some (([(⟨a2_0, a2_1, a2_2⟩ : S23)] : List (S23)) : List (S23))).bind fun y132 => (if y129.length + y132.length < 4398046511104 then ((some (y129 ++ y132 : List (S23))).bind fun y135 => ((some (([] : List (S23)) : List (S23))).bind fun y138 => (if y138.length + l0.length < 4398046511104 then ((some (y138 ++ l0 : List (S23))).bind fun y141 => ((some (([(⟨a3_0, a3_1, a3_2⟩ : S23)] : List (S23)) : List (S23))).bind fun y144 => (if y141.length + y144.length < 4398046511104 then ((val_Compare.f a2_0 a2_1 a2_2 a3_0 a3_1 a3_2).bind fun t150 => (if t150 = 0 then (law05_ValRows.j0 k l0 l1 t125 y135 false) else ((val_Clean.f k y135 l1 (y141 ++ y144)).bind fun t151 => (law05_ValRows.j0 k l0 l1 t125 y135 (t151 != t150))))) else (none)))) else (none)))) else (none)))) else (none)))
theorem law05_ValRows.mono_l : ∀ k, (∀ y0 y1 y2 y3 y4, LeO (law05_ValRows.j0 k y0 y1 y2 y3 y4) (law05_ValRows.j0 (k + 1) y0 y1 y2 y3 y4))
  | 0 => fun _ _ _ _ _ r h => by simp [law05_ValRows.j0] at h
  | k + 1 => by
    have ih0 := law05_ValRows.mono_l k
    · intro y0 y1 y2 y3 y4
      unfold law05_ValRows.j0
      repeat' first
      | (with_reducible exact ih0 _ _ _ _ _)
      | (with_reducible exact val_Clean.mono _ _ _ _)
      | (with_reducible exact val_Rows.mono _ _ _)
      | (with_reducible exact LeO.refl _)
      | (with_reducible exact LeO.none _)
      | (with_reducible refine LeO.ite ?_ ?_)
      | (with_reducible refine LeO.bind ?_ (fun _ => ?_))
      | exact ih0 _ _ _ _ _
      | exact val_Clean.mono _ _ _ _
      | exact val_Rows.mono _ _ _
      | exact LeO.none _
      | refine LeO.ite ?_ ?_
      | refine LeO.bind ?_ (fun _ => ?_)
theorem law05_ValRows.mono : ∀ a0 a1 a2 a3 a4 a5 a6 a7 k, LeO (law05_ValRows.f k a0 a1 a2 a3 a4 a5 a6 a7) (law05_ValRows.f (k + 1) a0 a1 a2 a3 a4 a5 a6 a7) := by
  intro a0 a1 a2 a3 a4 a5 a6 a7 k
  have ih0 := law05_ValRows.mono_l k
  unfold law05_ValRows.f
  repeat' first
      | (with_reducible exact ih0 _ _ _ _ _)
      | (with_reducible exact val_Clean.mono _ _ _ _)
      | (with_reducible exact val_Rows.mono _ _ _)
      | (with_reducible exact LeO.refl _)
      | (with_reducible exact LeO.none _)
      | (with_reducible refine LeO.ite ?_ ?_)
      | (with_reducible refine LeO.bind ?_ (fun _ => ?_))
      | exact ih0 _ _ _ _ _
      | exact val_Clean.mono _ _ _ _
      | exact val_Rows.mono _ _ _
      | exact LeO.none _
      | refine LeO.ite ?_ ?_
      | refine LeO.bind ?_ (fun _ => ?_)
set_option maxHeartbeats 8000000 in
set_option maxRecDepth 100000 in
theorem law05_ValRows.calls (k : Nat) (A0 : Option Addr) (c0 : Nat) (l0 : List (S23)) (A1 : Option Addr) (c1 : Nat) (l1 : List (S23)) (a2_0 : Int) (a2_1 : Int) (a2_2 : ByteArray) (a3_0 : Int) (a3_1 : Int) (a3_2 : ByteArray) (r : Bool) (w : World) (hr0 : Kd.C k23 w A0 l0.length l0) (hc0 : l0.length ≤ c0) (hr1 : Kd.C k23 w A1 l1.length l1) (hc1 : l1.length ≤ c1) (hr_ : Aside0 (r = true)) (h : law05_ValRows.f k l0 l1 a2_0 a2_1 a2_2 a3_0 a3_1 a3_2 = some r) :
    Calls Try.prog 5 #[.slice A0 l0.length c0, .slice A1 l1.length c1, .agg #[.int .i64 a2_0, .int .i64 a2_1, .string a2_2], .agg #[.int .i64 a3_0, .int .i64 a3_1, .string a3_2]] w fun e w' => e = .returned (.bool r) ∧ Below w.heap.size w w' := by
  have hu23 := Try.underlying23
  have HR0 := Aside0.mk hr0
  have HC0 := Aside0.mk hc0
  clear hr0 hc0
  have HR1 := Aside0.mk hr1
  have HC1 := Aside0.mk hc1
  clear hr1 hc1
  have HB := Aside0.mk (Below.refl w.heap.size w)
  have H : ((law05_shown.f).bind fun t125 => ((some (([] : List (S23)) : List (S23))).bind fun y126 => (if y126.length + l0.length < 4398046511104 then ((some (y126 ++ l0 : List (S23))).bind fun y129 => ((some (([(⟨a2_0, a2_1, a2_2⟩ : S23)] : List (S23)) : List (S23))).bind fun y132 => (if y129.length + y132.length < 4398046511104 then ((some (y129 ++ y132 : List (S23))).bind fun y135 => ((some (([] : List (S23)) : List (S23))).bind fun y138 => (if y138.length + l0.length < 4398046511104 then ((some (y138 ++ l0 : List (S23))).bind fun y141 => ((some (([(⟨a3_0, a3_1, a3_2⟩ : S23)] : List (S23)) : List (S23))).bind fun y144 => (if y141.length + y144.length < 4398046511104 then ((val_Compare.f a2_0 a2_1 a2_2 a3_0 a3_1 a3_2).bind fun t150 => (if t150 = 0 then (law05_ValRows.j0 k l0 l1 t125 y135 false) else ((val_Clean.f k y135 l1 (y141 ++ y144)).bind fun t151 => (law05_ValRows.j0 k l0 l1 t125 y135 (t151 != t150))))) else (none)))) else (none)))) else (none)))) else (none)))) = some r := h
  clear h
  replace H := Option.bind_eq_some_iff.mp H
  obtain ⟨t125, A50, H⟩ := H
  replace H : ((some (([] : List (S23)) : List (S23))).bind fun y126 => (if y126.length + l0.length < 4398046511104 then ((some (y126 ++ l0 : List (S23))).bind fun y129 => ((some (([(⟨a2_0, a2_1, a2_2⟩ : S23)] : List (S23)) : List (S23))).bind fun y132 => (if y129.length + y132.length < 4398046511104 then ((some (y129 ++ y132 : List (S23))).bind fun y135 => ((some (([] : List (S23)) : List (S23))).bind fun y138 => (if y138.length + l0.length < 4398046511104 then ((some (y138 ++ l0 : List (S23))).bind fun y141 => ((some (([(⟨a3_0, a3_1, a3_2⟩ : S23)] : List (S23)) : List (S23))).bind fun y144 => (if y141.length + y144.length < 4398046511104 then ((val_Compare.f a2_0 a2_1 a2_2 a3_0 a3_1 a3_2).bind fun t150 => (if t150 = 0 then (law05_ValRows.j0 k l0 l1 t125 y135 false) else ((val_Clean.f k y135 l1 (y141 ++ y144)).bind fun t151 => (law05_ValRows.j0 k l0 l1 t125 y135 (t151 != t150))))) else (none)))) else (none)))) else (none)))) else (none))) = some r := H
  have A5 := Aside0.mk A50
  clear A50
  obtain ⟨y126, hy126⟩ : ∃ y_ : List (S23), y_ = (([] : List (S23))) := ⟨_, rfl⟩
  replace H : (if y126.length + l0.length < 4398046511104 then ((some (y126 ++ l0 : List (S23))).bind fun y129 => ((some (([(⟨a2_0, a2_1, a2_2⟩ : S23)] : List (S23)) : List (S23))).bind fun y132 => (if y129.length + y132.length < 4398046511104 then ((some (y129 ++ y132 : List (S23))).bind fun y135 => ((some (([] : List (S23)) : List (S23))).bind fun y138 => (if y138.length + l0.length < 4398046511104 then ((some (y138 ++ l0 : List (S23))).bind fun y141 => ((some (([(⟨a3_0, a3_1, a3_2⟩ : S23)] : List (S23)) : List (S23))).bind fun y144 => (if y141.length + y144.length < 4398046511104 then ((val_Compare.f a2_0 a2_1 a2_2 a3_0 a3_1 a3_2).bind fun t150 => (if t150 = 0 then (law05_ValRows.j0 k l0 l1 t125 y135 false) else ((val_Clean.f k y135 l1 (y141 ++ y144)).bind fun t151 => (law05_ValRows.j0 k l0 l1 t125 y135 (t151 != t150))))) else (none)))) else (none)))) else (none)))) else (none)) = some r := by first | (rw [hy126]; with_reducible exact H) | (have H2_ := (Option.bind_some _ _).symm.trans H; rw [hy126]; with_reducible exact H2_) | (have H2_ := (Option.bind_some _ _).symm.trans H; with_reducible exact H2_) | with_reducible exact H | (rw [hy126]; exact H) | exact H
  have Ny126 := Aside0.mk hy126
  clear hy126
  by_cases c6 : y126.length + l0.length < 4398046511104
  · rw [if_pos c6] at H
    have LMc6 := Aside0.mk c6
    clear c6
    obtain ⟨y129, hy129⟩ : ∃ y_ : List (S23), y_ = (y126 ++ l0) := ⟨_, rfl⟩
    replace H : ((some (([(⟨a2_0, a2_1, a2_2⟩ : S23)] : List (S23)) : List (S23))).bind fun y132 => (if y129.length + y132.length < 4398046511104 then ((some (y129 ++ y132 : List (S23))).bind fun y135 => ((some (([] : List (S23)) : List (S23))).bind fun y138 => (if y138.length + l0.length < 4398046511104 then ((some (y138 ++ l0 : List (S23))).bind fun y141 => ((some (([(⟨a3_0, a3_1, a3_2⟩ : S23)] : List (S23)) : List (S23))).bind fun y144 => (if y141.length + y144.length < 4398046511104 then ((val_Compare.f a2_0 a2_1 a2_2 a3_0 a3_1 a3_2).bind fun t150 => (if t150 = 0 then (law05_ValRows.j0 k l0 l1 t125 y135 false) else ((val_Clean.f k y135 l1 (y141 ++ y144)).bind fun t151 => (law05_ValRows.j0 k l0 l1 t125 y135 (t151 != t150))))) else (none)))) else (none)))) else (none))) = some r := by first | (rw [hy129]; with_reducible exact H) | (have H2_ := (Option.bind_some _ _).symm.trans H; rw [hy129]; with_reducible exact H2_) | (have H2_ := (Option.bind_some _ _).symm.trans H; with_reducible exact H2_) | with_reducible exact H | (rw [hy129]; exact H) | exact H
    have Ny129 := Aside0.mk hy129
    clear hy129
    obtain ⟨y132, hy132⟩ : ∃ y_ : List (S23), y_ = (([(⟨a2_0, a2_1, a2_2⟩ : S23)] : List (S23))) := ⟨_, rfl⟩
    replace H : (if y129.length + y132.length < 4398046511104 then ((some (y129 ++ y132 : List (S23))).bind fun y135 => ((some (([] : List (S23)) : List (S23))).bind fun y138 => (if y138.length + l0.length < 4398046511104 then ((some (y138 ++ l0 : List (S23))).bind fun y141 => ((some (([(⟨a3_0, a3_1, a3_2⟩ : S23)] : List (S23)) : List (S23))).bind fun y144 => (if y141.length + y144.length < 4398046511104 then ((val_Compare.f a2_0 a2_1 a2_2 a3_0 a3_1 a3_2).bind fun t150 => (if t150 = 0 then (law05_ValRows.j0 k l0 l1 t125 y135 false) else ((val_Clean.f k y135 l1 (y141 ++ y144)).bind fun t151 => (law05_ValRows.j0 k l0 l1 t125 y135 (t151 != t150))))) else (none)))) else (none)))) else (none)) = some r := by first | (rw [hy132]; with_reducible exact H) | (have H2_ := (Option.bind_some _ _).symm.trans H; rw [hy132]; with_reducible exact H2_) | (have H2_ := (Option.bind_some _ _).symm.trans H; with_reducible exact H2_) | with_reducible exact H | (rw [hy132]; exact H) | exact H
    have Ny132 := Aside0.mk hy132
    clear hy132
    by_cases c7 : y129.length + y132.length < 4398046511104
    · rw [if_pos c7] at H
      have LMc7 := Aside0.mk c7
      clear c7
      obtain ⟨y135, hy135⟩ : ∃ y_ : List (S23), y_ = (y129 ++ y132) := ⟨_, rfl⟩
      replace H : ((some (([] : List (S23)) : List (S23))).bind fun y138 => (if y138.length + l0.length < 4398046511104 then ((some (y138 ++ l0 : List (S23))).bind fun y141 => ((some (([(⟨a3_0, a3_1, a3_2⟩ : S23)] : List (S23)) : List (S23))).bind fun y144 => (if y141.length + y144.length < 4398046511104 then ((val_Compare.f a2_0 a2_1 a2_2 a3_0 a3_1 a3_2).bind fun t150 => (if t150 = 0 then (law05_ValRows.j0 k l0 l1 t125 y135 false) else ((val_Clean.f k y135 l1 (y141 ++ y144)).bind fun t151 => (law05_ValRows.j0 k l0 l1 t125 y135 (t151 != t150))))) else (none)))) else (none))) = some r := by first | (rw [hy135]; with_reducible exact H) | (have H2_ := (Option.bind_some _ _).symm.trans H; rw [hy135]; with_reducible exact H2_) | (have H2_ := (Option.bind_some _ _).symm.trans H; with_reducible exact H2_) | with_reducible exact H | (rw [hy135]; exact H) | exact H
      have Ny135 := Aside0.mk hy135
      clear hy135
      obtain ⟨y138, hy138⟩ : ∃ y_ : List (S23), y_ = (([] : List (S23))) := ⟨_, rfl⟩
      replace H : (if y138.length + l0.length < 4398046511104 then ((some (y138 ++ l0 : List (S23))).bind fun y141 => ((some (([(⟨a3_0, a3_1, a3_2⟩ : S23)] : List (S23)) : List (S23))).bind fun y144 => (if y141.length + y144.length < 4398046511104 then ((val_Compare.f a2_0 a2_1 a2_2 a3_0 a3_1 a3_2).bind fun t150 => (if t150 = 0 then (law05_ValRows.j0 k l0 l1 t125 y135 false) else ((val_Clean.f k y135 l1 (y141 ++ y144)).bind fun t151 => (law05_ValRows.j0 k l0 l1 t125 y135 (t151 != t150))))) else (none)))) else (none)) = some r := by first | (rw [hy138]; with_reducible exact H) | (have H2_ := (Option.bind_some _ _).symm.trans H; rw [hy138]; with_reducible exact H2_) | (have H2_ := (Option.bind_some _ _).symm.trans H; with_reducible exact H2_) | with_reducible exact H | (rw [hy138]; exact H) | exact H
      have Ny138 := Aside0.mk hy138
      clear hy138
      by_cases c8 : y138.length + l0.length < 4398046511104
      · rw [if_pos c8] at H
        have LMc8 := Aside0.mk c8
        clear c8
        obtain ⟨y141, hy141⟩ : ∃ y_ : List (S23), y_ = (y138 ++ l0) := ⟨_, rfl⟩
        replace H : ((some (([(⟨a3_0, a3_1, a3_2⟩ : S23)] : List (S23)) : List (S23))).bind fun y144 => (if y141.length + y144.length < 4398046511104 then ((val_Compare.f a2_0 a2_1 a2_2 a3_0 a3_1 a3_2).bind fun t150 => (if t150 = 0 then (law05_ValRows.j0 k l0 l1 t125 y135 false) else ((val_Clean.f k y135 l1 (y141 ++ y144)).bind fun t151 => (law05_ValRows.j0 k l0 l1 t125 y135 (t151 != t150))))) else (none))) = some r := by first | (rw [hy141]; with_reducible exact H) | (have H2_ := (Option.bind_some _ _).symm.trans H; rw [hy141]; with_reducible exact H2_) | (have H2_ := (Option.bind_some _ _).symm.trans H; with_reducible exact H2_) | with_reducible exact H | (rw [hy141]; exact H) | exact H
        have Ny141 := Aside0.mk hy141
        clear hy141
        obtain ⟨y144, hy144⟩ : ∃ y_ : List (S23), y_ = (([(⟨a3_0, a3_1, a3_2⟩ : S23)] : List (S23))) := ⟨_, rfl⟩
        replace H : (if y141.length + y144.length < 4398046511104 then ((val_Compare.f a2_0 a2_1 a2_2 a3_0 a3_1 a3_2).bind fun t150 => (if t150 = 0 then (law05_ValRows.j0 k l0 l1 t125 y135 false) else ((val_Clean.f k y135 l1 (y141 ++ y144)).bind fun t151 => (law05_ValRows.j0 k l0 l1 t125 y135 (t151 != t150))))) else (none)) = some r := by first | (rw [hy144]; with_reducible exact H) | (have H2_ := (Option.bind_some _ _).symm.trans H; rw [hy144]; with_reducible exact H2_) | (have H2_ := (Option.bind_some _ _).symm.trans H; with_reducible exact H2_) | with_reducible exact H | (rw [hy144]; exact H) | exact H
        have Ny144 := Aside0.mk hy144
        clear hy144
        by_cases c9 : y141.length + y144.length < 4398046511104
        · rw [if_pos c9] at H
          have LMc9 := Aside0.mk c9
          clear c9
          obtain ⟨y147, hy147⟩ : ∃ y_ : List (S23), y_ = (y141 ++ y144) := ⟨_, rfl⟩
          replace H : ((val_Compare.f a2_0 a2_1 a2_2 a3_0 a3_1 a3_2).bind fun t150 => (if t150 = 0 then (law05_ValRows.j0 k l0 l1 t125 y135 false) else ((val_Clean.f k y135 l1 y147).bind fun t151 => (law05_ValRows.j0 k l0 l1 t125 y135 (t151 != t150))))) = some r := by first | (rw [hy147]; with_reducible exact H) | (have H2_ := (Option.bind_some _ _).symm.trans H; rw [hy147]; with_reducible exact H2_) | (have H2_ := (Option.bind_some _ _).symm.trans H; with_reducible exact H2_) | with_reducible exact H | (rw [hy147]; exact H) | exact H
          have Ny147 := Aside0.mk hy147
          clear hy147
          replace H := Option.bind_eq_some_iff.mp H
          obtain ⟨t150, A100, H⟩ := H
          replace H : (if t150 = 0 then (law05_ValRows.j0 k l0 l1 t125 y135 false) else ((val_Clean.f k y135 l1 y147).bind fun t151 => (law05_ValRows.j0 k l0 l1 t125 y135 (t151 != t150)))) = some r := H
          have A10 := Aside0.mk A100
          clear A100
          have HC11 := Aside0.mk H
          clear H
          go_enter Try.func5, Try.ntmps5
          try go_wp2_with (first | ((with_reducible refine gate_dst (N := 6) rfl ?_); refine box_event ?hg (N := 6) ?hd (cs := #[.int .i64 a2_0, .int .i64 a2_1, .string a2_2]) (t := 23) ?hr ?_; (case hd => rfl); (case hg => rfl); (case hr => first | (go_simp; done) | (go_simp; rfl)); intro gb123 hg w12 hbox hb; have n0_ := Aside0.mk (below_step (by repeat (first | (with_reducible first | exact HB.out | apply below_alloc | apply pw_below_drewN | apply below_drew1) | exact HB.out)) hb); have n1_ := Aside0.mk (hbox); have n2_ := Aside0.mk ((by rw [hg]; exact (below_size (by repeat (first | (with_reducible first | exact HB.out | apply below_alloc | apply pw_below_drewN | apply below_drew1) | exact HB.out))) : w.heap.size ≤ gb123)); have n3_ := Aside0.mk ((by rw [hg]; exact (below_size (by repeat (first | (with_reducible first | exact HB.out | apply below_alloc | apply pw_below_drewN | apply below_drew1) | exact HB.out))) : w.heap.size ≤ gb123)); clear HB; have HB := n0_; have BK123 := n1_; have GW123 := n2_; have GE123 := n3_; clear n0_ n1_ n2_ n3_; clear hb hbox hg) | ((with_reducible refine gate_dst (N := 7) rfl ?_); refine box_event ?hg (N := 7) ?hd (cs := #[.int .i64 a3_0, .int .i64 a3_1, .string a3_2]) (t := 23) ?hr ?_; (case hd => rfl); (case hg => rfl); (case hr => first | (go_simp; done) | (go_simp; rfl)); intro gb124 hg w13 hbox hb; have n0_ := Aside0.mk (blk_below (g := gb123) (o := .cells #[.int .i64 a2_0, .int .i64 a2_1, .string a2_2] 23 (0, 0)) (by (with_reducible repeat (first | refine blk_drewN ?_ _ | refine blk_drew ?_ | refine blk_alloc ?_ _)); exact BK123.out) hb); have n1_ := Aside0.mk (below_step (by repeat (first | (with_reducible first | exact HB.out | apply below_alloc | apply pw_below_drewN | apply below_drew1 | refine below_set ?_ GE123.out) | exact HB.out)) hb); have n2_ := Aside0.mk (hbox); have n3_ := Aside0.mk ((by rw [hg]; exact (below_size (by repeat (first | (with_reducible first | exact HB.out | apply below_alloc | apply pw_below_drewN | apply below_drew1 | refine below_set ?_ GE123.out) | exact HB.out))) : w.heap.size ≤ gb124)); have n4_ := Aside0.mk ((by rw [hg]; exact (below_size (by repeat (first | (with_reducible first | exact HB.out | apply below_alloc | apply pw_below_drewN | apply below_drew1 | refine below_set ?_ GE123.out) | exact HB.out))) : w.heap.size ≤ gb124)); have n5_ := Aside0.mk ((by rw [hg]; exact Nat.ne_of_lt (blk_lt (g := gb123) (o := .cells #[.int .i64 a2_0, .int .i64 a2_1, .string a2_2] 23 (0, 0)) (by (with_reducible repeat (first | refine blk_drewN ?_ _ | refine blk_drew ?_ | refine blk_alloc ?_ _)); exact BK123.out)) : gb123 ≠ gb124)); have n6_ := Aside0.mk ((by rw [hg]; exact Nat.ne_of_gt (blk_lt (g := gb123) (o := .cells #[.int .i64 a2_0, .int .i64 a2_1, .string a2_2] 23 (0, 0)) (by (with_reducible repeat (first | refine blk_drewN ?_ _ | refine blk_drew ?_ | refine blk_alloc ?_ _)); exact BK123.out)) : gb124 ≠ gb123)); clear BK123; clear HB; have BK123 := n0_; have HB := n1_; have BK124 := n2_; have GW124 := n3_; have GE124 := n4_; have NB123_124 := n5_; have NB124_123 := n6_; clear n0_ n1_ n2_ n3_ n4_ n5_ n6_; clear hb hbox hg) | ((with_reducible refine gate_callee (f := 9) rfl ?_); refine goesL_ (some 13) rfl rfl Try.func9 (by kernel_rfl) rfl #[] rfl (by (try simp only [List.map_toArray, List.map_cons, List.map_nil]); first | done | rfl | (simp only [List.length_drop, List.length_take]; rfl)) ?_; (with_reducible refine (law05_shown.calls  t125 _ A5.out).mono ?_); rintro e w14 ⟨rfl, hb⟩; refine ⟨_, rfl, ?_⟩; have n0_ := Aside0.mk (blk_below (g := gb123) (o := .cells #[.int .i64 a2_0, .int .i64 a2_1, .string a2_2] 23 (0, 0)) (by (with_reducible repeat (first | refine blk_drewN ?_ _ | refine blk_drew ?_ | refine blk_alloc ?_ _)); exact BK123.out) hb); have n1_ := Aside0.mk (blk_below (g := gb124) (o := .cells #[.int .i64 a3_0, .int .i64 a3_1, .string a3_2] 23 (0, 0)) (by (with_reducible repeat (first | refine blk_drewN ?_ _ | refine blk_drew ?_ | refine blk_alloc ?_ _)); exact BK124.out) hb); have n2_ := Aside0.mk (below_step (by repeat (first | (with_reducible first | exact HB.out | apply below_alloc | apply pw_below_drewN | apply below_drew1 | refine below_set ?_ GE123.out | refine below_set ?_ GE124.out) | exact HB.out)) hb); clear BK123; clear BK124; clear HB; have BK123 := n0_; have BK124 := n1_; have HB := n2_; clear n0_ n1_ n2_; (try clear hb); (try clear hb2); (try clear hk); (try clear hi)))
          have n0_ := Aside0.mk (blk_drew BK123.out)
          have n1_ := Aside0.mk (blk_drew BK124.out)
          have n2_ := Aside0.mk (below_drew1 HB.out)
          clear BK123
          clear BK124
          clear HB
          have BK123 := n0_
          have BK124 := n1_
          have HB := n2_
          clear n0_ n1_ n2_
          refine start_ (n := 7) (S := fun w' => w'.cell? ⟨gb123, 0, none⟩ = some (.int .i64 a2_0) ∧ w'.cell? ⟨gb123, 1, none⟩ = some (.int .i64 a2_1) ∧ w'.cell? ⟨gb123, 2, none⟩ = some (.string a2_2)) (ds := []) #[false, false, false, false, false, false, false] (by kernel_rfl) rfl rfl ⟨(blk_cell BK123.out 0).trans rfl, (blk_cell BK123.out 1).trans rfl, (blk_cell BK123.out 2).trans rfl⟩ (fun hHeld => ?_)
          generalize w14.drew = w15 at BK123 BK124 HB hHeld ⊢
          refine pure_ (i := 1) (N := some 15) (v := ?_) (a' := ?_) #[false, true, false, false, false, false, false] rfl rfl (by kernel_rfl) (fun _ _ _ h => h) (Or.inl ⟨by rfl, ?_⟩) ?_ ?_
          rotate_left
          · intro w'
            go_simp
            with_reducible rfl
          rotate_left
          · simp only [Act.put, List.setIfInBounds_toArray, List.set_cons_zero, List.set_cons_succ, i64_w, i32_w]
            rfl
          refine take_ (i := 3) (N := some 17) (v := ?_) (a' := ?_) #[false, true, false, true, false, false, false] rfl rfl (by kernel_rfl) (fun _ _ _ h => h) (Or.inl ⟨by rfl, ?_⟩) hHeld ?_ ?_
          rotate_left
          · rintro w' ⟨s0, s1, s2⟩
            go_simp
            with_reducible rfl
          rotate_left
          · simp only [Act.put, List.setIfInBounds_toArray, List.set_cons_zero, List.set_cons_succ, i64_w, i32_w]
            rfl
          refine join_ (σ := Value × Value × Value) 2 #[true, true, true, true, true, false, false] (fun s_ => [(14, s_.1), (16, s_.2.1), (18, s_.2.2)]) (fun s_ w' => (w'.cell? ⟨gb123, 0, none⟩ = some (.int .i64 a2_0) ∧ w'.cell? ⟨gb123, 1, none⟩ = some (.int .i64 a2_1) ∧ w'.cell? ⟨gb123, 2, none⟩ = some (.string a2_2)) ∧ (Kd.R k23 23 w' w.heap.size (fun k_ => some k_ ≠ (s_.2.2 : Value).ownBlock ∧ k_ ≠ gb123 ∧ k_ ≠ gb124) s_.2.1 y129) ∧ (Kd.R k23 23 w' w.heap.size (fun k_ => some k_ ≠ (s_.2.1 : Value).ownBlock ∧ k_ ≠ gb123 ∧ k_ ≠ gb124) s_.2.2 y132) ∧ (w'.heap[gb123]? = some (.cells #[.int .i64 a2_0, .int .i64 a2_1, .string a2_2] 23 (0, 0))) ∧ (w'.heap[gb124]? = some (.cells #[.int .i64 a3_0, .int .i64 a3_1, .string a3_2] 23 (0, 0))) ∧ (Below w.heap.size w w')) ?_ ?_
          rotate_left
          · intro hCont
            refine two_ (i := 0) (j := 4) (Ni := some 14) (Nj := some 18) #[true, true, false, true, false, false, false] #[false, true, false, true, true, false, false] rfl rfl rfl rfl (by kernel_rfl) (by decide) (by decide) (fun K hK => ?_) (fun K hK => ?_)
            · skip
              refine Kd.R_lit_step k23 _ 23 ?hg (N := 14) ?hd (xs := ([] : List (S23))) (inner := []) (ok := fun _ => True) (okp := fun _ => True) ?hr ?hp (fun _ hk => hk) trivial (Below.refl _ _) (Nat.le_refl _) (by simp) ?_; (case hd => rfl); (case hg => rfl); (case hr => first | (go_simp; done) | (go_simp; rfl)); (case hp => exact (Reps.none _ _))
              intro v127 w16 ho17 hb hg_ hnew_
              clear hg_ hnew_
              (first | rw [← Ny126.out] at ho17 | (simp only [Int.reduceToNat] at ho17; rw [← Ny126.out] at ho17))
              have n0_ := Aside0.mk (Kd.R_lower (Kd.R_newB (Kd.R_newB ho17 (g := gb123) (o := .cells #[.int .i64 a2_0, .int .i64 a2_1, .string a2_2] 23 (0, 0)) (by (with_reducible repeat (first | refine blk_drewN ?_ _ | refine blk_drew ?_ | refine blk_alloc ?_ _)); exact BK123.out)) (g := gb124) (o := .cells #[.int .i64 a3_0, .int .i64 a3_1, .string a3_2] 23 (0, 0)) (by (with_reducible repeat (first | refine blk_drewN ?_ _ | refine blk_drew ?_ | refine blk_alloc ?_ _)); exact BK124.out)) (below_size (by repeat (first | (with_reducible first | exact HB.out | apply below_alloc | apply pw_below_drewN | apply below_drew1 | refine below_set ?_ GE123.out | refine below_set ?_ GE124.out) | exact HB.out))))
              have n1_ := Aside0.mk (blk_below (g := gb123) (o := .cells #[.int .i64 a2_0, .int .i64 a2_1, .string a2_2] 23 (0, 0)) (by (with_reducible repeat (first | refine blk_drewN ?_ _ | refine blk_drew ?_ | refine blk_alloc ?_ _)); exact BK123.out) hb)
              have n2_ := Aside0.mk (blk_below (g := gb124) (o := .cells #[.int .i64 a3_0, .int .i64 a3_1, .string a3_2] 23 (0, 0)) (by (with_reducible repeat (first | refine blk_drewN ?_ _ | refine blk_drew ?_ | refine blk_alloc ?_ _)); exact BK124.out) hb)
              have n3_ := Aside0.mk (below_step (by repeat (first | (with_reducible first | exact HB.out | apply below_alloc | apply pw_below_drewN | apply below_drew1 | refine below_set ?_ GE123.out | refine below_set ?_ GE124.out) | exact HB.out)) hb)
              clear BK123
              clear BK124
              clear HB
              have HO128 := n0_
              have BK123 := n1_
              have BK124 := n2_
              have HB := n3_
              clear n0_ n1_ n2_ n3_
              clear hb ho17
              refine hK.out _ _ ⟨(blk_cell BK123.out 0).trans rfl, (blk_cell BK123.out 1).trans rfl, (blk_cell BK123.out 2).trans rfl⟩ (fun hHeld => ?_)
              clear hK K
              refine norm_ (a' := ?_) ?_ ?_
              rotate_left
              · show Act.put _ (some 14) _ = _
                simp only [Act.put, List.setIfInBounds_toArray, List.set_cons_zero, List.set_cons_succ, i64_w, i32_w]
                rfl
              refine two_ (i := 2) (j := 4) (Ni := some 16) (Nj := some 18) #[true, true, true, true, false, false, false] #[true, true, false, true, true, false, false] rfl rfl rfl rfl (by kernel_rfl) (by decide) (by decide) (fun K hK => ?_) (fun K hK => ?_)
              · skip
                refine Kd.R_append_rows_step k23 (w0 := w) w.heap.size (by rfl) (.tmp 14) (.tmp 15) 33 23 (.agg #[(.int .i64 0), (.int .i64 0), (.string ⟨#[]⟩)]) 32 rfl Try.underlying33 info23 rfl (by decide) (by omega) v127 y126 l0 _ _ _ (fun k_ => k_ ≠ gb123 ∧ k_ ≠ gb124) (fun _ => False) rfl rfl ?aO ?aR (fun _ _ h => h) (fun _ h => h.elim) ?aF ?aB ?aS ?aL ?_
                (case aR => repeat (first | exact (Kd.C_below HR0.out HB.out) | (with_reducible refine Kd.C_alloc ?_ _) | (with_reducible refine Kd.C_drewN ?_ _) | (with_reducible refine Kd.C_drew ?_)))
                (case aB => exact (by repeat (first | (with_reducible first | exact HB.out | apply below_alloc | apply pw_below_drewN | apply below_drew1 | refine below_set ?_ GE123.out | refine below_set ?_ GE124.out) | exact HB.out)))
                (case aF => exact (fun k_ hk => ⟨Kd.freshB (g := gb123) (o := .cells #[.int .i64 a2_0, .int .i64 a2_1, .string a2_2] 23 (0, 0)) (by (with_reducible repeat (first | refine blk_drewN ?_ _ | refine blk_drew ?_ | refine blk_alloc ?_ _)); exact BK123.out) k_ hk, Kd.freshB (g := gb124) (o := .cells #[.int .i64 a3_0, .int .i64 a3_1, .string a3_2] 23 (0, 0)) (by (with_reducible repeat (first | refine blk_drewN ?_ _ | refine blk_drew ?_ | refine blk_alloc ?_ _)); exact BK124.out) k_ hk⟩))
                (case aO => exact (by (with_reducible repeat (first | apply Kd.R_alloc | apply Kd.R_drewN | apply Kd.R_drew)); exact Kd.R_mono HO128.out (fun _ hk => ⟨hk.1.2, hk.2⟩)))
                (case aS => exact (below_size (by repeat (first | (with_reducible first | exact HB.out | apply below_alloc | apply pw_below_drewN | apply below_drew1 | refine below_set ?_ GE123.out | refine below_set ?_ GE124.out) | exact HB.out))))
                (case aL => have := LMc6.out; omega)
                intro v130 w18 ho hb hg hat
                rw [← Ny129.out] at ho
                have n0_ := Aside0.mk (blk_grown (g := gb123) (o := .cells #[.int .i64 a2_0, .int .i64 a2_1, .string a2_2] 23 (0, 0)) (by (with_reducible repeat (first | refine blk_drewN ?_ _ | refine blk_drew ?_ | refine blk_alloc ?_ _)); exact BK123.out) hg (Kd.R_away HO128.out (fun _ hk => hk.1.2)))
                have n1_ := Aside0.mk (blk_grown (g := gb124) (o := .cells #[.int .i64 a3_0, .int .i64 a3_1, .string a3_2] 23 (0, 0)) (by (with_reducible repeat (first | refine blk_drewN ?_ _ | refine blk_drew ?_ | refine blk_alloc ?_ _)); exact BK124.out) hg (Kd.R_away HO128.out (fun _ hk => hk.2)))
                have n2_ := Aside0.mk (hb)
                have n3_ := Aside0.mk (ho)
                clear BK123
                clear BK124
                clear HB
                clear HO128
                have BK123 := n0_
                have BK124 := n1_
                have HB := n2_
                have HO131 := n3_
                clear n0_ n1_ n2_ n3_
                clear ho hb hg hat
                refine hK.out _ _ ⟨(blk_cell BK123.out 0).trans rfl, (blk_cell BK123.out 1).trans rfl, (blk_cell BK123.out 2).trans rfl⟩ (fun hHeld => ?_)
                clear hK K
                refine norm_ (a' := ?_) ?_ ?_
                rotate_left
                · show Act.put _ (some 16) _ = _
                  simp only [Act.put, List.setIfInBounds_toArray, List.set_cons_zero, List.set_cons_succ, i64_w, i32_w]
                  rfl
                refine one_ (i := 4) (N := some 18) #[true, true, true, true, true, false, false] rfl rfl (by kernel_rfl) (by decide) (fun K hK => ?_)
                refine Kd.R_lit_step k23 _ 23 ?hg (N := 18) ?hd (xs := ([(⟨a2_0, a2_1, a2_2⟩ : S23)] : List (S23))) (inner := [.int .i64 a2_0, .int .i64 a2_1, .string a2_2]) (ok := fun _ => True) (okp := fun _ => True) ?hr ?hp (fun _ hk => hk) trivial (Below.refl _ _) (Nat.le_refl _) (by simp) ?_; (case hd => rfl); (case hg => rfl); (case hr => first | (go_simp; done) | (go_simp; rfl)); (case hp => exact (Reps.c3 (show Kd.M k23 _ _ _ (⟨a2_0, a2_1, a2_2⟩ : S23) [.int .i64 a2_0, .int .i64 a2_1, .string a2_2] from (k23_mkM _ _ _ (⟨a2_0, a2_1, a2_2⟩ : S23) )) (Reps.none _ _)))
                intro v133 w19 ho20 hb hg_ hnew_
                clear hg_ hnew_
                (first | rw [← Ny132.out] at ho20 | (simp only [Int.reduceToNat] at ho20; rw [← Ny132.out] at ho20))
                have n0_ := Aside0.mk (Kd.R_elder' (by (with_reducible repeat (first | apply Kd.R_alloc | apply Kd.R_drewN | apply Kd.R_drew)); exact HO131.out) (Kd.R_base ho20) hb)
                have n1_ := Aside0.mk (Kd.R_lower (Kd.R_newB (Kd.R_newB (Kd.R_new' ho20 (Kd.R_lt (by (with_reducible repeat (first | apply Kd.R_alloc | apply Kd.R_drewN | apply Kd.R_drew)); exact HO131.out))) (g := gb123) (o := .cells #[.int .i64 a2_0, .int .i64 a2_1, .string a2_2] 23 (0, 0)) (by (with_reducible repeat (first | refine blk_drewN ?_ _ | refine blk_drew ?_ | refine blk_alloc ?_ _)); exact BK123.out)) (g := gb124) (o := .cells #[.int .i64 a3_0, .int .i64 a3_1, .string a3_2] 23 (0, 0)) (by (with_reducible repeat (first | refine blk_drewN ?_ _ | refine blk_drew ?_ | refine blk_alloc ?_ _)); exact BK124.out)) (below_size (by repeat (first | (with_reducible first | exact HB.out | apply below_alloc | apply pw_below_drewN | apply below_drew1 | refine below_set ?_ GE123.out | refine below_set ?_ GE124.out) | exact HB.out))))
                have n2_ := Aside0.mk (blk_below (g := gb123) (o := .cells #[.int .i64 a2_0, .int .i64 a2_1, .string a2_2] 23 (0, 0)) (by (with_reducible repeat (first | refine blk_drewN ?_ _ | refine blk_drew ?_ | refine blk_alloc ?_ _)); exact BK123.out) hb)
                have n3_ := Aside0.mk (blk_below (g := gb124) (o := .cells #[.int .i64 a3_0, .int .i64 a3_1, .string a3_2] 23 (0, 0)) (by (with_reducible repeat (first | refine blk_drewN ?_ _ | refine blk_drew ?_ | refine blk_alloc ?_ _)); exact BK124.out) hb)
                have n4_ := Aside0.mk (below_step (by repeat (first | (with_reducible first | exact HB.out | apply below_alloc | apply pw_below_drewN | apply below_drew1 | refine below_set ?_ GE123.out | refine below_set ?_ GE124.out) | exact HB.out)) hb)
                clear HO131
                clear BK123
                clear BK124
                clear HB
                have HO131 := n0_
                have HO134 := n1_
                have BK123 := n2_
                have BK124 := n3_
                have HB := n4_
                clear n0_ n1_ n2_ n3_ n4_
                clear hb ho20
                refine hK.out _ _ ⟨(blk_cell BK123.out 0).trans rfl, (blk_cell BK123.out 1).trans rfl, (blk_cell BK123.out 2).trans rfl⟩ (fun hHeld => ?_)
                clear hK K
                refine norm_ (a' := ?_) ?_ ?_
                rotate_left
                · show Act.put _ (some 18) _ = _
                  simp only [Act.put, List.setIfInBounds_toArray, List.set_cons_zero, List.set_cons_succ, i64_w, i32_w]
                  rfl
                exact norm_ (by simp only [putAll, Act.put, List.setIfInBounds_toArray, List.set_cons_zero, List.set_cons_succ]) (hCont (v127, v130, v133) _ ⟨hHeld, (by (with_reducible repeat (first | apply Kd.R_alloc | apply Kd.R_drewN | apply Kd.R_drew)); exact Kd.R_mono HO131.out (fun _ hk => ⟨hk.2, ⟨hk.1.1, hk.1.2⟩⟩)), (by (with_reducible repeat (first | apply Kd.R_alloc | apply Kd.R_drewN | apply Kd.R_drew)); exact Kd.R_mono HO134.out (fun _ hk => ⟨hk.1.1.2, ⟨hk.1.2, hk.2⟩⟩)), (by (with_reducible repeat (first | refine blk_drewN ?_ _ | refine blk_drew ?_ | refine blk_alloc ?_ _)); exact BK123.out), (by (with_reducible repeat (first | refine blk_drewN ?_ _ | refine blk_drew ?_ | refine blk_alloc ?_ _)); exact BK124.out), (by repeat (first | (with_reducible first | exact HB.out | apply below_alloc | apply pw_below_drewN | apply below_drew1 | refine below_set ?_ GE123.out | refine below_set ?_ GE124.out) | exact HB.out))⟩)
              · skip
                refine Kd.R_lit_step k23 _ 23 ?hg (N := 18) ?hd (xs := ([(⟨a2_0, a2_1, a2_2⟩ : S23)] : List (S23))) (inner := [.int .i64 a2_0, .int .i64 a2_1, .string a2_2]) (ok := fun _ => True) (okp := fun _ => True) ?hr ?hp (fun _ hk => hk) trivial (Below.refl _ _) (Nat.le_refl _) (by simp) ?_; (case hd => rfl); (case hg => rfl); (case hr => first | (go_simp; done) | (go_simp; rfl)); (case hp => exact (Reps.c3 (show Kd.M k23 _ _ _ (⟨a2_0, a2_1, a2_2⟩ : S23) [.int .i64 a2_0, .int .i64 a2_1, .string a2_2] from (k23_mkM _ _ _ (⟨a2_0, a2_1, a2_2⟩ : S23) )) (Reps.none _ _)))
                intro v133 w18 ho19 hb hg_ hnew_
                clear hg_ hnew_
                (first | rw [← Ny132.out] at ho19 | (simp only [Int.reduceToNat] at ho19; rw [← Ny132.out] at ho19))
                have n0_ := Aside0.mk (Kd.R_elder' (by (with_reducible repeat (first | apply Kd.R_alloc | apply Kd.R_drewN | apply Kd.R_drew)); exact HO128.out) (Kd.R_base ho19) hb)
                have n1_ := Aside0.mk (Kd.R_lower (Kd.R_newB (Kd.R_newB (Kd.R_new' ho19 (Kd.R_lt (by (with_reducible repeat (first | apply Kd.R_alloc | apply Kd.R_drewN | apply Kd.R_drew)); exact HO128.out))) (g := gb123) (o := .cells #[.int .i64 a2_0, .int .i64 a2_1, .string a2_2] 23 (0, 0)) (by (with_reducible repeat (first | refine blk_drewN ?_ _ | refine blk_drew ?_ | refine blk_alloc ?_ _)); exact BK123.out)) (g := gb124) (o := .cells #[.int .i64 a3_0, .int .i64 a3_1, .string a3_2] 23 (0, 0)) (by (with_reducible repeat (first | refine blk_drewN ?_ _ | refine blk_drew ?_ | refine blk_alloc ?_ _)); exact BK124.out)) (below_size (by repeat (first | (with_reducible first | exact HB.out | apply below_alloc | apply pw_below_drewN | apply below_drew1 | refine below_set ?_ GE123.out | refine below_set ?_ GE124.out) | exact HB.out))))
                have n2_ := Aside0.mk (blk_below (g := gb123) (o := .cells #[.int .i64 a2_0, .int .i64 a2_1, .string a2_2] 23 (0, 0)) (by (with_reducible repeat (first | refine blk_drewN ?_ _ | refine blk_drew ?_ | refine blk_alloc ?_ _)); exact BK123.out) hb)
                have n3_ := Aside0.mk (blk_below (g := gb124) (o := .cells #[.int .i64 a3_0, .int .i64 a3_1, .string a3_2] 23 (0, 0)) (by (with_reducible repeat (first | refine blk_drewN ?_ _ | refine blk_drew ?_ | refine blk_alloc ?_ _)); exact BK124.out) hb)
                have n4_ := Aside0.mk (below_step (by repeat (first | (with_reducible first | exact HB.out | apply below_alloc | apply pw_below_drewN | apply below_drew1 | refine below_set ?_ GE123.out | refine below_set ?_ GE124.out) | exact HB.out)) hb)
                clear HO128
                clear BK123
                clear BK124
                clear HB
                have HO128 := n0_
                have HO134 := n1_
                have BK123 := n2_
                have BK124 := n3_
                have HB := n4_
                clear n0_ n1_ n2_ n3_ n4_
                clear hb ho19
                refine hK.out _ _ ⟨(blk_cell BK123.out 0).trans rfl, (blk_cell BK123.out 1).trans rfl, (blk_cell BK123.out 2).trans rfl⟩ (fun hHeld => ?_)
                clear hK K
                refine norm_ (a' := ?_) ?_ ?_
                rotate_left
                · show Act.put _ (some 18) _ = _
                  simp only [Act.put, List.setIfInBounds_toArray, List.set_cons_zero, List.set_cons_succ, i64_w, i32_w]
                  rfl
                refine one_ (i := 2) (N := some 16) #[true, true, true, true, true, false, false] rfl rfl (by kernel_rfl) (by decide) (fun K hK => ?_)
                refine Kd.R_append_rows_step k23 (w0 := w) w.heap.size (by rfl) (.tmp 14) (.tmp 15) 33 23 (.agg #[(.int .i64 0), (.int .i64 0), (.string ⟨#[]⟩)]) 32 rfl Try.underlying33 info23 rfl (by decide) (by omega) v127 y126 l0 _ _ _ (fun k_ => some k_ ≠ (v133 : Value).ownBlock ∧ k_ ≠ gb123 ∧ k_ ≠ gb124) (fun _ => False) rfl rfl ?aO ?aR (fun _ _ h => h) (fun _ h => h.elim) ?aF ?aB ?aS ?aL ?_
                (case aR => repeat (first | exact (Kd.C_below HR0.out HB.out) | (with_reducible refine Kd.C_alloc ?_ _) | (with_reducible refine Kd.C_drewN ?_ _) | (with_reducible refine Kd.C_drew ?_)))
                (case aB => exact (by repeat (first | (with_reducible first | exact HB.out | apply below_alloc | apply pw_below_drewN | apply below_drew1 | refine below_set ?_ GE123.out | refine below_set ?_ GE124.out) | exact HB.out)))
                (case aF => exact (fun k_ hk => ⟨Kd.fresh' (Kd.R_lt (by (with_reducible repeat (first | apply Kd.R_alloc | apply Kd.R_drewN | apply Kd.R_drew)); exact HO134.out)) k_ hk, Kd.freshB (g := gb123) (o := .cells #[.int .i64 a2_0, .int .i64 a2_1, .string a2_2] 23 (0, 0)) (by (with_reducible repeat (first | refine blk_drewN ?_ _ | refine blk_drew ?_ | refine blk_alloc ?_ _)); exact BK123.out) k_ hk, Kd.freshB (g := gb124) (o := .cells #[.int .i64 a3_0, .int .i64 a3_1, .string a3_2] 23 (0, 0)) (by (with_reducible repeat (first | refine blk_drewN ?_ _ | refine blk_drew ?_ | refine blk_alloc ?_ _)); exact BK124.out) k_ hk⟩))
                (case aO => exact (by (with_reducible repeat (first | apply Kd.R_alloc | apply Kd.R_drewN | apply Kd.R_drew)); exact Kd.R_mono HO128.out (fun _ hk => ⟨hk.2, ⟨hk.1.1.2, hk.1.2⟩⟩)))
                (case aS => exact (below_size (by repeat (first | (with_reducible first | exact HB.out | apply below_alloc | apply pw_below_drewN | apply below_drew1 | refine below_set ?_ GE123.out | refine below_set ?_ GE124.out) | exact HB.out))))
                (case aL => have := LMc6.out; omega)
                intro v130 w20 ho hb hg hat
                rw [← Ny129.out] at ho
                have n0_ := Aside0.mk (blk_grown (g := gb123) (o := .cells #[.int .i64 a2_0, .int .i64 a2_1, .string a2_2] 23 (0, 0)) (by (with_reducible repeat (first | refine blk_drewN ?_ _ | refine blk_drew ?_ | refine blk_alloc ?_ _)); exact BK123.out) hg (Kd.R_away HO128.out (fun _ hk => hk.1.1.2)))
                have n1_ := Aside0.mk (blk_grown (g := gb124) (o := .cells #[.int .i64 a3_0, .int .i64 a3_1, .string a3_2] 23 (0, 0)) (by (with_reducible repeat (first | refine blk_drewN ?_ _ | refine blk_drew ?_ | refine blk_alloc ?_ _)); exact BK124.out) hg (Kd.R_away HO128.out (fun _ hk => hk.1.2)))
                have n2_ := Aside0.mk (Kd.R_after (ok := (fun k_ => k_ ≠ gb123 ∧ k_ ≠ gb124)) (by (with_reducible repeat (first | apply Kd.R_alloc | apply Kd.R_drewN | apply Kd.R_drew)); exact Kd.R_mono HO134.out (fun _ hk => ⟨⟨hk.1.2, hk.2⟩, hk.1.1.2⟩)) hg hat)
                have n3_ := Aside0.mk (hb)
                have n4_ := Aside0.mk (ho)
                clear BK123
                clear BK124
                clear HO134
                clear HB
                clear HO128
                have BK123 := n0_
                have BK124 := n1_
                have HO134 := n2_
                have HB := n3_
                have HO131 := n4_
                clear n0_ n1_ n2_ n3_ n4_
                clear ho hb hg hat
                refine hK.out _ _ ⟨(blk_cell BK123.out 0).trans rfl, (blk_cell BK123.out 1).trans rfl, (blk_cell BK123.out 2).trans rfl⟩ (fun hHeld => ?_)
                clear hK K
                refine norm_ (a' := ?_) ?_ ?_
                rotate_left
                · show Act.put _ (some 16) _ = _
                  simp only [Act.put, List.setIfInBounds_toArray, List.set_cons_zero, List.set_cons_succ, i64_w, i32_w]
                  rfl
                exact norm_ (by simp only [putAll, Act.put, List.setIfInBounds_toArray, List.set_cons_zero, List.set_cons_succ]) (hCont (v127, v130, v133) _ ⟨hHeld, (by (with_reducible repeat (first | apply Kd.R_alloc | apply Kd.R_drewN | apply Kd.R_drew)); exact HO131.out), (by (with_reducible repeat (first | apply Kd.R_alloc | apply Kd.R_drewN | apply Kd.R_drew)); exact Kd.R_mono HO134.out (fun _ hk => ⟨hk.2, ⟨hk.1.1, hk.1.2⟩⟩)), (by (with_reducible repeat (first | refine blk_drewN ?_ _ | refine blk_drew ?_ | refine blk_alloc ?_ _)); exact BK123.out), (by (with_reducible repeat (first | refine blk_drewN ?_ _ | refine blk_drew ?_ | refine blk_alloc ?_ _)); exact BK124.out), (by repeat (first | (with_reducible first | exact HB.out | apply below_alloc | apply pw_below_drewN | apply below_drew1 | refine below_set ?_ GE123.out | refine below_set ?_ GE124.out) | exact HB.out))⟩)
            · skip
              refine Kd.R_lit_step k23 _ 23 ?hg (N := 18) ?hd (xs := ([(⟨a2_0, a2_1, a2_2⟩ : S23)] : List (S23))) (inner := [.int .i64 a2_0, .int .i64 a2_1, .string a2_2]) (ok := fun _ => True) (okp := fun _ => True) ?hr ?hp (fun _ hk => hk) trivial (Below.refl _ _) (Nat.le_refl _) (by simp) ?_; (case hd => rfl); (case hg => rfl); (case hr => first | (go_simp; done) | (go_simp; rfl)); (case hp => exact (Reps.c3 (show Kd.M k23 _ _ _ (⟨a2_0, a2_1, a2_2⟩ : S23) [.int .i64 a2_0, .int .i64 a2_1, .string a2_2] from (k23_mkM _ _ _ (⟨a2_0, a2_1, a2_2⟩ : S23) )) (Reps.none _ _)))
              intro v133 w16 ho17 hb hg_ hnew_
              clear hg_ hnew_
              (first | rw [← Ny132.out] at ho17 | (simp only [Int.reduceToNat] at ho17; rw [← Ny132.out] at ho17))
              have n0_ := Aside0.mk (Kd.R_lower (Kd.R_newB (Kd.R_newB ho17 (g := gb123) (o := .cells #[.int .i64 a2_0, .int .i64 a2_1, .string a2_2] 23 (0, 0)) (by (with_reducible repeat (first | refine blk_drewN ?_ _ | refine blk_drew ?_ | refine blk_alloc ?_ _)); exact BK123.out)) (g := gb124) (o := .cells #[.int .i64 a3_0, .int .i64 a3_1, .string a3_2] 23 (0, 0)) (by (with_reducible repeat (first | refine blk_drewN ?_ _ | refine blk_drew ?_ | refine blk_alloc ?_ _)); exact BK124.out)) (below_size (by repeat (first | (with_reducible first | exact HB.out | apply below_alloc | apply pw_below_drewN | apply below_drew1 | refine below_set ?_ GE123.out | refine below_set ?_ GE124.out) | exact HB.out))))
              have n1_ := Aside0.mk (blk_below (g := gb123) (o := .cells #[.int .i64 a2_0, .int .i64 a2_1, .string a2_2] 23 (0, 0)) (by (with_reducible repeat (first | refine blk_drewN ?_ _ | refine blk_drew ?_ | refine blk_alloc ?_ _)); exact BK123.out) hb)
              have n2_ := Aside0.mk (blk_below (g := gb124) (o := .cells #[.int .i64 a3_0, .int .i64 a3_1, .string a3_2] 23 (0, 0)) (by (with_reducible repeat (first | refine blk_drewN ?_ _ | refine blk_drew ?_ | refine blk_alloc ?_ _)); exact BK124.out) hb)
              have n3_ := Aside0.mk (below_step (by repeat (first | (with_reducible first | exact HB.out | apply below_alloc | apply pw_below_drewN | apply below_drew1 | refine below_set ?_ GE123.out | refine below_set ?_ GE124.out) | exact HB.out)) hb)
              clear BK123
              clear BK124
              clear HB
              have HO134 := n0_
              have BK123 := n1_
              have BK124 := n2_
              have HB := n3_
              clear n0_ n1_ n2_ n3_
              clear hb ho17
              refine hK.out _ _ ⟨(blk_cell BK123.out 0).trans rfl, (blk_cell BK123.out 1).trans rfl, (blk_cell BK123.out 2).trans rfl⟩ (fun hHeld => ?_)
              clear hK K
              refine norm_ (a' := ?_) ?_ ?_
              rotate_left
              · show Act.put _ (some 18) _ = _
                simp only [Act.put, List.setIfInBounds_toArray, List.set_cons_zero, List.set_cons_succ, i64_w, i32_w]
                rfl
              refine one_ (i := 0) (N := some 14) #[true, true, false, true, true, false, false] rfl rfl (by kernel_rfl) (by decide) (fun K hK => ?_)
              refine Kd.R_lit_step k23 _ 23 ?hg (N := 14) ?hd (xs := ([] : List (S23))) (inner := []) (ok := fun _ => True) (okp := fun _ => True) ?hr ?hp (fun _ hk => hk) trivial (Below.refl _ _) (Nat.le_refl _) (by simp) ?_; (case hd => rfl); (case hg => rfl); (case hr => first | (go_simp; done) | (go_simp; rfl)); (case hp => exact (Reps.none _ _))
              intro v127 w18 ho19 hb hg_ hnew_
              clear hg_ hnew_
              (first | rw [← Ny126.out] at ho19 | (simp only [Int.reduceToNat] at ho19; rw [← Ny126.out] at ho19))
              have n0_ := Aside0.mk (Kd.R_elder' (by (with_reducible repeat (first | apply Kd.R_alloc | apply Kd.R_drewN | apply Kd.R_drew)); exact HO134.out) (Kd.R_base ho19) hb)
              have n1_ := Aside0.mk (Kd.R_lower (Kd.R_newB (Kd.R_newB (Kd.R_new' ho19 (Kd.R_lt (by (with_reducible repeat (first | apply Kd.R_alloc | apply Kd.R_drewN | apply Kd.R_drew)); exact HO134.out))) (g := gb123) (o := .cells #[.int .i64 a2_0, .int .i64 a2_1, .string a2_2] 23 (0, 0)) (by (with_reducible repeat (first | refine blk_drewN ?_ _ | refine blk_drew ?_ | refine blk_alloc ?_ _)); exact BK123.out)) (g := gb124) (o := .cells #[.int .i64 a3_0, .int .i64 a3_1, .string a3_2] 23 (0, 0)) (by (with_reducible repeat (first | refine blk_drewN ?_ _ | refine blk_drew ?_ | refine blk_alloc ?_ _)); exact BK124.out)) (below_size (by repeat (first | (with_reducible first | exact HB.out | apply below_alloc | apply pw_below_drewN | apply below_drew1 | refine below_set ?_ GE123.out | refine below_set ?_ GE124.out) | exact HB.out))))
              have n2_ := Aside0.mk (blk_below (g := gb123) (o := .cells #[.int .i64 a2_0, .int .i64 a2_1, .string a2_2] 23 (0, 0)) (by (with_reducible repeat (first | refine blk_drewN ?_ _ | refine blk_drew ?_ | refine blk_alloc ?_ _)); exact BK123.out) hb)
              have n3_ := Aside0.mk (blk_below (g := gb124) (o := .cells #[.int .i64 a3_0, .int .i64 a3_1, .string a3_2] 23 (0, 0)) (by (with_reducible repeat (first | refine blk_drewN ?_ _ | refine blk_drew ?_ | refine blk_alloc ?_ _)); exact BK124.out) hb)
              have n4_ := Aside0.mk (below_step (by repeat (first | (with_reducible first | exact HB.out | apply below_alloc | apply pw_below_drewN | apply below_drew1 | refine below_set ?_ GE123.out | refine below_set ?_ GE124.out) | exact HB.out)) hb)
              clear HO134
              clear BK123
              clear BK124
              clear HB
              have HO134 := n0_
              have HO128 := n1_
              have BK123 := n2_
              have BK124 := n3_
              have HB := n4_
              clear n0_ n1_ n2_ n3_ n4_
              clear hb ho19
              refine hK.out _ _ ⟨(blk_cell BK123.out 0).trans rfl, (blk_cell BK123.out 1).trans rfl, (blk_cell BK123.out 2).trans rfl⟩ (fun hHeld => ?_)
              clear hK K
              refine norm_ (a' := ?_) ?_ ?_
              rotate_left
              · show Act.put _ (some 14) _ = _
                simp only [Act.put, List.setIfInBounds_toArray, List.set_cons_zero, List.set_cons_succ, i64_w, i32_w]
                rfl
              refine one_ (i := 2) (N := some 16) #[true, true, true, true, true, false, false] rfl rfl (by kernel_rfl) (by decide) (fun K hK => ?_)
              refine Kd.R_append_rows_step k23 (w0 := w) w.heap.size (by rfl) (.tmp 14) (.tmp 15) 33 23 (.agg #[(.int .i64 0), (.int .i64 0), (.string ⟨#[]⟩)]) 32 rfl Try.underlying33 info23 rfl (by decide) (by omega) v127 y126 l0 _ _ _ (fun k_ => some k_ ≠ (v133 : Value).ownBlock ∧ k_ ≠ gb123 ∧ k_ ≠ gb124) (fun _ => False) rfl rfl ?aO ?aR (fun _ _ h => h) (fun _ h => h.elim) ?aF ?aB ?aS ?aL ?_
              (case aR => repeat (first | exact (Kd.C_below HR0.out HB.out) | (with_reducible refine Kd.C_alloc ?_ _) | (with_reducible refine Kd.C_drewN ?_ _) | (with_reducible refine Kd.C_drew ?_)))
              (case aB => exact (by repeat (first | (with_reducible first | exact HB.out | apply below_alloc | apply pw_below_drewN | apply below_drew1 | refine below_set ?_ GE123.out | refine below_set ?_ GE124.out) | exact HB.out)))
              (case aF => exact (fun k_ hk => ⟨Kd.fresh' (Kd.R_lt (by (with_reducible repeat (first | apply Kd.R_alloc | apply Kd.R_drewN | apply Kd.R_drew)); exact HO134.out)) k_ hk, Kd.freshB (g := gb123) (o := .cells #[.int .i64 a2_0, .int .i64 a2_1, .string a2_2] 23 (0, 0)) (by (with_reducible repeat (first | refine blk_drewN ?_ _ | refine blk_drew ?_ | refine blk_alloc ?_ _)); exact BK123.out) k_ hk, Kd.freshB (g := gb124) (o := .cells #[.int .i64 a3_0, .int .i64 a3_1, .string a3_2] 23 (0, 0)) (by (with_reducible repeat (first | refine blk_drewN ?_ _ | refine blk_drew ?_ | refine blk_alloc ?_ _)); exact BK124.out) k_ hk⟩))
              (case aO => exact (by (with_reducible repeat (first | apply Kd.R_alloc | apply Kd.R_drewN | apply Kd.R_drew)); exact Kd.R_mono HO128.out (fun _ hk => ⟨hk.1.1.2, ⟨hk.1.2, hk.2⟩⟩)))
              (case aS => exact (below_size (by repeat (first | (with_reducible first | exact HB.out | apply below_alloc | apply pw_below_drewN | apply below_drew1 | refine below_set ?_ GE123.out | refine below_set ?_ GE124.out) | exact HB.out))))
              (case aL => have := LMc6.out; omega)
              intro v130 w20 ho hb hg hat
              rw [← Ny129.out] at ho
              have n0_ := Aside0.mk (blk_grown (g := gb123) (o := .cells #[.int .i64 a2_0, .int .i64 a2_1, .string a2_2] 23 (0, 0)) (by (with_reducible repeat (first | refine blk_drewN ?_ _ | refine blk_drew ?_ | refine blk_alloc ?_ _)); exact BK123.out) hg (Kd.R_away HO128.out (fun _ hk => hk.1.2)))
              have n1_ := Aside0.mk (blk_grown (g := gb124) (o := .cells #[.int .i64 a3_0, .int .i64 a3_1, .string a3_2] 23 (0, 0)) (by (with_reducible repeat (first | refine blk_drewN ?_ _ | refine blk_drew ?_ | refine blk_alloc ?_ _)); exact BK124.out) hg (Kd.R_away HO128.out (fun _ hk => hk.2)))
              have n2_ := Aside0.mk (Kd.R_after (ok := (fun k_ => k_ ≠ gb123 ∧ k_ ≠ gb124)) (by (with_reducible repeat (first | apply Kd.R_alloc | apply Kd.R_drewN | apply Kd.R_drew)); exact Kd.R_mono HO134.out (fun _ hk => ⟨⟨hk.1.1.2, hk.1.2⟩, hk.2⟩)) hg hat)
              have n3_ := Aside0.mk (hb)
              have n4_ := Aside0.mk (ho)
              clear BK123
              clear BK124
              clear HO134
              clear HB
              clear HO128
              have BK123 := n0_
              have BK124 := n1_
              have HO134 := n2_
              have HB := n3_
              have HO131 := n4_
              clear n0_ n1_ n2_ n3_ n4_
              clear ho hb hg hat
              refine hK.out _ _ ⟨(blk_cell BK123.out 0).trans rfl, (blk_cell BK123.out 1).trans rfl, (blk_cell BK123.out 2).trans rfl⟩ (fun hHeld => ?_)
              clear hK K
              refine norm_ (a' := ?_) ?_ ?_
              rotate_left
              · show Act.put _ (some 16) _ = _
                simp only [Act.put, List.setIfInBounds_toArray, List.set_cons_zero, List.set_cons_succ, i64_w, i32_w]
                rfl
              exact norm_ (by simp only [putAll, Act.put, List.setIfInBounds_toArray, List.set_cons_zero, List.set_cons_succ]) (hCont (v127, v130, v133) _ ⟨hHeld, (by (with_reducible repeat (first | apply Kd.R_alloc | apply Kd.R_drewN | apply Kd.R_drew)); exact HO131.out), (by (with_reducible repeat (first | apply Kd.R_alloc | apply Kd.R_drewN | apply Kd.R_drew)); exact Kd.R_mono HO134.out (fun _ hk => ⟨hk.2, ⟨hk.1.1, hk.1.2⟩⟩)), (by (with_reducible repeat (first | refine blk_drewN ?_ _ | refine blk_drew ?_ | refine blk_alloc ?_ _)); exact BK123.out), (by (with_reducible repeat (first | refine blk_drewN ?_ _ | refine blk_drew ?_ | refine blk_alloc ?_ _)); exact BK124.out), (by repeat (first | (with_reducible first | exact HB.out | apply below_alloc | apply pw_below_drewN | apply below_drew1 | refine below_set ?_ GE123.out | refine below_set ?_ GE124.out) | exact HB.out))⟩)
          rintro ⟨v127, v130, v133⟩ w21 ⟨hS_, h0_, h1_, h2_, h3_, h4_⟩
          have n0_ : Aside0 (Kd.R k23 23 w21 w.heap.size (fun k_ => some k_ ≠ (v133 : Value).ownBlock ∧ k_ ≠ gb123 ∧ k_ ≠ gb124) v130 y129) := ⟨h0_⟩
          have n1_ : Aside0 (Kd.R k23 23 w21 w.heap.size (fun k_ => some k_ ≠ (v130 : Value).ownBlock ∧ k_ ≠ gb123 ∧ k_ ≠ gb124) v133 y132) := ⟨h1_⟩
          have n2_ : Aside0 (w21.heap[gb123]? = some (.cells #[.int .i64 a2_0, .int .i64 a2_1, .string a2_2] 23 (0, 0))) := ⟨h2_⟩
          have n3_ : Aside0 (w21.heap[gb124]? = some (.cells #[.int .i64 a3_0, .int .i64 a3_1, .string a3_2] 23 (0, 0))) := ⟨h3_⟩
          have n4_ : Aside0 (Below w.heap.size w w21) := ⟨h4_⟩
          clear BK123
          clear BK124
          clear HB
          clear h0_ h1_ h2_ h3_ h4_
          have HO131 := n0_
          have HO134 := n1_
          have BK123 := n2_
          have BK124 := n3_
          have HB := n4_
          clear n0_ n1_ n2_ n3_ n4_
          have hHeld : w21.cell? ⟨gb123, 0, none⟩ = some (.int .i64 a2_0) ∧ w21.cell? ⟨gb123, 1, none⟩ = some (.int .i64 a2_1) ∧ w21.cell? ⟨gb123, 2, none⟩ = some (.string a2_2) := hS_
          obtain ⟨Ao23, co23, eo23⟩ := Kd.R_slice HO134.out
          (first | subst eo23 | (injection eo23 with f1_ f2_ f3_; have f4_ := f1_.symm; have f5_ := f3_.symm; clear f1_ f2_ f3_; subst f4_; subst f5_))
          refine norm_ (a' := ?_) ?_ ?_
          rotate_left
          · simp only [putAll, Act.put, List.setIfInBounds_toArray, List.set_cons_zero, List.set_cons_succ]
            rfl
          refine one_ (i := 5) (N := some 19) #[true, true, true, true, true, true, false] rfl rfl (by kernel_rfl) (by decide) (fun K hK => ?_)
          refine Kd.R_append_rows_step k23 (w0 := w) w.heap.size (by rfl) (.tmp 16) (.tmp 18) 33 23 (.agg #[(.int .i64 0), (.int .i64 0), (.string ⟨#[]⟩)]) 32 rfl Try.underlying33 info23 rfl (by decide) (by omega) v130 y129 y132 _ _ _ (fun k_ => some k_ ≠ (.slice Ao23 y132.length co23 : Value).ownBlock ∧ k_ ≠ gb123 ∧ k_ ≠ gb124) (fun _ => False) rfl rfl ?aO ?aR (fun _ _ h => h) (fun _ h => h.elim) ?aF ?aB ?aS ?aL ?_
          (case aR => repeat (first | exact (Kd.R_reads' HO134.out).2.2 | (with_reducible refine Kd.C_alloc ?_ _) | (with_reducible refine Kd.C_drewN ?_ _) | (with_reducible refine Kd.C_drew ?_)))
          (case aB => exact (by repeat (first | (with_reducible first | exact HB.out | apply below_alloc | apply pw_below_drewN | apply below_drew1 | refine below_set ?_ GE123.out | refine below_set ?_ GE124.out) | exact HB.out)))
          (case aF => exact (fun k_ hk => ⟨Kd.fresh' (Kd.R_lt (by (with_reducible repeat (first | apply Kd.R_alloc | apply Kd.R_drewN | apply Kd.R_drew)); exact HO134.out)) k_ hk, Kd.freshB (g := gb123) (o := .cells #[.int .i64 a2_0, .int .i64 a2_1, .string a2_2] 23 (0, 0)) (by (with_reducible repeat (first | refine blk_drewN ?_ _ | refine blk_drew ?_ | refine blk_alloc ?_ _)); exact BK123.out) k_ hk, Kd.freshB (g := gb124) (o := .cells #[.int .i64 a3_0, .int .i64 a3_1, .string a3_2] 23 (0, 0)) (by (with_reducible repeat (first | refine blk_drewN ?_ _ | refine blk_drew ?_ | refine blk_alloc ?_ _)); exact BK124.out) k_ hk⟩))
          (case aO => exact (by (with_reducible repeat (first | apply Kd.R_alloc | apply Kd.R_drewN | apply Kd.R_drew)); exact HO131.out))
          (case aS => exact (below_size (by repeat (first | (with_reducible first | exact HB.out | apply below_alloc | apply pw_below_drewN | apply below_drew1 | refine below_set ?_ GE123.out | refine below_set ?_ GE124.out) | exact HB.out))))
          (case aL => have := LMc7.out; omega)
          intro v136 w22 ho hb hg hat
          rw [← Ny135.out] at ho
          have n0_ := Aside0.mk (blk_grown (g := gb123) (o := .cells #[.int .i64 a2_0, .int .i64 a2_1, .string a2_2] 23 (0, 0)) (by (with_reducible repeat (first | refine blk_drewN ?_ _ | refine blk_drew ?_ | refine blk_alloc ?_ _)); exact BK123.out) hg (Kd.R_away HO131.out (fun _ hk => hk.2.1)))
          have n1_ := Aside0.mk (blk_grown (g := gb124) (o := .cells #[.int .i64 a3_0, .int .i64 a3_1, .string a3_2] 23 (0, 0)) (by (with_reducible repeat (first | refine blk_drewN ?_ _ | refine blk_drew ?_ | refine blk_alloc ?_ _)); exact BK124.out) hg (Kd.R_away HO131.out (fun _ hk => hk.2.2)))
          have n2_ := Aside0.mk (Kd.R_after (ok := (fun k_ => k_ ≠ gb123 ∧ k_ ≠ gb124)) (by (with_reducible repeat (first | apply Kd.R_alloc | apply Kd.R_drewN | apply Kd.R_drew)); exact Kd.R_mono HO134.out (fun _ hk => ⟨⟨hk.2.1, hk.2.2⟩, hk.1⟩)) hg hat)
          have n3_ := Aside0.mk (hb)
          have n4_ := Aside0.mk (ho)
          clear BK123
          clear BK124
          clear HO134
          clear HB
          clear HO131
          have BK123 := n0_
          have BK124 := n1_
          have HO134 := n2_
          have HB := n3_
          have HO137 := n4_
          clear n0_ n1_ n2_ n3_ n4_
          clear ho hb hg hat
          refine hK.out _ _ ⟨(blk_cell BK123.out 0).trans rfl, (blk_cell BK123.out 1).trans rfl, (blk_cell BK123.out 2).trans rfl⟩ (fun hHeld => ?_)
          clear hK K
          refine norm_ (a' := ?_) ?_ ?_
          rotate_left
          · show Act.put _ (some 19) _ = _
            simp only [Act.put, List.setIfInBounds_toArray, List.set_cons_zero, List.set_cons_succ, i64_w, i32_w]
            rfl
          refine pure_ (i := 6) (N := some 10) (v := ?_) (a' := ?_) #[true, true, true, true, true, true, true] rfl rfl (by kernel_rfl) (fun _ _ _ h => h) (Or.inl ⟨by rfl, ?_⟩) ?_ ?_
          rotate_left
          · intro w'
            go_simp
            with_reducible rfl
          rotate_left
          · simp only [Act.put, List.setIfInBounds_toArray, List.set_cons_zero, List.set_cons_succ, i64_w, i32_w]
            rfl
          refine done_ (by kernel_rfl) ?_
          try go_wp2
          have n0_ := Aside0.mk (Kd.R_drew HO134.out)
          have n1_ := Aside0.mk (Kd.R_drew HO137.out)
          have n2_ := Aside0.mk (blk_drew BK123.out)
          have n3_ := Aside0.mk (blk_drew BK124.out)
          have n4_ := Aside0.mk (below_drew1 HB.out)
          clear HO134
          clear HO137
          clear BK123
          clear BK124
          clear HB
          have HO134 := n0_
          have HO137 := n1_
          have BK123 := n2_
          have BK124 := n3_
          have HB := n4_
          clear n0_ n1_ n2_ n3_ n4_
          refine start_ (n := 7) (S := fun w' => w'.cell? ⟨gb124, 0, none⟩ = some (.int .i64 a3_0) ∧ w'.cell? ⟨gb124, 1, none⟩ = some (.int .i64 a3_1) ∧ w'.cell? ⟨gb124, 2, none⟩ = some (.string a3_2)) (ds := []) #[false, false, false, false, false, false, false] (by kernel_rfl) rfl rfl ⟨(blk_cell BK124.out 0).trans rfl, (blk_cell BK124.out 1).trans rfl, (blk_cell BK124.out 2).trans rfl⟩ (fun hHeld => ?_)
          generalize w22.drew = w24 at HO134 HO137 BK123 BK124 HB hHeld ⊢
          refine pure_ (i := 1) (N := some 21) (v := ?_) (a' := ?_) #[false, true, false, false, false, false, false] rfl rfl (by kernel_rfl) (fun _ _ _ h => h) (Or.inl ⟨by rfl, ?_⟩) ?_ ?_
          rotate_left
          · intro w'
            go_simp
            with_reducible rfl
          rotate_left
          · simp only [Act.put, List.setIfInBounds_toArray, List.set_cons_zero, List.set_cons_succ, i64_w, i32_w]
            rfl
          refine take_ (i := 3) (N := some 23) (v := ?_) (a' := ?_) #[false, true, false, true, false, false, false] rfl rfl (by kernel_rfl) (fun _ _ _ h => h) (Or.inl ⟨by rfl, ?_⟩) hHeld ?_ ?_
          rotate_left
          · rintro w' ⟨s0, s1, s2⟩
            go_simp
            with_reducible rfl
          rotate_left
          · simp only [Act.put, List.setIfInBounds_toArray, List.set_cons_zero, List.set_cons_succ, i64_w, i32_w]
            rfl
          refine join_ (σ := Value × Value × Value) 2 #[true, true, true, true, true, false, false] (fun s_ => [(20, s_.1), (22, s_.2.1), (24, s_.2.2)]) (fun s_ w' => (w'.cell? ⟨gb124, 0, none⟩ = some (.int .i64 a3_0) ∧ w'.cell? ⟨gb124, 1, none⟩ = some (.int .i64 a3_1) ∧ w'.cell? ⟨gb124, 2, none⟩ = some (.string a3_2)) ∧ (Kd.R k23 23 w' w.heap.size (fun k_ => some k_ ≠ (v136 : Value).ownBlock ∧ some k_ ≠ (s_.2.1 : Value).ownBlock ∧ some k_ ≠ (s_.2.2 : Value).ownBlock ∧ k_ ≠ gb123 ∧ k_ ≠ gb124) (.slice Ao23 y132.length co23) y132) ∧ (Kd.R k23 23 w' w.heap.size (fun k_ => some k_ ≠ (.slice Ao23 y132.length co23 : Value).ownBlock ∧ some k_ ≠ (s_.2.1 : Value).ownBlock ∧ some k_ ≠ (s_.2.2 : Value).ownBlock ∧ k_ ≠ gb123 ∧ k_ ≠ gb124) v136 y135) ∧ (Kd.R k23 23 w' w.heap.size (fun k_ => some k_ ≠ (.slice Ao23 y132.length co23 : Value).ownBlock ∧ some k_ ≠ (v136 : Value).ownBlock ∧ some k_ ≠ (s_.2.2 : Value).ownBlock ∧ k_ ≠ gb123 ∧ k_ ≠ gb124) s_.2.1 y141) ∧ (Kd.R k23 23 w' w.heap.size (fun k_ => some k_ ≠ (.slice Ao23 y132.length co23 : Value).ownBlock ∧ some k_ ≠ (v136 : Value).ownBlock ∧ some k_ ≠ (s_.2.1 : Value).ownBlock ∧ k_ ≠ gb123 ∧ k_ ≠ gb124) s_.2.2 y144) ∧ (w'.heap[gb123]? = some (.cells #[.int .i64 a2_0, .int .i64 a2_1, .string a2_2] 23 (0, 0))) ∧ (w'.heap[gb124]? = some (.cells #[.int .i64 a3_0, .int .i64 a3_1, .string a3_2] 23 (0, 0))) ∧ (Below w.heap.size w w')) ?_ ?_
          rotate_left
          · intro hCont
            refine two_ (i := 0) (j := 4) (Ni := some 20) (Nj := some 24) #[true, true, false, true, false, false, false] #[false, true, false, true, true, false, false] rfl rfl rfl rfl (by kernel_rfl) (by decide) (by decide) (fun K hK => ?_) (fun K hK => ?_)
            · skip
              refine Kd.R_lit_step k23 _ 23 ?hg (N := 20) ?hd (xs := ([] : List (S23))) (inner := []) (ok := fun _ => True) (okp := fun _ => True) ?hr ?hp (fun _ hk => hk) trivial (Below.refl _ _) (Nat.le_refl _) (by simp) ?_; (case hd => rfl); (case hg => rfl); (case hr => first | (go_simp; done) | (go_simp; rfl)); (case hp => exact (Reps.none _ _))
              intro v139 w25 ho26 hb hg_ hnew_
              clear hg_ hnew_
              (first | rw [← Ny138.out] at ho26 | (simp only [Int.reduceToNat] at ho26; rw [← Ny138.out] at ho26))
              have n0_ := Aside0.mk (Kd.R_elder' (by (with_reducible repeat (first | apply Kd.R_alloc | apply Kd.R_drewN | apply Kd.R_drew)); exact HO134.out) (Kd.R_base ho26) hb)
              have n1_ := Aside0.mk (Kd.R_elder' (by (with_reducible repeat (first | apply Kd.R_alloc | apply Kd.R_drewN | apply Kd.R_drew)); exact HO137.out) (Kd.R_base ho26) hb)
              have n2_ := Aside0.mk (Kd.R_lower (Kd.R_newB (Kd.R_newB (Kd.R_new' (Kd.R_new' ho26 (Kd.R_lt (by (with_reducible repeat (first | apply Kd.R_alloc | apply Kd.R_drewN | apply Kd.R_drew)); exact HO134.out))) (Kd.R_lt (by (with_reducible repeat (first | apply Kd.R_alloc | apply Kd.R_drewN | apply Kd.R_drew)); exact HO137.out))) (g := gb123) (o := .cells #[.int .i64 a2_0, .int .i64 a2_1, .string a2_2] 23 (0, 0)) (by (with_reducible repeat (first | refine blk_drewN ?_ _ | refine blk_drew ?_ | refine blk_alloc ?_ _)); exact BK123.out)) (g := gb124) (o := .cells #[.int .i64 a3_0, .int .i64 a3_1, .string a3_2] 23 (0, 0)) (by (with_reducible repeat (first | refine blk_drewN ?_ _ | refine blk_drew ?_ | refine blk_alloc ?_ _)); exact BK124.out)) (below_size (by repeat (first | (with_reducible first | exact HB.out | apply below_alloc | apply pw_below_drewN | apply below_drew1 | refine below_set ?_ GE123.out | refine below_set ?_ GE124.out) | exact HB.out))))
              have n3_ := Aside0.mk (blk_below (g := gb123) (o := .cells #[.int .i64 a2_0, .int .i64 a2_1, .string a2_2] 23 (0, 0)) (by (with_reducible repeat (first | refine blk_drewN ?_ _ | refine blk_drew ?_ | refine blk_alloc ?_ _)); exact BK123.out) hb)
              have n4_ := Aside0.mk (blk_below (g := gb124) (o := .cells #[.int .i64 a3_0, .int .i64 a3_1, .string a3_2] 23 (0, 0)) (by (with_reducible repeat (first | refine blk_drewN ?_ _ | refine blk_drew ?_ | refine blk_alloc ?_ _)); exact BK124.out) hb)
              have n5_ := Aside0.mk (below_step (by repeat (first | (with_reducible first | exact HB.out | apply below_alloc | apply pw_below_drewN | apply below_drew1 | refine below_set ?_ GE123.out | refine below_set ?_ GE124.out) | exact HB.out)) hb)
              clear HO134
              clear HO137
              clear BK123
              clear BK124
              clear HB
              have HO134 := n0_
              have HO137 := n1_
              have HO140 := n2_
              have BK123 := n3_
              have BK124 := n4_
              have HB := n5_
              clear n0_ n1_ n2_ n3_ n4_ n5_
              clear hb ho26
              refine hK.out _ _ ⟨(blk_cell BK124.out 0).trans rfl, (blk_cell BK124.out 1).trans rfl, (blk_cell BK124.out 2).trans rfl⟩ (fun hHeld => ?_)
              clear hK K
              refine norm_ (a' := ?_) ?_ ?_
              rotate_left
              · show Act.put _ (some 20) _ = _
                simp only [Act.put, List.setIfInBounds_toArray, List.set_cons_zero, List.set_cons_succ, i64_w, i32_w]
                rfl
              refine two_ (i := 2) (j := 4) (Ni := some 22) (Nj := some 24) #[true, true, true, true, false, false, false] #[true, true, false, true, true, false, false] rfl rfl rfl rfl (by kernel_rfl) (by decide) (by decide) (fun K hK => ?_) (fun K hK => ?_)
              · skip
                refine Kd.R_append_rows_step k23 (w0 := w) w.heap.size (by rfl) (.tmp 20) (.tmp 21) 33 23 (.agg #[(.int .i64 0), (.int .i64 0), (.string ⟨#[]⟩)]) 32 rfl Try.underlying33 info23 rfl (by decide) (by omega) v139 y138 l0 _ _ _ (fun k_ => some k_ ≠ (.slice Ao23 y132.length co23 : Value).ownBlock ∧ some k_ ≠ (v136 : Value).ownBlock ∧ k_ ≠ gb123 ∧ k_ ≠ gb124) (fun _ => False) rfl rfl ?aO ?aR (fun _ _ h => h) (fun _ h => h.elim) ?aF ?aB ?aS ?aL ?_
                (case aR => repeat (first | exact (Kd.C_below HR0.out HB.out) | (with_reducible refine Kd.C_alloc ?_ _) | (with_reducible refine Kd.C_drewN ?_ _) | (with_reducible refine Kd.C_drew ?_)))
                (case aB => exact (by repeat (first | (with_reducible first | exact HB.out | apply below_alloc | apply pw_below_drewN | apply below_drew1 | refine below_set ?_ GE123.out | refine below_set ?_ GE124.out) | exact HB.out)))
                (case aF => exact (fun k_ hk => ⟨Kd.fresh' (Kd.R_lt (by (with_reducible repeat (first | apply Kd.R_alloc | apply Kd.R_drewN | apply Kd.R_drew)); exact HO134.out)) k_ hk, Kd.fresh' (Kd.R_lt (by (with_reducible repeat (first | apply Kd.R_alloc | apply Kd.R_drewN | apply Kd.R_drew)); exact HO137.out)) k_ hk, Kd.freshB (g := gb123) (o := .cells #[.int .i64 a2_0, .int .i64 a2_1, .string a2_2] 23 (0, 0)) (by (with_reducible repeat (first | refine blk_drewN ?_ _ | refine blk_drew ?_ | refine blk_alloc ?_ _)); exact BK123.out) k_ hk, Kd.freshB (g := gb124) (o := .cells #[.int .i64 a3_0, .int .i64 a3_1, .string a3_2] 23 (0, 0)) (by (with_reducible repeat (first | refine blk_drewN ?_ _ | refine blk_drew ?_ | refine blk_alloc ?_ _)); exact BK124.out) k_ hk⟩))
                (case aO => exact (by (with_reducible repeat (first | apply Kd.R_alloc | apply Kd.R_drewN | apply Kd.R_drew)); exact Kd.R_mono HO140.out (fun _ hk => ⟨hk.1.1.1.2, ⟨hk.1.1.2, ⟨hk.1.2, hk.2⟩⟩⟩)))
                (case aS => exact (below_size (by repeat (first | (with_reducible first | exact HB.out | apply below_alloc | apply pw_below_drewN | apply below_drew1 | refine below_set ?_ GE123.out | refine below_set ?_ GE124.out) | exact HB.out))))
                (case aL => have := LMc8.out; omega)
                intro v142 w27 ho hb hg hat
                rw [← Ny141.out] at ho
                have n0_ := Aside0.mk (blk_grown (g := gb123) (o := .cells #[.int .i64 a2_0, .int .i64 a2_1, .string a2_2] 23 (0, 0)) (by (with_reducible repeat (first | refine blk_drewN ?_ _ | refine blk_drew ?_ | refine blk_alloc ?_ _)); exact BK123.out) hg (Kd.R_away HO140.out (fun _ hk => hk.1.2)))
                have n1_ := Aside0.mk (blk_grown (g := gb124) (o := .cells #[.int .i64 a3_0, .int .i64 a3_1, .string a3_2] 23 (0, 0)) (by (with_reducible repeat (first | refine blk_drewN ?_ _ | refine blk_drew ?_ | refine blk_alloc ?_ _)); exact BK124.out) hg (Kd.R_away HO140.out (fun _ hk => hk.2)))
                have n2_ := Aside0.mk (Kd.R_after (ok := (fun k_ => some k_ ≠ (v136 : Value).ownBlock ∧ k_ ≠ gb123 ∧ k_ ≠ gb124)) (by (with_reducible repeat (first | apply Kd.R_alloc | apply Kd.R_drewN | apply Kd.R_drew)); exact Kd.R_mono HO134.out (fun _ hk => ⟨⟨hk.1.2, ⟨hk.1.1.1, hk.1.1.2⟩⟩, hk.2⟩)) hg hat)
                have n3_ := Aside0.mk (Kd.R_after (ok := (fun k_ => some k_ ≠ (.slice Ao23 y132.length co23 : Value).ownBlock ∧ k_ ≠ gb123 ∧ k_ ≠ gb124)) (by (with_reducible repeat (first | apply Kd.R_alloc | apply Kd.R_drewN | apply Kd.R_drew)); exact HO137.out) hg hat)
                have n4_ := Aside0.mk (hb)
                have n5_ := Aside0.mk (ho)
                clear BK123
                clear BK124
                clear HO134
                clear HO137
                clear HB
                clear HO140
                have BK123 := n0_
                have BK124 := n1_
                have HO134 := n2_
                have HO137 := n3_
                have HB := n4_
                have HO143 := n5_
                clear n0_ n1_ n2_ n3_ n4_ n5_
                clear ho hb hg hat
                refine hK.out _ _ ⟨(blk_cell BK124.out 0).trans rfl, (blk_cell BK124.out 1).trans rfl, (blk_cell BK124.out 2).trans rfl⟩ (fun hHeld => ?_)
                clear hK K
                refine norm_ (a' := ?_) ?_ ?_
                rotate_left
                · show Act.put _ (some 22) _ = _
                  simp only [Act.put, List.setIfInBounds_toArray, List.set_cons_zero, List.set_cons_succ, i64_w, i32_w]
                  rfl
                refine one_ (i := 4) (N := some 24) #[true, true, true, true, true, false, false] rfl rfl (by kernel_rfl) (by decide) (fun K hK => ?_)
                refine Kd.R_lit_step k23 _ 23 ?hg (N := 24) ?hd (xs := ([(⟨a3_0, a3_1, a3_2⟩ : S23)] : List (S23))) (inner := [.int .i64 a3_0, .int .i64 a3_1, .string a3_2]) (ok := fun _ => True) (okp := fun _ => True) ?hr ?hp (fun _ hk => hk) trivial (Below.refl _ _) (Nat.le_refl _) (by simp) ?_; (case hd => rfl); (case hg => rfl); (case hr => first | (go_simp; done) | (go_simp; rfl)); (case hp => exact (Reps.c3 (show Kd.M k23 _ _ _ (⟨a3_0, a3_1, a3_2⟩ : S23) [.int .i64 a3_0, .int .i64 a3_1, .string a3_2] from (k23_mkM _ _ _ (⟨a3_0, a3_1, a3_2⟩ : S23) )) (Reps.none _ _)))
                intro v145 w28 ho29 hb hg_ hnew_
                clear hg_ hnew_
                (first | rw [← Ny144.out] at ho29 | (simp only [Int.reduceToNat] at ho29; rw [← Ny144.out] at ho29))
                have n0_ := Aside0.mk (Kd.R_elder' (by (with_reducible repeat (first | apply Kd.R_alloc | apply Kd.R_drewN | apply Kd.R_drew)); exact HO134.out) (Kd.R_base ho29) hb)
                have n1_ := Aside0.mk (Kd.R_elder' (by (with_reducible repeat (first | apply Kd.R_alloc | apply Kd.R_drewN | apply Kd.R_drew)); exact HO137.out) (Kd.R_base ho29) hb)
                have n2_ := Aside0.mk (Kd.R_elder' (by (with_reducible repeat (first | apply Kd.R_alloc | apply Kd.R_drewN | apply Kd.R_drew)); exact HO143.out) (Kd.R_base ho29) hb)
                have n3_ := Aside0.mk (Kd.R_lower (Kd.R_newB (Kd.R_newB (Kd.R_new' (Kd.R_new' (Kd.R_new' ho29 (Kd.R_lt (by (with_reducible repeat (first | apply Kd.R_alloc | apply Kd.R_drewN | apply Kd.R_drew)); exact HO134.out))) (Kd.R_lt (by (with_reducible repeat (first | apply Kd.R_alloc | apply Kd.R_drewN | apply Kd.R_drew)); exact HO137.out))) (Kd.R_lt (by (with_reducible repeat (first | apply Kd.R_alloc | apply Kd.R_drewN | apply Kd.R_drew)); exact HO143.out))) (g := gb123) (o := .cells #[.int .i64 a2_0, .int .i64 a2_1, .string a2_2] 23 (0, 0)) (by (with_reducible repeat (first | refine blk_drewN ?_ _ | refine blk_drew ?_ | refine blk_alloc ?_ _)); exact BK123.out)) (g := gb124) (o := .cells #[.int .i64 a3_0, .int .i64 a3_1, .string a3_2] 23 (0, 0)) (by (with_reducible repeat (first | refine blk_drewN ?_ _ | refine blk_drew ?_ | refine blk_alloc ?_ _)); exact BK124.out)) (below_size (by repeat (first | (with_reducible first | exact HB.out | apply below_alloc | apply pw_below_drewN | apply below_drew1 | refine below_set ?_ GE123.out | refine below_set ?_ GE124.out) | exact HB.out))))
                have n4_ := Aside0.mk (blk_below (g := gb123) (o := .cells #[.int .i64 a2_0, .int .i64 a2_1, .string a2_2] 23 (0, 0)) (by (with_reducible repeat (first | refine blk_drewN ?_ _ | refine blk_drew ?_ | refine blk_alloc ?_ _)); exact BK123.out) hb)
                have n5_ := Aside0.mk (blk_below (g := gb124) (o := .cells #[.int .i64 a3_0, .int .i64 a3_1, .string a3_2] 23 (0, 0)) (by (with_reducible repeat (first | refine blk_drewN ?_ _ | refine blk_drew ?_ | refine blk_alloc ?_ _)); exact BK124.out) hb)
                have n6_ := Aside0.mk (below_step (by repeat (first | (with_reducible first | exact HB.out | apply below_alloc | apply pw_below_drewN | apply below_drew1 | refine below_set ?_ GE123.out | refine below_set ?_ GE124.out) | exact HB.out)) hb)
                clear HO134
                clear HO137
                clear HO143
                clear BK123
                clear BK124
                clear HB
                have HO134 := n0_
                have HO137 := n1_
                have HO143 := n2_
                have HO146 := n3_
                have BK123 := n4_
                have BK124 := n5_
                have HB := n6_
                clear n0_ n1_ n2_ n3_ n4_ n5_ n6_
                clear hb ho29
                refine hK.out _ _ ⟨(blk_cell BK124.out 0).trans rfl, (blk_cell BK124.out 1).trans rfl, (blk_cell BK124.out 2).trans rfl⟩ (fun hHeld => ?_)
                clear hK K
                refine norm_ (a' := ?_) ?_ ?_
                rotate_left
                · show Act.put _ (some 24) _ = _
                  simp only [Act.put, List.setIfInBounds_toArray, List.set_cons_zero, List.set_cons_succ, i64_w, i32_w]
                  rfl
                exact norm_ (by simp only [putAll, Act.put, List.setIfInBounds_toArray, List.set_cons_zero, List.set_cons_succ]) (hCont (v139, v142, v145) _ ⟨hHeld, (by (with_reducible repeat (first | apply Kd.R_alloc | apply Kd.R_drewN | apply Kd.R_drew)); exact Kd.R_mono HO134.out (fun _ hk => ⟨hk.1.1.1, ⟨hk.1.2, ⟨hk.2, ⟨hk.1.1.2.1, hk.1.1.2.2⟩⟩⟩⟩)), (by (with_reducible repeat (first | apply Kd.R_alloc | apply Kd.R_drewN | apply Kd.R_drew)); exact Kd.R_mono HO137.out (fun _ hk => ⟨hk.1.1.1, ⟨hk.1.2, ⟨hk.2, ⟨hk.1.1.2.1, hk.1.1.2.2⟩⟩⟩⟩)), (by (with_reducible repeat (first | apply Kd.R_alloc | apply Kd.R_drewN | apply Kd.R_drew)); exact Kd.R_mono HO143.out (fun _ hk => ⟨hk.1.1, ⟨hk.1.2.1, ⟨hk.2, ⟨hk.1.2.2.1, hk.1.2.2.2⟩⟩⟩⟩)), (by (with_reducible repeat (first | apply Kd.R_alloc | apply Kd.R_drewN | apply Kd.R_drew)); exact Kd.R_mono HO146.out (fun _ hk => ⟨hk.1.1.1.1.2, ⟨hk.1.1.1.2, ⟨hk.1.1.2, ⟨hk.1.2, hk.2⟩⟩⟩⟩)), (by (with_reducible repeat (first | refine blk_drewN ?_ _ | refine blk_drew ?_ | refine blk_alloc ?_ _)); exact BK123.out), (by (with_reducible repeat (first | refine blk_drewN ?_ _ | refine blk_drew ?_ | refine blk_alloc ?_ _)); exact BK124.out), (by repeat (first | (with_reducible first | exact HB.out | apply below_alloc | apply pw_below_drewN | apply below_drew1 | refine below_set ?_ GE123.out | refine below_set ?_ GE124.out) | exact HB.out))⟩)
              · skip
                refine Kd.R_lit_step k23 _ 23 ?hg (N := 24) ?hd (xs := ([(⟨a3_0, a3_1, a3_2⟩ : S23)] : List (S23))) (inner := [.int .i64 a3_0, .int .i64 a3_1, .string a3_2]) (ok := fun _ => True) (okp := fun _ => True) ?hr ?hp (fun _ hk => hk) trivial (Below.refl _ _) (Nat.le_refl _) (by simp) ?_; (case hd => rfl); (case hg => rfl); (case hr => first | (go_simp; done) | (go_simp; rfl)); (case hp => exact (Reps.c3 (show Kd.M k23 _ _ _ (⟨a3_0, a3_1, a3_2⟩ : S23) [.int .i64 a3_0, .int .i64 a3_1, .string a3_2] from (k23_mkM _ _ _ (⟨a3_0, a3_1, a3_2⟩ : S23) )) (Reps.none _ _)))
                intro v145 w27 ho28 hb hg_ hnew_
                clear hg_ hnew_
                (first | rw [← Ny144.out] at ho28 | (simp only [Int.reduceToNat] at ho28; rw [← Ny144.out] at ho28))
                have n0_ := Aside0.mk (Kd.R_elder' (by (with_reducible repeat (first | apply Kd.R_alloc | apply Kd.R_drewN | apply Kd.R_drew)); exact HO134.out) (Kd.R_base ho28) hb)
                have n1_ := Aside0.mk (Kd.R_elder' (by (with_reducible repeat (first | apply Kd.R_alloc | apply Kd.R_drewN | apply Kd.R_drew)); exact HO137.out) (Kd.R_base ho28) hb)
                have n2_ := Aside0.mk (Kd.R_elder' (by (with_reducible repeat (first | apply Kd.R_alloc | apply Kd.R_drewN | apply Kd.R_drew)); exact HO140.out) (Kd.R_base ho28) hb)
                have n3_ := Aside0.mk (Kd.R_lower (Kd.R_newB (Kd.R_newB (Kd.R_new' (Kd.R_new' (Kd.R_new' ho28 (Kd.R_lt (by (with_reducible repeat (first | apply Kd.R_alloc | apply Kd.R_drewN | apply Kd.R_drew)); exact HO134.out))) (Kd.R_lt (by (with_reducible repeat (first | apply Kd.R_alloc | apply Kd.R_drewN | apply Kd.R_drew)); exact HO137.out))) (Kd.R_lt (by (with_reducible repeat (first | apply Kd.R_alloc | apply Kd.R_drewN | apply Kd.R_drew)); exact HO140.out))) (g := gb123) (o := .cells #[.int .i64 a2_0, .int .i64 a2_1, .string a2_2] 23 (0, 0)) (by (with_reducible repeat (first | refine blk_drewN ?_ _ | refine blk_drew ?_ | refine blk_alloc ?_ _)); exact BK123.out)) (g := gb124) (o := .cells #[.int .i64 a3_0, .int .i64 a3_1, .string a3_2] 23 (0, 0)) (by (with_reducible repeat (first | refine blk_drewN ?_ _ | refine blk_drew ?_ | refine blk_alloc ?_ _)); exact BK124.out)) (below_size (by repeat (first | (with_reducible first | exact HB.out | apply below_alloc | apply pw_below_drewN | apply below_drew1 | refine below_set ?_ GE123.out | refine below_set ?_ GE124.out) | exact HB.out))))
                have n4_ := Aside0.mk (blk_below (g := gb123) (o := .cells #[.int .i64 a2_0, .int .i64 a2_1, .string a2_2] 23 (0, 0)) (by (with_reducible repeat (first | refine blk_drewN ?_ _ | refine blk_drew ?_ | refine blk_alloc ?_ _)); exact BK123.out) hb)
                have n5_ := Aside0.mk (blk_below (g := gb124) (o := .cells #[.int .i64 a3_0, .int .i64 a3_1, .string a3_2] 23 (0, 0)) (by (with_reducible repeat (first | refine blk_drewN ?_ _ | refine blk_drew ?_ | refine blk_alloc ?_ _)); exact BK124.out) hb)
                have n6_ := Aside0.mk (below_step (by repeat (first | (with_reducible first | exact HB.out | apply below_alloc | apply pw_below_drewN | apply below_drew1 | refine below_set ?_ GE123.out | refine below_set ?_ GE124.out) | exact HB.out)) hb)
                clear HO134
                clear HO137
                clear HO140
                clear BK123
                clear BK124
                clear HB
                have HO134 := n0_
                have HO137 := n1_
                have HO140 := n2_
                have HO146 := n3_
                have BK123 := n4_
                have BK124 := n5_
                have HB := n6_
                clear n0_ n1_ n2_ n3_ n4_ n5_ n6_
                clear hb ho28
                refine hK.out _ _ ⟨(blk_cell BK124.out 0).trans rfl, (blk_cell BK124.out 1).trans rfl, (blk_cell BK124.out 2).trans rfl⟩ (fun hHeld => ?_)
                clear hK K
                refine norm_ (a' := ?_) ?_ ?_
                rotate_left
                · show Act.put _ (some 24) _ = _
                  simp only [Act.put, List.setIfInBounds_toArray, List.set_cons_zero, List.set_cons_succ, i64_w, i32_w]
                  rfl
                refine one_ (i := 2) (N := some 22) #[true, true, true, true, true, false, false] rfl rfl (by kernel_rfl) (by decide) (fun K hK => ?_)
                refine Kd.R_append_rows_step k23 (w0 := w) w.heap.size (by rfl) (.tmp 20) (.tmp 21) 33 23 (.agg #[(.int .i64 0), (.int .i64 0), (.string ⟨#[]⟩)]) 32 rfl Try.underlying33 info23 rfl (by decide) (by omega) v139 y138 l0 _ _ _ (fun k_ => some k_ ≠ (.slice Ao23 y132.length co23 : Value).ownBlock ∧ some k_ ≠ (v136 : Value).ownBlock ∧ some k_ ≠ (v145 : Value).ownBlock ∧ k_ ≠ gb123 ∧ k_ ≠ gb124) (fun _ => False) rfl rfl ?aO ?aR (fun _ _ h => h) (fun _ h => h.elim) ?aF ?aB ?aS ?aL ?_
                (case aR => repeat (first | exact (Kd.C_below HR0.out HB.out) | (with_reducible refine Kd.C_alloc ?_ _) | (with_reducible refine Kd.C_drewN ?_ _) | (with_reducible refine Kd.C_drew ?_)))
                (case aB => exact (by repeat (first | (with_reducible first | exact HB.out | apply below_alloc | apply pw_below_drewN | apply below_drew1 | refine below_set ?_ GE123.out | refine below_set ?_ GE124.out) | exact HB.out)))
                (case aF => exact (fun k_ hk => ⟨Kd.fresh' (Kd.R_lt (by (with_reducible repeat (first | apply Kd.R_alloc | apply Kd.R_drewN | apply Kd.R_drew)); exact HO134.out)) k_ hk, Kd.fresh' (Kd.R_lt (by (with_reducible repeat (first | apply Kd.R_alloc | apply Kd.R_drewN | apply Kd.R_drew)); exact HO137.out)) k_ hk, Kd.fresh' (Kd.R_lt (by (with_reducible repeat (first | apply Kd.R_alloc | apply Kd.R_drewN | apply Kd.R_drew)); exact HO146.out)) k_ hk, Kd.freshB (g := gb123) (o := .cells #[.int .i64 a2_0, .int .i64 a2_1, .string a2_2] 23 (0, 0)) (by (with_reducible repeat (first | refine blk_drewN ?_ _ | refine blk_drew ?_ | refine blk_alloc ?_ _)); exact BK123.out) k_ hk, Kd.freshB (g := gb124) (o := .cells #[.int .i64 a3_0, .int .i64 a3_1, .string a3_2] 23 (0, 0)) (by (with_reducible repeat (first | refine blk_drewN ?_ _ | refine blk_drew ?_ | refine blk_alloc ?_ _)); exact BK124.out) k_ hk⟩))
                (case aO => exact (by (with_reducible repeat (first | apply Kd.R_alloc | apply Kd.R_drewN | apply Kd.R_drew)); exact Kd.R_mono HO140.out (fun _ hk => ⟨hk.1.1.1.1.2, ⟨hk.1.1.1.2, ⟨hk.2, ⟨hk.1.1.2, hk.1.2⟩⟩⟩⟩)))
                (case aS => exact (below_size (by repeat (first | (with_reducible first | exact HB.out | apply below_alloc | apply pw_below_drewN | apply below_drew1 | refine below_set ?_ GE123.out | refine below_set ?_ GE124.out) | exact HB.out))))
                (case aL => have := LMc8.out; omega)
                intro v142 w29 ho hb hg hat
                rw [← Ny141.out] at ho
                have n0_ := Aside0.mk (blk_grown (g := gb123) (o := .cells #[.int .i64 a2_0, .int .i64 a2_1, .string a2_2] 23 (0, 0)) (by (with_reducible repeat (first | refine blk_drewN ?_ _ | refine blk_drew ?_ | refine blk_alloc ?_ _)); exact BK123.out) hg (Kd.R_away HO140.out (fun _ hk => hk.1.1.2)))
                have n1_ := Aside0.mk (blk_grown (g := gb124) (o := .cells #[.int .i64 a3_0, .int .i64 a3_1, .string a3_2] 23 (0, 0)) (by (with_reducible repeat (first | refine blk_drewN ?_ _ | refine blk_drew ?_ | refine blk_alloc ?_ _)); exact BK124.out) hg (Kd.R_away HO140.out (fun _ hk => hk.1.2)))
                have n2_ := Aside0.mk (Kd.R_after (ok := (fun k_ => some k_ ≠ (v136 : Value).ownBlock ∧ some k_ ≠ (v145 : Value).ownBlock ∧ k_ ≠ gb123 ∧ k_ ≠ gb124)) (by (with_reducible repeat (first | apply Kd.R_alloc | apply Kd.R_drewN | apply Kd.R_drew)); exact Kd.R_mono HO134.out (fun _ hk => ⟨⟨hk.1.1.2, ⟨hk.2, ⟨hk.1.1.1.1, hk.1.1.1.2⟩⟩⟩, hk.1.2⟩)) hg hat)
                have n3_ := Aside0.mk (Kd.R_after (ok := (fun k_ => some k_ ≠ (.slice Ao23 y132.length co23 : Value).ownBlock ∧ some k_ ≠ (v145 : Value).ownBlock ∧ k_ ≠ gb123 ∧ k_ ≠ gb124)) (by (with_reducible repeat (first | apply Kd.R_alloc | apply Kd.R_drewN | apply Kd.R_drew)); exact Kd.R_mono HO137.out (fun _ hk => ⟨⟨hk.1.1.1, ⟨hk.2, ⟨hk.1.1.2.1, hk.1.1.2.2⟩⟩⟩, hk.1.2⟩)) hg hat)
                have n4_ := Aside0.mk (Kd.R_after (ok := (fun k_ => some k_ ≠ (.slice Ao23 y132.length co23 : Value).ownBlock ∧ some k_ ≠ (v136 : Value).ownBlock ∧ k_ ≠ gb123 ∧ k_ ≠ gb124)) (by (with_reducible repeat (first | apply Kd.R_alloc | apply Kd.R_drewN | apply Kd.R_drew)); exact Kd.R_mono HO146.out (fun _ hk => ⟨⟨hk.1.1.1.1.2, ⟨hk.1.1.1.2, ⟨hk.1.2, hk.2⟩⟩⟩, hk.1.1.2⟩)) hg hat)
                have n5_ := Aside0.mk (hb)
                have n6_ := Aside0.mk (ho)
                clear BK123
                clear BK124
                clear HO134
                clear HO137
                clear HO146
                clear HB
                clear HO140
                have BK123 := n0_
                have BK124 := n1_
                have HO134 := n2_
                have HO137 := n3_
                have HO146 := n4_
                have HB := n5_
                have HO143 := n6_
                clear n0_ n1_ n2_ n3_ n4_ n5_ n6_
                clear ho hb hg hat
                refine hK.out _ _ ⟨(blk_cell BK124.out 0).trans rfl, (blk_cell BK124.out 1).trans rfl, (blk_cell BK124.out 2).trans rfl⟩ (fun hHeld => ?_)
                clear hK K
                refine norm_ (a' := ?_) ?_ ?_
                rotate_left
                · show Act.put _ (some 22) _ = _
                  simp only [Act.put, List.setIfInBounds_toArray, List.set_cons_zero, List.set_cons_succ, i64_w, i32_w]
                  rfl
                exact norm_ (by simp only [putAll, Act.put, List.setIfInBounds_toArray, List.set_cons_zero, List.set_cons_succ]) (hCont (v139, v142, v145) _ ⟨hHeld, (by (with_reducible repeat (first | apply Kd.R_alloc | apply Kd.R_drewN | apply Kd.R_drew)); exact Kd.R_mono HO134.out (fun _ hk => ⟨hk.1.1, ⟨hk.2, ⟨hk.1.2.1, ⟨hk.1.2.2.1, hk.1.2.2.2⟩⟩⟩⟩)), (by (with_reducible repeat (first | apply Kd.R_alloc | apply Kd.R_drewN | apply Kd.R_drew)); exact Kd.R_mono HO137.out (fun _ hk => ⟨hk.1.1, ⟨hk.2, ⟨hk.1.2.1, ⟨hk.1.2.2.1, hk.1.2.2.2⟩⟩⟩⟩)), (by (with_reducible repeat (first | apply Kd.R_alloc | apply Kd.R_drewN | apply Kd.R_drew)); exact HO143.out), (by (with_reducible repeat (first | apply Kd.R_alloc | apply Kd.R_drewN | apply Kd.R_drew)); exact Kd.R_mono HO146.out (fun _ hk => ⟨hk.1.1, ⟨hk.1.2.1, ⟨hk.2, ⟨hk.1.2.2.1, hk.1.2.2.2⟩⟩⟩⟩)), (by (with_reducible repeat (first | refine blk_drewN ?_ _ | refine blk_drew ?_ | refine blk_alloc ?_ _)); exact BK123.out), (by (with_reducible repeat (first | refine blk_drewN ?_ _ | refine blk_drew ?_ | refine blk_alloc ?_ _)); exact BK124.out), (by repeat (first | (with_reducible first | exact HB.out | apply below_alloc | apply pw_below_drewN | apply below_drew1 | refine below_set ?_ GE123.out | refine below_set ?_ GE124.out) | exact HB.out))⟩)
            · skip
              refine Kd.R_lit_step k23 _ 23 ?hg (N := 24) ?hd (xs := ([(⟨a3_0, a3_1, a3_2⟩ : S23)] : List (S23))) (inner := [.int .i64 a3_0, .int .i64 a3_1, .string a3_2]) (ok := fun _ => True) (okp := fun _ => True) ?hr ?hp (fun _ hk => hk) trivial (Below.refl _ _) (Nat.le_refl _) (by simp) ?_; (case hd => rfl); (case hg => rfl); (case hr => first | (go_simp; done) | (go_simp; rfl)); (case hp => exact (Reps.c3 (show Kd.M k23 _ _ _ (⟨a3_0, a3_1, a3_2⟩ : S23) [.int .i64 a3_0, .int .i64 a3_1, .string a3_2] from (k23_mkM _ _ _ (⟨a3_0, a3_1, a3_2⟩ : S23) )) (Reps.none _ _)))
              intro v145 w25 ho26 hb hg_ hnew_
              clear hg_ hnew_
              (first | rw [← Ny144.out] at ho26 | (simp only [Int.reduceToNat] at ho26; rw [← Ny144.out] at ho26))
              have n0_ := Aside0.mk (Kd.R_elder' (by (with_reducible repeat (first | apply Kd.R_alloc | apply Kd.R_drewN | apply Kd.R_drew)); exact HO134.out) (Kd.R_base ho26) hb)
              have n1_ := Aside0.mk (Kd.R_elder' (by (with_reducible repeat (first | apply Kd.R_alloc | apply Kd.R_drewN | apply Kd.R_drew)); exact HO137.out) (Kd.R_base ho26) hb)
              have n2_ := Aside0.mk (Kd.R_lower (Kd.R_newB (Kd.R_newB (Kd.R_new' (Kd.R_new' ho26 (Kd.R_lt (by (with_reducible repeat (first | apply Kd.R_alloc | apply Kd.R_drewN | apply Kd.R_drew)); exact HO134.out))) (Kd.R_lt (by (with_reducible repeat (first | apply Kd.R_alloc | apply Kd.R_drewN | apply Kd.R_drew)); exact HO137.out))) (g := gb123) (o := .cells #[.int .i64 a2_0, .int .i64 a2_1, .string a2_2] 23 (0, 0)) (by (with_reducible repeat (first | refine blk_drewN ?_ _ | refine blk_drew ?_ | refine blk_alloc ?_ _)); exact BK123.out)) (g := gb124) (o := .cells #[.int .i64 a3_0, .int .i64 a3_1, .string a3_2] 23 (0, 0)) (by (with_reducible repeat (first | refine blk_drewN ?_ _ | refine blk_drew ?_ | refine blk_alloc ?_ _)); exact BK124.out)) (below_size (by repeat (first | (with_reducible first | exact HB.out | apply below_alloc | apply pw_below_drewN | apply below_drew1 | refine below_set ?_ GE123.out | refine below_set ?_ GE124.out) | exact HB.out))))
              have n3_ := Aside0.mk (blk_below (g := gb123) (o := .cells #[.int .i64 a2_0, .int .i64 a2_1, .string a2_2] 23 (0, 0)) (by (with_reducible repeat (first | refine blk_drewN ?_ _ | refine blk_drew ?_ | refine blk_alloc ?_ _)); exact BK123.out) hb)
              have n4_ := Aside0.mk (blk_below (g := gb124) (o := .cells #[.int .i64 a3_0, .int .i64 a3_1, .string a3_2] 23 (0, 0)) (by (with_reducible repeat (first | refine blk_drewN ?_ _ | refine blk_drew ?_ | refine blk_alloc ?_ _)); exact BK124.out) hb)
              have n5_ := Aside0.mk (below_step (by repeat (first | (with_reducible first | exact HB.out | apply below_alloc | apply pw_below_drewN | apply below_drew1 | refine below_set ?_ GE123.out | refine below_set ?_ GE124.out) | exact HB.out)) hb)
              clear HO134
              clear HO137
              clear BK123
              clear BK124
              clear HB
              have HO134 := n0_
              have HO137 := n1_
              have HO146 := n2_
              have BK123 := n3_
              have BK124 := n4_
              have HB := n5_
              clear n0_ n1_ n2_ n3_ n4_ n5_
              clear hb ho26
              refine hK.out _ _ ⟨(blk_cell BK124.out 0).trans rfl, (blk_cell BK124.out 1).trans rfl, (blk_cell BK124.out 2).trans rfl⟩ (fun hHeld => ?_)
              clear hK K
              refine norm_ (a' := ?_) ?_ ?_
              rotate_left
              · show Act.put _ (some 24) _ = _
                simp only [Act.put, List.setIfInBounds_toArray, List.set_cons_zero, List.set_cons_succ, i64_w, i32_w]
                rfl
              refine one_ (i := 0) (N := some 20) #[true, true, false, true, true, false, false] rfl rfl (by kernel_rfl) (by decide) (fun K hK => ?_)
              refine Kd.R_lit_step k23 _ 23 ?hg (N := 20) ?hd (xs := ([] : List (S23))) (inner := []) (ok := fun _ => True) (okp := fun _ => True) ?hr ?hp (fun _ hk => hk) trivial (Below.refl _ _) (Nat.le_refl _) (by simp) ?_; (case hd => rfl); (case hg => rfl); (case hr => first | (go_simp; done) | (go_simp; rfl)); (case hp => exact (Reps.none _ _))
              intro v139 w27 ho28 hb hg_ hnew_
              clear hg_ hnew_
              (first | rw [← Ny138.out] at ho28 | (simp only [Int.reduceToNat] at ho28; rw [← Ny138.out] at ho28))
              have n0_ := Aside0.mk (Kd.R_elder' (by (with_reducible repeat (first | apply Kd.R_alloc | apply Kd.R_drewN | apply Kd.R_drew)); exact HO134.out) (Kd.R_base ho28) hb)
              have n1_ := Aside0.mk (Kd.R_elder' (by (with_reducible repeat (first | apply Kd.R_alloc | apply Kd.R_drewN | apply Kd.R_drew)); exact HO137.out) (Kd.R_base ho28) hb)
              have n2_ := Aside0.mk (Kd.R_elder' (by (with_reducible repeat (first | apply Kd.R_alloc | apply Kd.R_drewN | apply Kd.R_drew)); exact HO146.out) (Kd.R_base ho28) hb)
              have n3_ := Aside0.mk (Kd.R_lower (Kd.R_newB (Kd.R_newB (Kd.R_new' (Kd.R_new' (Kd.R_new' ho28 (Kd.R_lt (by (with_reducible repeat (first | apply Kd.R_alloc | apply Kd.R_drewN | apply Kd.R_drew)); exact HO134.out))) (Kd.R_lt (by (with_reducible repeat (first | apply Kd.R_alloc | apply Kd.R_drewN | apply Kd.R_drew)); exact HO137.out))) (Kd.R_lt (by (with_reducible repeat (first | apply Kd.R_alloc | apply Kd.R_drewN | apply Kd.R_drew)); exact HO146.out))) (g := gb123) (o := .cells #[.int .i64 a2_0, .int .i64 a2_1, .string a2_2] 23 (0, 0)) (by (with_reducible repeat (first | refine blk_drewN ?_ _ | refine blk_drew ?_ | refine blk_alloc ?_ _)); exact BK123.out)) (g := gb124) (o := .cells #[.int .i64 a3_0, .int .i64 a3_1, .string a3_2] 23 (0, 0)) (by (with_reducible repeat (first | refine blk_drewN ?_ _ | refine blk_drew ?_ | refine blk_alloc ?_ _)); exact BK124.out)) (below_size (by repeat (first | (with_reducible first | exact HB.out | apply below_alloc | apply pw_below_drewN | apply below_drew1 | refine below_set ?_ GE123.out | refine below_set ?_ GE124.out) | exact HB.out))))
              have n4_ := Aside0.mk (blk_below (g := gb123) (o := .cells #[.int .i64 a2_0, .int .i64 a2_1, .string a2_2] 23 (0, 0)) (by (with_reducible repeat (first | refine blk_drewN ?_ _ | refine blk_drew ?_ | refine blk_alloc ?_ _)); exact BK123.out) hb)
              have n5_ := Aside0.mk (blk_below (g := gb124) (o := .cells #[.int .i64 a3_0, .int .i64 a3_1, .string a3_2] 23 (0, 0)) (by (with_reducible repeat (first | refine blk_drewN ?_ _ | refine blk_drew ?_ | refine blk_alloc ?_ _)); exact BK124.out) hb)
              have n6_ := Aside0.mk (below_step (by repeat (first | (with_reducible first | exact HB.out | apply below_alloc | apply pw_below_drewN | apply below_drew1 | refine below_set ?_ GE123.out | refine below_set ?_ GE124.out) | exact HB.out)) hb)
              clear HO134
              clear HO137
              clear HO146
              clear BK123
              clear BK124
              clear HB
              have HO134 := n0_
              have HO137 := n1_
              have HO146 := n2_
              have HO140 := n3_
              have BK123 := n4_
              have BK124 := n5_
              have HB := n6_
              clear n0_ n1_ n2_ n3_ n4_ n5_ n6_
              clear hb ho28
              refine hK.out _ _ ⟨(blk_cell BK124.out 0).trans rfl, (blk_cell BK124.out 1).trans rfl, (blk_cell BK124.out 2).trans rfl⟩ (fun hHeld => ?_)
              clear hK K
              refine norm_ (a' := ?_) ?_ ?_
              rotate_left
              · show Act.put _ (some 20) _ = _
                simp only [Act.put, List.setIfInBounds_toArray, List.set_cons_zero, List.set_cons_succ, i64_w, i32_w]
                rfl
              refine one_ (i := 2) (N := some 22) #[true, true, true, true, true, false, false] rfl rfl (by kernel_rfl) (by decide) (fun K hK => ?_)
              refine Kd.R_append_rows_step k23 (w0 := w) w.heap.size (by rfl) (.tmp 20) (.tmp 21) 33 23 (.agg #[(.int .i64 0), (.int .i64 0), (.string ⟨#[]⟩)]) 32 rfl Try.underlying33 info23 rfl (by decide) (by omega) v139 y138 l0 _ _ _ (fun k_ => some k_ ≠ (.slice Ao23 y132.length co23 : Value).ownBlock ∧ some k_ ≠ (v136 : Value).ownBlock ∧ some k_ ≠ (v145 : Value).ownBlock ∧ k_ ≠ gb123 ∧ k_ ≠ gb124) (fun _ => False) rfl rfl ?aO ?aR (fun _ _ h => h) (fun _ h => h.elim) ?aF ?aB ?aS ?aL ?_
              (case aR => repeat (first | exact (Kd.C_below HR0.out HB.out) | (with_reducible refine Kd.C_alloc ?_ _) | (with_reducible refine Kd.C_drewN ?_ _) | (with_reducible refine Kd.C_drew ?_)))
              (case aB => exact (by repeat (first | (with_reducible first | exact HB.out | apply below_alloc | apply pw_below_drewN | apply below_drew1 | refine below_set ?_ GE123.out | refine below_set ?_ GE124.out) | exact HB.out)))
              (case aF => exact (fun k_ hk => ⟨Kd.fresh' (Kd.R_lt (by (with_reducible repeat (first | apply Kd.R_alloc | apply Kd.R_drewN | apply Kd.R_drew)); exact HO134.out)) k_ hk, Kd.fresh' (Kd.R_lt (by (with_reducible repeat (first | apply Kd.R_alloc | apply Kd.R_drewN | apply Kd.R_drew)); exact HO137.out)) k_ hk, Kd.fresh' (Kd.R_lt (by (with_reducible repeat (first | apply Kd.R_alloc | apply Kd.R_drewN | apply Kd.R_drew)); exact HO146.out)) k_ hk, Kd.freshB (g := gb123) (o := .cells #[.int .i64 a2_0, .int .i64 a2_1, .string a2_2] 23 (0, 0)) (by (with_reducible repeat (first | refine blk_drewN ?_ _ | refine blk_drew ?_ | refine blk_alloc ?_ _)); exact BK123.out) k_ hk, Kd.freshB (g := gb124) (o := .cells #[.int .i64 a3_0, .int .i64 a3_1, .string a3_2] 23 (0, 0)) (by (with_reducible repeat (first | refine blk_drewN ?_ _ | refine blk_drew ?_ | refine blk_alloc ?_ _)); exact BK124.out) k_ hk⟩))
              (case aO => exact (by (with_reducible repeat (first | apply Kd.R_alloc | apply Kd.R_drewN | apply Kd.R_drew)); exact Kd.R_mono HO140.out (fun _ hk => ⟨hk.1.1.1.1.2, ⟨hk.1.1.1.2, ⟨hk.1.1.2, ⟨hk.1.2, hk.2⟩⟩⟩⟩)))
              (case aS => exact (below_size (by repeat (first | (with_reducible first | exact HB.out | apply below_alloc | apply pw_below_drewN | apply below_drew1 | refine below_set ?_ GE123.out | refine below_set ?_ GE124.out) | exact HB.out))))
              (case aL => have := LMc8.out; omega)
              intro v142 w29 ho hb hg hat
              rw [← Ny141.out] at ho
              have n0_ := Aside0.mk (blk_grown (g := gb123) (o := .cells #[.int .i64 a2_0, .int .i64 a2_1, .string a2_2] 23 (0, 0)) (by (with_reducible repeat (first | refine blk_drewN ?_ _ | refine blk_drew ?_ | refine blk_alloc ?_ _)); exact BK123.out) hg (Kd.R_away HO140.out (fun _ hk => hk.1.2)))
              have n1_ := Aside0.mk (blk_grown (g := gb124) (o := .cells #[.int .i64 a3_0, .int .i64 a3_1, .string a3_2] 23 (0, 0)) (by (with_reducible repeat (first | refine blk_drewN ?_ _ | refine blk_drew ?_ | refine blk_alloc ?_ _)); exact BK124.out) hg (Kd.R_away HO140.out (fun _ hk => hk.2)))
              have n2_ := Aside0.mk (Kd.R_after (ok := (fun k_ => some k_ ≠ (v136 : Value).ownBlock ∧ some k_ ≠ (v145 : Value).ownBlock ∧ k_ ≠ gb123 ∧ k_ ≠ gb124)) (by (with_reducible repeat (first | apply Kd.R_alloc | apply Kd.R_drewN | apply Kd.R_drew)); exact Kd.R_mono HO134.out (fun _ hk => ⟨⟨hk.1.1.2, ⟨hk.1.2, ⟨hk.1.1.1.1, hk.1.1.1.2⟩⟩⟩, hk.2⟩)) hg hat)
              have n3_ := Aside0.mk (Kd.R_after (ok := (fun k_ => some k_ ≠ (.slice Ao23 y132.length co23 : Value).ownBlock ∧ some k_ ≠ (v145 : Value).ownBlock ∧ k_ ≠ gb123 ∧ k_ ≠ gb124)) (by (with_reducible repeat (first | apply Kd.R_alloc | apply Kd.R_drewN | apply Kd.R_drew)); exact Kd.R_mono HO137.out (fun _ hk => ⟨⟨hk.1.1.1, ⟨hk.1.2, ⟨hk.1.1.2.1, hk.1.1.2.2⟩⟩⟩, hk.2⟩)) hg hat)
              have n4_ := Aside0.mk (Kd.R_after (ok := (fun k_ => some k_ ≠ (.slice Ao23 y132.length co23 : Value).ownBlock ∧ some k_ ≠ (v136 : Value).ownBlock ∧ k_ ≠ gb123 ∧ k_ ≠ gb124)) (by (with_reducible repeat (first | apply Kd.R_alloc | apply Kd.R_drewN | apply Kd.R_drew)); exact Kd.R_mono HO146.out (fun _ hk => ⟨⟨hk.1.1.1.1.2, ⟨hk.1.1.1.2, ⟨hk.1.1.2, hk.1.2⟩⟩⟩, hk.2⟩)) hg hat)
              have n5_ := Aside0.mk (hb)
              have n6_ := Aside0.mk (ho)
              clear BK123
              clear BK124
              clear HO134
              clear HO137
              clear HO146
              clear HB
              clear HO140
              have BK123 := n0_
              have BK124 := n1_
              have HO134 := n2_
              have HO137 := n3_
              have HO146 := n4_
              have HB := n5_
              have HO143 := n6_
              clear n0_ n1_ n2_ n3_ n4_ n5_ n6_
              clear ho hb hg hat
              refine hK.out _ _ ⟨(blk_cell BK124.out 0).trans rfl, (blk_cell BK124.out 1).trans rfl, (blk_cell BK124.out 2).trans rfl⟩ (fun hHeld => ?_)
              clear hK K
              refine norm_ (a' := ?_) ?_ ?_
              rotate_left
              · show Act.put _ (some 22) _ = _
                simp only [Act.put, List.setIfInBounds_toArray, List.set_cons_zero, List.set_cons_succ, i64_w, i32_w]
                rfl
              exact norm_ (by simp only [putAll, Act.put, List.setIfInBounds_toArray, List.set_cons_zero, List.set_cons_succ]) (hCont (v139, v142, v145) _ ⟨hHeld, (by (with_reducible repeat (first | apply Kd.R_alloc | apply Kd.R_drewN | apply Kd.R_drew)); exact Kd.R_mono HO134.out (fun _ hk => ⟨hk.1.1, ⟨hk.2, ⟨hk.1.2.1, ⟨hk.1.2.2.1, hk.1.2.2.2⟩⟩⟩⟩)), (by (with_reducible repeat (first | apply Kd.R_alloc | apply Kd.R_drewN | apply Kd.R_drew)); exact Kd.R_mono HO137.out (fun _ hk => ⟨hk.1.1, ⟨hk.2, ⟨hk.1.2.1, ⟨hk.1.2.2.1, hk.1.2.2.2⟩⟩⟩⟩)), (by (with_reducible repeat (first | apply Kd.R_alloc | apply Kd.R_drewN | apply Kd.R_drew)); exact HO143.out), (by (with_reducible repeat (first | apply Kd.R_alloc | apply Kd.R_drewN | apply Kd.R_drew)); exact Kd.R_mono HO146.out (fun _ hk => ⟨hk.1.1, ⟨hk.1.2.1, ⟨hk.2, ⟨hk.1.2.2.1, hk.1.2.2.2⟩⟩⟩⟩)), (by (with_reducible repeat (first | refine blk_drewN ?_ _ | refine blk_drew ?_ | refine blk_alloc ?_ _)); exact BK123.out), (by (with_reducible repeat (first | refine blk_drewN ?_ _ | refine blk_drew ?_ | refine blk_alloc ?_ _)); exact BK124.out), (by repeat (first | (with_reducible first | exact HB.out | apply below_alloc | apply pw_below_drewN | apply below_drew1 | refine below_set ?_ GE123.out | refine below_set ?_ GE124.out) | exact HB.out))⟩)
          rintro ⟨v139, v142, v145⟩ w30 ⟨hS_, h0_, h1_, h2_, h3_, h4_, h5_, h6_⟩
          have n0_ : Aside0 (Kd.R k23 23 w30 w.heap.size (fun k_ => some k_ ≠ (v136 : Value).ownBlock ∧ some k_ ≠ (v142 : Value).ownBlock ∧ some k_ ≠ (v145 : Value).ownBlock ∧ k_ ≠ gb123 ∧ k_ ≠ gb124) (.slice Ao23 y132.length co23) y132) := ⟨h0_⟩
          have n1_ : Aside0 (Kd.R k23 23 w30 w.heap.size (fun k_ => some k_ ≠ (.slice Ao23 y132.length co23 : Value).ownBlock ∧ some k_ ≠ (v142 : Value).ownBlock ∧ some k_ ≠ (v145 : Value).ownBlock ∧ k_ ≠ gb123 ∧ k_ ≠ gb124) v136 y135) := ⟨h1_⟩
          have n2_ : Aside0 (Kd.R k23 23 w30 w.heap.size (fun k_ => some k_ ≠ (.slice Ao23 y132.length co23 : Value).ownBlock ∧ some k_ ≠ (v136 : Value).ownBlock ∧ some k_ ≠ (v145 : Value).ownBlock ∧ k_ ≠ gb123 ∧ k_ ≠ gb124) v142 y141) := ⟨h2_⟩
          have n3_ : Aside0 (Kd.R k23 23 w30 w.heap.size (fun k_ => some k_ ≠ (.slice Ao23 y132.length co23 : Value).ownBlock ∧ some k_ ≠ (v136 : Value).ownBlock ∧ some k_ ≠ (v142 : Value).ownBlock ∧ k_ ≠ gb123 ∧ k_ ≠ gb124) v145 y144) := ⟨h3_⟩
          have n4_ : Aside0 (w30.heap[gb123]? = some (.cells #[.int .i64 a2_0, .int .i64 a2_1, .string a2_2] 23 (0, 0))) := ⟨h4_⟩
          have n5_ : Aside0 (w30.heap[gb124]? = some (.cells #[.int .i64 a3_0, .int .i64 a3_1, .string a3_2] 23 (0, 0))) := ⟨h5_⟩
          have n6_ : Aside0 (Below w.heap.size w w30) := ⟨h6_⟩
          clear HO134
          clear HO137
          clear BK123
          clear BK124
          clear HB
          clear h0_ h1_ h2_ h3_ h4_ h5_ h6_
          have HO134 := n0_
          have HO137 := n1_
          have HO143 := n2_
          have HO146 := n3_
          have BK123 := n4_
          have BK124 := n5_
          have HB := n6_
          clear n0_ n1_ n2_ n3_ n4_ n5_ n6_
          have hHeld : w30.cell? ⟨gb124, 0, none⟩ = some (.int .i64 a3_0) ∧ w30.cell? ⟨gb124, 1, none⟩ = some (.int .i64 a3_1) ∧ w30.cell? ⟨gb124, 2, none⟩ = some (.string a3_2) := hS_
          obtain ⟨Ao32, co32, eo32⟩ := Kd.R_slice HO146.out
          (first | subst eo32 | (injection eo32 with f1_ f2_ f3_; have f4_ := f1_.symm; have f5_ := f3_.symm; clear f1_ f2_ f3_; subst f4_; subst f5_))
          refine norm_ (a' := ?_) ?_ ?_
          rotate_left
          · simp only [putAll, Act.put, List.setIfInBounds_toArray, List.set_cons_zero, List.set_cons_succ]
            rfl
          refine one_ (i := 5) (N := some 25) #[true, true, true, true, true, true, false] rfl rfl (by kernel_rfl) (by decide) (fun K hK => ?_)
          refine Kd.R_append_rows_step k23 (w0 := w) w.heap.size (by rfl) (.tmp 22) (.tmp 24) 33 23 (.agg #[(.int .i64 0), (.int .i64 0), (.string ⟨#[]⟩)]) 32 rfl Try.underlying33 info23 rfl (by decide) (by omega) v142 y141 y144 _ _ _ (fun k_ => some k_ ≠ (.slice Ao23 y132.length co23 : Value).ownBlock ∧ some k_ ≠ (v136 : Value).ownBlock ∧ some k_ ≠ (.slice Ao32 y144.length co32 : Value).ownBlock ∧ k_ ≠ gb123 ∧ k_ ≠ gb124) (fun _ => False) rfl rfl ?aO ?aR (fun _ _ h => h) (fun _ h => h.elim) ?aF ?aB ?aS ?aL ?_
          (case aR => repeat (first | exact (Kd.R_reads' HO146.out).2.2 | (with_reducible refine Kd.C_alloc ?_ _) | (with_reducible refine Kd.C_drewN ?_ _) | (with_reducible refine Kd.C_drew ?_)))
          (case aB => exact (by repeat (first | (with_reducible first | exact HB.out | apply below_alloc | apply pw_below_drewN | apply below_drew1 | refine below_set ?_ GE123.out | refine below_set ?_ GE124.out) | exact HB.out)))
          (case aF => exact (fun k_ hk => ⟨Kd.fresh' (Kd.R_lt (by (with_reducible repeat (first | apply Kd.R_alloc | apply Kd.R_drewN | apply Kd.R_drew)); exact HO134.out)) k_ hk, Kd.fresh' (Kd.R_lt (by (with_reducible repeat (first | apply Kd.R_alloc | apply Kd.R_drewN | apply Kd.R_drew)); exact HO137.out)) k_ hk, Kd.fresh' (Kd.R_lt (by (with_reducible repeat (first | apply Kd.R_alloc | apply Kd.R_drewN | apply Kd.R_drew)); exact HO146.out)) k_ hk, Kd.freshB (g := gb123) (o := .cells #[.int .i64 a2_0, .int .i64 a2_1, .string a2_2] 23 (0, 0)) (by (with_reducible repeat (first | refine blk_drewN ?_ _ | refine blk_drew ?_ | refine blk_alloc ?_ _)); exact BK123.out) k_ hk, Kd.freshB (g := gb124) (o := .cells #[.int .i64 a3_0, .int .i64 a3_1, .string a3_2] 23 (0, 0)) (by (with_reducible repeat (first | refine blk_drewN ?_ _ | refine blk_drew ?_ | refine blk_alloc ?_ _)); exact BK124.out) k_ hk⟩))
          (case aO => exact (by (with_reducible repeat (first | apply Kd.R_alloc | apply Kd.R_drewN | apply Kd.R_drew)); exact HO143.out))
          (case aS => exact (below_size (by repeat (first | (with_reducible first | exact HB.out | apply below_alloc | apply pw_below_drewN | apply below_drew1 | refine below_set ?_ GE123.out | refine below_set ?_ GE124.out) | exact HB.out))))
          (case aL => have := LMc9.out; omega)
          intro v148 w31 ho hb hg hat
          rw [← Ny147.out] at ho
          have n0_ := Aside0.mk (blk_grown (g := gb123) (o := .cells #[.int .i64 a2_0, .int .i64 a2_1, .string a2_2] 23 (0, 0)) (by (with_reducible repeat (first | refine blk_drewN ?_ _ | refine blk_drew ?_ | refine blk_alloc ?_ _)); exact BK123.out) hg (Kd.R_away HO143.out (fun _ hk => hk.2.2.2.1)))
          have n1_ := Aside0.mk (blk_grown (g := gb124) (o := .cells #[.int .i64 a3_0, .int .i64 a3_1, .string a3_2] 23 (0, 0)) (by (with_reducible repeat (first | refine blk_drewN ?_ _ | refine blk_drew ?_ | refine blk_alloc ?_ _)); exact BK124.out) hg (Kd.R_away HO143.out (fun _ hk => hk.2.2.2.2)))
          have n2_ := Aside0.mk (Kd.R_after (ok := (fun k_ => some k_ ≠ (v136 : Value).ownBlock ∧ some k_ ≠ (.slice Ao32 y144.length co32 : Value).ownBlock ∧ k_ ≠ gb123 ∧ k_ ≠ gb124)) (by (with_reducible repeat (first | apply Kd.R_alloc | apply Kd.R_drewN | apply Kd.R_drew)); exact Kd.R_mono HO134.out (fun _ hk => ⟨⟨hk.1, ⟨hk.2.2.1, ⟨hk.2.2.2.1, hk.2.2.2.2⟩⟩⟩, hk.2.1⟩)) hg hat)
          have n3_ := Aside0.mk (Kd.R_after (ok := (fun k_ => some k_ ≠ (.slice Ao23 y132.length co23 : Value).ownBlock ∧ some k_ ≠ (.slice Ao32 y144.length co32 : Value).ownBlock ∧ k_ ≠ gb123 ∧ k_ ≠ gb124)) (by (with_reducible repeat (first | apply Kd.R_alloc | apply Kd.R_drewN | apply Kd.R_drew)); exact Kd.R_mono HO137.out (fun _ hk => ⟨⟨hk.1, ⟨hk.2.2.1, ⟨hk.2.2.2.1, hk.2.2.2.2⟩⟩⟩, hk.2.1⟩)) hg hat)
          have n4_ := Aside0.mk (Kd.R_after (ok := (fun k_ => some k_ ≠ (.slice Ao23 y132.length co23 : Value).ownBlock ∧ some k_ ≠ (v136 : Value).ownBlock ∧ k_ ≠ gb123 ∧ k_ ≠ gb124)) (by (with_reducible repeat (first | apply Kd.R_alloc | apply Kd.R_drewN | apply Kd.R_drew)); exact Kd.R_mono HO146.out (fun _ hk => ⟨⟨hk.1, ⟨hk.2.1, ⟨hk.2.2.2.1, hk.2.2.2.2⟩⟩⟩, hk.2.2.1⟩)) hg hat)
          have n5_ := Aside0.mk (hb)
          have n6_ := Aside0.mk (ho)
          clear BK123
          clear BK124
          clear HO134
          clear HO137
          clear HO146
          clear HB
          clear HO143
          have BK123 := n0_
          have BK124 := n1_
          have HO134 := n2_
          have HO137 := n3_
          have HO146 := n4_
          have HB := n5_
          have HO149 := n6_
          clear n0_ n1_ n2_ n3_ n4_ n5_ n6_
          clear ho hb hg hat
          refine hK.out _ _ ⟨(blk_cell BK124.out 0).trans rfl, (blk_cell BK124.out 1).trans rfl, (blk_cell BK124.out 2).trans rfl⟩ (fun hHeld => ?_)
          clear hK K
          refine norm_ (a' := ?_) ?_ ?_
          rotate_left
          · show Act.put _ (some 25) _ = _
            simp only [Act.put, List.setIfInBounds_toArray, List.set_cons_zero, List.set_cons_succ, i64_w, i32_w]
            rfl
          refine pure_ (i := 6) (N := some 11) (v := ?_) (a' := ?_) #[true, true, true, true, true, true, true] rfl rfl (by kernel_rfl) (fun _ _ _ h => h) (Or.inl ⟨by rfl, ?_⟩) ?_ ?_
          rotate_left
          · intro w'
            go_simp
            with_reducible rfl
          rotate_left
          · simp only [Act.put, List.setIfInBounds_toArray, List.set_cons_zero, List.set_cons_succ, i64_w, i32_w]
            rfl
          refine done_ (by kernel_rfl) ?_
          have hnb33 := NB123_124.out
          have hnc33 := NB124_123.out
          have hcz34_0 : w31.cell? ⟨gb123, 0, none⟩ = some (.int .i64 a2_0) := (blk_cell BK123.out 0).trans rfl
          have hcz34_1 : w31.cell? ⟨gb123, 1, none⟩ = some (.int .i64 a2_1) := (blk_cell BK123.out 1).trans rfl
          have hcz34_2 : w31.cell? ⟨gb123, 2, none⟩ = some (.string a2_2) := (blk_cell BK123.out 2).trans rfl
          have hfz34_0 := blk_frozen BK123.out 0
          have hfz34_1 := blk_frozen BK123.out 1
          have hfz34_2 := blk_frozen BK123.out 2
          have hcz35_0 : w31.cell? ⟨gb124, 0, none⟩ = some (.int .i64 a3_0) := (blk_cell BK124.out 0).trans rfl
          have hcz35_1 : w31.cell? ⟨gb124, 1, none⟩ = some (.int .i64 a3_1) := (blk_cell BK124.out 1).trans rfl
          have hcz35_2 : w31.cell? ⟨gb124, 2, none⟩ = some (.string a3_2) := (blk_cell BK124.out 2).trans rfl
          have hfz35_0 := blk_frozen BK124.out 0
          have hfz35_1 := blk_frozen BK124.out 1
          have hfz35_2 := blk_frozen BK124.out 2
          go_upto_region 5 with (first | ((with_reducible refine gate_callee (f := 10) rfl ?_); refine goesL_ (some 28) rfl rfl Try.func10 (by kernel_rfl) rfl #[.agg #[.int .i64 a2_0, .int .i64 a2_1, .string a2_2], .agg #[.int .i64 a3_0, .int .i64 a3_1, .string a3_2]] rfl (by (try simp only [List.map_toArray, List.map_cons, List.map_nil]); first | done | rfl | (simp only [List.length_drop, List.length_take]; rfl)) ?_; (with_reducible refine (val_Compare.calls a2_0 a2_1 a2_2 a3_0 a3_1 a3_2 t150 _ A10.out).mono ?_); rintro e w36 ⟨rfl, hb⟩; refine ⟨_, rfl, ?_⟩; have n0_ := Aside0.mk (Kd.R_below (by (with_reducible repeat (first | apply Kd.R_alloc | apply Kd.R_drewN | apply Kd.R_drew)); exact HO134.out) hb); have n1_ := Aside0.mk (Kd.R_below (by (with_reducible repeat (first | apply Kd.R_alloc | apply Kd.R_drewN | apply Kd.R_drew)); exact HO137.out) hb); have n2_ := Aside0.mk (Kd.R_below (by (with_reducible repeat (first | apply Kd.R_alloc | apply Kd.R_drewN | apply Kd.R_drew)); exact HO146.out) hb); have n3_ := Aside0.mk (Kd.R_below (by (with_reducible repeat (first | apply Kd.R_alloc | apply Kd.R_drewN | apply Kd.R_drew)); exact HO149.out) hb); have n4_ := Aside0.mk (blk_below (g := gb123) (o := .cells #[.int .i64 a2_0, .int .i64 a2_1, .string a2_2] 23 (0, 0)) (by (with_reducible repeat (first | refine blk_drewN ?_ _ | refine blk_drew ?_ | refine blk_alloc ?_ _)); exact BK123.out) hb); have n5_ := Aside0.mk (blk_below (g := gb124) (o := .cells #[.int .i64 a3_0, .int .i64 a3_1, .string a3_2] 23 (0, 0)) (by (with_reducible repeat (first | refine blk_drewN ?_ _ | refine blk_drew ?_ | refine blk_alloc ?_ _)); exact BK124.out) hb); have n6_ := Aside0.mk (below_step (by repeat (first | (with_reducible first | exact HB.out | apply below_alloc | apply pw_below_drewN | apply below_drew1 | refine below_set ?_ GE123.out | refine below_set ?_ GE124.out) | exact HB.out)) hb); clear HO134; clear HO137; clear HO146; clear HO149; clear BK123; clear BK124; clear HB; have HO134 := n0_; have HO137 := n1_; have HO146 := n2_; have HO149 := n3_; have BK123 := n4_; have BK124 := n5_; have HB := n6_; clear n0_ n1_ n2_ n3_ n4_ n5_ n6_; (try clear hb); (try clear hb2); (try clear hk); (try clear hi)))
          (try simp only [Act.put, List.setIfInBounds_toArray, List.set_cons_zero, List.set_cons_succ])
          go_cut [39] (fun v39 wc => ∃ (kq : Nat) (x39_10 : Bool), v39 = .bool x39_10 ∧ Aside0 (law05_ValRows.j0 kq l0 l1 t125 y135 x39_10 = some r) ∧ Aside0 (kq ≤ k) ∧ Aside0 (Kd.R k23 23 wc w.heap.size (fun k_ => k_ ≠ gb123 ∧ k_ ≠ gb124) v136 y135) ∧ Aside0 (wc.heap[gb123]? = some (.cells #[.int .i64 a2_0, .int .i64 a2_1, .string a2_2] 23 (0, 0))) ∧ Aside0 (wc.heap[gb124]? = some (.cells #[.int .i64 a3_0, .int .i64 a3_1, .string a3_2] 23 (0, 0))) ∧ Aside0 (Below w.heap.size w wc))
          case first =>
            have H := HC11.out
            clear HC11
            by_cases c37 : t150 = 0
            · rw [if_pos c37] at H
              have c37b0 : (t150 == 0) = true := beq_iff_eq.mpr c37
              have c37b1 : (t150 != 0) = false := bne_eq_false_iff_eq.mpr c37
              clear c37
              (first | rw [c37b0] | (simp only [i64_w, i32_w]; rw [c37b0]) | skip)
              have H' := Aside0.mk H
              clear H
              go_wp2
              go_meet
              case rel => exact ⟨_, (false), (by first | rfl | (simp; done) | (simp [*]; done)), H', ⟨by first | omega | exact Nat.le_refl _⟩, ⟨by (with_reducible repeat (first | apply Kd.R_alloc | apply Kd.R_drewN | apply Kd.R_drew)); exact Kd.R_mono HO137.out (fun _ hk => ⟨hk.1.2.2.1, hk.1.2.2.2⟩)⟩, ⟨by (with_reducible repeat (first | refine blk_drewN ?_ _ | refine blk_drew ?_ | refine blk_alloc ?_ _)); exact BK123.out⟩, ⟨by (with_reducible repeat (first | refine blk_drewN ?_ _ | refine blk_drew ?_ | refine blk_alloc ?_ _)); exact BK124.out⟩, ⟨by repeat (first | (with_reducible first | exact HB.out | apply below_alloc | apply pw_below_drewN | apply below_drew1 | refine below_set ?_ GE123.out | refine below_set ?_ GE124.out) | exact HB.out)⟩⟩
            · rw [if_neg c37] at H
              have c37b0 : (t150 == 0) = false := beq_eq_false_iff_ne.mpr c37
              have c37b1 : (t150 != 0) = true := bne_iff_ne.mpr c37
              (first | rw [c37b0] | (simp only [i64_w, i32_w]; rw [c37b0]) | skip)
              replace H := Option.bind_eq_some_iff.mp H
              obtain ⟨t151, A380, H⟩ := H
              replace H : (law05_ValRows.j0 k l0 l1 t125 y135 (t151 != t150)) = some r := H
              have A38 := Aside0.mk A380
              clear A380
              have H' := Aside0.mk H
              clear H
              obtain ⟨Ao39, co39, eo39⟩ := Kd.R_slice HO137.out
              subst eo39
              obtain ⟨Ao40, co40, eo40⟩ := Kd.R_slice HO149.out
              subst eo40
              obtain ⟨yz, Nyz0⟩ : ∃ y_ : List S23, y_ = y135 ++ l1 := ⟨_, rfl⟩
              obtain ⟨LMz0, Az0⟩ := val_Clean.open A38.out
              rw [← Nyz0] at Az0
              have Nyz := Aside0.mk Nyz0
              have LMz := Aside0.mk LMz0
              have Az := Aside0.mk Az0
              clear Nyz0 LMz0 Az0 A38
              clear HO134 HO146
              go_wp2_with (first | ((with_reducible refine gate_builtin (b := .append) (xs := #[.tmp 32, .tmp 33]) rfl ?_); at_builtin; refine Go.Proofs.Ythooijfdlamkkaa.Hand.append_keep k23 flatVal (w0 := w) w.heap.size (by rfl) (.tmp 32) (.tmp 33) 33 23 (.agg #[(.int .i64 0), (.int .i64 0), (.string ⟨#[]⟩)]) 32 rfl Try.underlying33 info23 rfl (by decide) (by omega) (.slice Ao39 y135.length co39) y135 l1 A1 l1.length c1 (fun k_ => some k_ ≠ (Value.slice Ao40 y147.length co40).ownBlock ∧ k_ ≠ gb123 ∧ k_ ≠ gb124) rfl rfl (Kd.R_mono HO137.out (fun _ hk => ⟨hk.2, hk.1.2.2.1, hk.1.2.2.2⟩)) (Kd.C_below HR1.out HB.out) ?aF HB.out (below_size HB.out) ?aL ?_; (case aF => exact (fun k_ hk => ⟨Kd.fresh' (Kd.R_lt HO149.out) k_ hk, Kd.freshB BK123.out k_ hk, Kd.freshB BK124.out k_ hk⟩)); (case aL => have := LMz.out; omega); intro vz wz ho1 hok hb hg; rw [← Nyz.out] at ho1; have n0_ := Aside0.mk (blk_grown BK123.out hg (Kd.R_away HO137.out (fun _ hk => hk.1.2.2.1))); have n1_ := Aside0.mk (blk_grown BK124.out hg (Kd.R_away HO137.out (fun _ hk => hk.1.2.2.2))); have n2_ := Aside0.mk (Kd.R_grown HO149.out hg (fun k hk => hk.2.1)); have n3_ := Aside0.mk hok; have HOz := Aside0.mk ho1; have n4_ := Aside0.mk hb; clear BK123 BK124 HO137 HO149 HB hb hg ho1 hok; have BK123 := n0_; have BK124 := n1_; have HO149 := n2_; have HO137 := n3_; have HB := n4_; clear n0_ n1_ n2_ n3_ n4_; obtain ⟨Az_, cz_, ez_⟩ := Kd.R_slice HOz.out; subst ez_) | (go_at_call 13; (with_reducible refine (val_Rows.calls k _ _ yz _ _ y147 t151 _ ?side1 ?side2 ?side3 ?side4 Az.out).mono ?_); (case side1 => exact (Kd.R_reads' HOz.out).2.2); (case side2 => exact (Kd.R_reads' HOz.out).2.1); (case side3 => exact (Kd.R_reads' HO149.out).2.2); (case side4 => exact (Kd.R_reads' HO149.out).2.1); rintro e wy ⟨rfl, hb⟩; have n0_ := Aside0.mk (Kd.R_below HO137.out hb); have n1_ := Aside0.mk (blk_below BK123.out hb); have n2_ := Aside0.mk (blk_below BK124.out hb); have n3_ := Aside0.mk (below_step HB.out hb); clear BK123 BK124 HO137 HO149 HOz HB; have HO137 := n0_; have BK123 := n1_; have BK124 := n2_; have HB := n3_; clear n0_ n1_ n2_ n3_ hb))
              go_meet
              case rel => exact ⟨_, ((t151 != t150)), (by first | rfl | (simp; done) | (simp [*]; done)), H', ⟨by first | omega | exact Nat.le_refl _⟩, ⟨by (with_reducible repeat (first | apply Kd.R_alloc | apply Kd.R_drewN | apply Kd.R_drew)); exact Kd.R_mono HO137.out (fun _ hk => hk.2)⟩, ⟨by (with_reducible repeat (first | refine blk_drewN ?_ _ | refine blk_drew ?_ | refine blk_alloc ?_ _)); exact BK123.out⟩, ⟨by (with_reducible repeat (first | refine blk_drewN ?_ _ | refine blk_drew ?_ | refine blk_alloc ?_ _)); exact BK124.out⟩, ⟨by repeat (first | (with_reducible first | exact HB.out | apply below_alloc | apply pw_below_drewN | apply below_drew1 | refine below_set ?_ GE123.out | refine below_set ?_ GE124.out) | exact HB.out)⟩⟩
          case rest =>
            clear HC11
            try clear c1
            try clear p2
            try clear c3
            try clear c6
            try clear c7
            try clear c8
            try clear c9
            try clear c10
            try clear c33
            try clear c37
            try clear c37b0
            try clear c37b1
            try clear hcz34_0
            try clear hcz34_1
            try clear hcz34_2
            try clear hcz35_0
            try clear hcz35_1
            try clear hcz35_2
            try clear hfz34_0
            try clear hfz34_1
            try clear hfz34_2
            try clear hfz35_0
            try clear hfz35_1
            try clear hfz35_2
            obtain ⟨kq, x39_10, rfl, HA, HJ10, HO_10, BK123, BK124, HB⟩ := hcut
            cases kq with
            | zero => exact absurd HA.out (by simp [law05_ValRows.j0])
            | succ kj10 =>
              have H := HA.out
              clear HA
              simp only [law05_ValRows.j0] at H
              by_cases c42 : x39_10 = true
              · subst c42
                have H1 : (some false) = some r := by rw [if_pos rfl] at H; exact H
                clear H
                have H := H1
                clear H1
                exact absurd ((Option.some.inj H).trans hr_.out) (by decide)
              · replace c42 := Bool.eq_false_iff.mpr c42
                subst c42
                have H1 : (if t125 = true then ((val_Rows.f kj10 l0 y135).bind fun t152 => (if t152 = (-1) then ((val_Rows.f kj10 y135 l0).bind fun t153 => (if t153 = 1 then ((val_Rows.f kj10 l0 l0).bind fun t154 => (if t154 = 0 then ((val_Rows.f kj10 l0 l1).bind fun t155 => ((val_Rows.f kj10 l1 l0).bind fun t156 => (some (t155 == (wrap64 (-t156)))))) else (some false))) else (some false))) else (some false))) else (some false)) = some r := by rw [if_neg (show ¬ (false = true) by decide)] at H; exact H
                clear H
                have H := H1
                clear H1
                by_cases c43 : t125 = true
                · subst c43
                  have H1 : ((val_Rows.f kj10 l0 y135).bind fun t152 => (if t152 = (-1) then ((val_Rows.f kj10 y135 l0).bind fun t153 => (if t153 = 1 then ((val_Rows.f kj10 l0 l0).bind fun t154 => (if t154 = 0 then ((val_Rows.f kj10 l0 l1).bind fun t155 => ((val_Rows.f kj10 l1 l0).bind fun t156 => (some (t155 == (wrap64 (-t156)))))) else (some false))) else (some false))) else (some false))) = some r := by rw [if_pos rfl] at H; exact H
                  clear H
                  have H := H1
                  clear H1
                  replace H := Option.bind_eq_some_iff.mp H
                  obtain ⟨t152, A440, H⟩ := H
                  replace H : (if t152 = (-1) then ((val_Rows.f kj10 y135 l0).bind fun t153 => (if t153 = 1 then ((val_Rows.f kj10 l0 l0).bind fun t154 => (if t154 = 0 then ((val_Rows.f kj10 l0 l1).bind fun t155 => ((val_Rows.f kj10 l1 l0).bind fun t156 => (some (t155 == (wrap64 (-t156)))))) else (some false))) else (some false))) else (some false)) = some r := H
                  have A44 := Aside0.mk A440
                  clear A440
                  by_cases c45 : t152 = (-1)
                  · rw [if_pos c45] at H
                    have c45b0 : (t152 == (-1)) = true := beq_iff_eq.mpr c45
                    have c45b1 : (t152 != (-1)) = false := bne_eq_false_iff_eq.mpr c45
                    clear c45
                    replace H := Option.bind_eq_some_iff.mp H
                    obtain ⟨t153, A460, H⟩ := H
                    replace H : (if t153 = 1 then ((val_Rows.f kj10 l0 l0).bind fun t154 => (if t154 = 0 then ((val_Rows.f kj10 l0 l1).bind fun t155 => ((val_Rows.f kj10 l1 l0).bind fun t156 => (some (t155 == (wrap64 (-t156)))))) else (some false))) else (some false)) = some r := H
                    have A46 := Aside0.mk A460
                    clear A460
                    by_cases c47 : t153 = 1
                    · rw [if_pos c47] at H
                      have c47b0 : (t153 == 1) = true := beq_iff_eq.mpr c47
                      have c47b1 : (t153 != 1) = false := bne_eq_false_iff_eq.mpr c47
                      clear c47
                      replace H := Option.bind_eq_some_iff.mp H
                      obtain ⟨t154, A480, H⟩ := H
                      replace H : (if t154 = 0 then ((val_Rows.f kj10 l0 l1).bind fun t155 => ((val_Rows.f kj10 l1 l0).bind fun t156 => (some (t155 == (wrap64 (-t156)))))) else (some false)) = some r := H
                      have A48 := Aside0.mk A480
                      clear A480
                      by_cases c49 : t154 = 0
                      · rw [if_pos c49] at H
                        have c49b0 : (t154 == 0) = true := beq_iff_eq.mpr c49
                        have c49b1 : (t154 != 0) = false := bne_eq_false_iff_eq.mpr c49
                        clear c49
                        replace H := Option.bind_eq_some_iff.mp H
                        obtain ⟨t155, A500, H⟩ := H
                        replace H : ((val_Rows.f kj10 l1 l0).bind fun t156 => (some (t155 == (wrap64 (-t156))))) = some r := H
                        have A50 := Aside0.mk A500
                        clear A500
                        replace H := Option.bind_eq_some_iff.mp H
                        obtain ⟨t156, A510, H⟩ := H
                        replace H : (some (t155 == (wrap64 (-t156)))) = some r := H
                        have A51 := Aside0.mk A510
                        clear A510
                        obtain rfl := Option.some.inj H
                        obtain ⟨Ao52, co52, eo52⟩ := Kd.R_slice HO_10.out
                        subst eo52
                        go_wp2_with (first | (go_at_call 13; (with_reducible refine (val_Rows.calls kj10 _ _ l0 _ _ y135 t152 _ ?side1 ?side2 ?side3 ?side4 A44.out).mono ?_); (case side1 => repeat (first | exact (Kd.C_below HR0.out HB.out) | (with_reducible refine Kd.C_alloc ?_ _) | (with_reducible refine Kd.C_drewN ?_ _) | (with_reducible refine Kd.C_drew ?_))); (case side2 => exact HC0.out); (case side3 => repeat (first | exact (Kd.R_reads' HO_10.out).2.2 | (with_reducible refine Kd.C_alloc ?_ _) | (with_reducible refine Kd.C_drewN ?_ _) | (with_reducible refine Kd.C_drew ?_))); (case side4 => exact (Kd.R_reads' HO_10.out).2.1); rintro e w53 ⟨rfl, hb⟩; have n0_ := Aside0.mk (Kd.R_below (by (with_reducible repeat (first | apply Kd.R_alloc | apply Kd.R_drewN | apply Kd.R_drew)); exact HO_10.out) hb); have n1_ := Aside0.mk (blk_below (g := gb123) (o := .cells #[.int .i64 a2_0, .int .i64 a2_1, .string a2_2] 23 (0, 0)) (by (with_reducible repeat (first | refine blk_drewN ?_ _ | refine blk_drew ?_ | refine blk_alloc ?_ _)); exact BK123.out) hb); have n2_ := Aside0.mk (blk_below (g := gb124) (o := .cells #[.int .i64 a3_0, .int .i64 a3_1, .string a3_2] 23 (0, 0)) (by (with_reducible repeat (first | refine blk_drewN ?_ _ | refine blk_drew ?_ | refine blk_alloc ?_ _)); exact BK124.out) hb); have n3_ := Aside0.mk (below_step (by repeat (first | (with_reducible first | exact HB.out | apply below_alloc | apply pw_below_drewN | apply below_drew1 | refine below_set ?_ GE123.out | refine below_set ?_ GE124.out) | exact HB.out)) hb); clear HO_10; clear BK123; clear BK124; clear HB; have HO_10 := n0_; have BK123 := n1_; have BK124 := n2_; have HB := n3_; clear n0_ n1_ n2_ n3_; (try clear hb); (try clear hb2); (try clear hk); (try clear hi)) | (go_at_call 13; (with_reducible refine (val_Rows.calls kj10 _ _ y135 _ _ l0 t153 _ ?side1 ?side2 ?side3 ?side4 A46.out).mono ?_); (case side1 => repeat (first | exact (Kd.R_reads' HO_10.out).2.2 | (with_reducible refine Kd.C_alloc ?_ _) | (with_reducible refine Kd.C_drewN ?_ _) | (with_reducible refine Kd.C_drew ?_))); (case side2 => exact (Kd.R_reads' HO_10.out).2.1); (case side3 => repeat (first | exact (Kd.C_below HR0.out HB.out) | (with_reducible refine Kd.C_alloc ?_ _) | (with_reducible refine Kd.C_drewN ?_ _) | (with_reducible refine Kd.C_drew ?_))); (case side4 => exact HC0.out); rintro e w54 ⟨rfl, hb⟩; have n0_ := Aside0.mk (Kd.R_below (by (with_reducible repeat (first | apply Kd.R_alloc | apply Kd.R_drewN | apply Kd.R_drew)); exact HO_10.out) hb); have n1_ := Aside0.mk (blk_below (g := gb123) (o := .cells #[.int .i64 a2_0, .int .i64 a2_1, .string a2_2] 23 (0, 0)) (by (with_reducible repeat (first | refine blk_drewN ?_ _ | refine blk_drew ?_ | refine blk_alloc ?_ _)); exact BK123.out) hb); have n2_ := Aside0.mk (blk_below (g := gb124) (o := .cells #[.int .i64 a3_0, .int .i64 a3_1, .string a3_2] 23 (0, 0)) (by (with_reducible repeat (first | refine blk_drewN ?_ _ | refine blk_drew ?_ | refine blk_alloc ?_ _)); exact BK124.out) hb); have n3_ := Aside0.mk (below_step (by repeat (first | (with_reducible first | exact HB.out | apply below_alloc | apply pw_below_drewN | apply below_drew1 | refine below_set ?_ GE123.out | refine below_set ?_ GE124.out) | exact HB.out)) hb); clear HO_10; clear BK123; clear BK124; clear HB; have HO_10 := n0_; have BK123 := n1_; have BK124 := n2_; have HB := n3_; clear n0_ n1_ n2_ n3_; (try clear hb); (try clear hb2); (try clear hk); (try clear hi)) | (go_at_call 13; (with_reducible refine (val_Rows.calls kj10 _ _ l0 _ _ l0 t154 _ ?side1 ?side2 ?side3 ?side4 A48.out).mono ?_); (case side1 => repeat (first | exact (Kd.C_below HR0.out HB.out) | (with_reducible refine Kd.C_alloc ?_ _) | (with_reducible refine Kd.C_drewN ?_ _) | (with_reducible refine Kd.C_drew ?_))); (case side2 => exact HC0.out); (case side3 => repeat (first | exact (Kd.C_below HR0.out HB.out) | (with_reducible refine Kd.C_alloc ?_ _) | (with_reducible refine Kd.C_drewN ?_ _) | (with_reducible refine Kd.C_drew ?_))); (case side4 => exact HC0.out); rintro e w55 ⟨rfl, hb⟩; have n0_ := Aside0.mk (Kd.R_below (by (with_reducible repeat (first | apply Kd.R_alloc | apply Kd.R_drewN | apply Kd.R_drew)); exact HO_10.out) hb); have n1_ := Aside0.mk (blk_below (g := gb123) (o := .cells #[.int .i64 a2_0, .int .i64 a2_1, .string a2_2] 23 (0, 0)) (by (with_reducible repeat (first | refine blk_drewN ?_ _ | refine blk_drew ?_ | refine blk_alloc ?_ _)); exact BK123.out) hb); have n2_ := Aside0.mk (blk_below (g := gb124) (o := .cells #[.int .i64 a3_0, .int .i64 a3_1, .string a3_2] 23 (0, 0)) (by (with_reducible repeat (first | refine blk_drewN ?_ _ | refine blk_drew ?_ | refine blk_alloc ?_ _)); exact BK124.out) hb); have n3_ := Aside0.mk (below_step (by repeat (first | (with_reducible first | exact HB.out | apply below_alloc | apply pw_below_drewN | apply below_drew1 | refine below_set ?_ GE123.out | refine below_set ?_ GE124.out) | exact HB.out)) hb); clear HO_10; clear BK123; clear BK124; clear HB; have HO_10 := n0_; have BK123 := n1_; have BK124 := n2_; have HB := n3_; clear n0_ n1_ n2_ n3_; (try clear hb); (try clear hb2); (try clear hk); (try clear hi)) | (go_at_call 13; (with_reducible refine (val_Rows.calls kj10 _ _ l0 _ _ l1 t155 _ ?side1 ?side2 ?side3 ?side4 A50.out).mono ?_); (case side1 => repeat (first | exact (Kd.C_below HR0.out HB.out) | (with_reducible refine Kd.C_alloc ?_ _) | (with_reducible refine Kd.C_drewN ?_ _) | (with_reducible refine Kd.C_drew ?_))); (case side2 => exact HC0.out); (case side3 => repeat (first | exact (Kd.C_below HR1.out HB.out) | (with_reducible refine Kd.C_alloc ?_ _) | (with_reducible refine Kd.C_drewN ?_ _) | (with_reducible refine Kd.C_drew ?_))); (case side4 => exact HC1.out); rintro e w56 ⟨rfl, hb⟩; have n0_ := Aside0.mk (Kd.R_below (by (with_reducible repeat (first | apply Kd.R_alloc | apply Kd.R_drewN | apply Kd.R_drew)); exact HO_10.out) hb); have n1_ := Aside0.mk (blk_below (g := gb123) (o := .cells #[.int .i64 a2_0, .int .i64 a2_1, .string a2_2] 23 (0, 0)) (by (with_reducible repeat (first | refine blk_drewN ?_ _ | refine blk_drew ?_ | refine blk_alloc ?_ _)); exact BK123.out) hb); have n2_ := Aside0.mk (blk_below (g := gb124) (o := .cells #[.int .i64 a3_0, .int .i64 a3_1, .string a3_2] 23 (0, 0)) (by (with_reducible repeat (first | refine blk_drewN ?_ _ | refine blk_drew ?_ | refine blk_alloc ?_ _)); exact BK124.out) hb); have n3_ := Aside0.mk (below_step (by repeat (first | (with_reducible first | exact HB.out | apply below_alloc | apply pw_below_drewN | apply below_drew1 | refine below_set ?_ GE123.out | refine below_set ?_ GE124.out) | exact HB.out)) hb); clear HO_10; clear BK123; clear BK124; clear HB; have HO_10 := n0_; have BK123 := n1_; have BK124 := n2_; have HB := n3_; clear n0_ n1_ n2_ n3_; (try clear hb); (try clear hb2); (try clear hk); (try clear hi)) | (go_at_call 13; (with_reducible refine (val_Rows.calls kj10 _ _ l1 _ _ l0 t156 _ ?side1 ?side2 ?side3 ?side4 A51.out).mono ?_); (case side1 => repeat (first | exact (Kd.C_below HR1.out HB.out) | (with_reducible refine Kd.C_alloc ?_ _) | (with_reducible refine Kd.C_drewN ?_ _) | (with_reducible refine Kd.C_drew ?_))); (case side2 => exact HC1.out); (case side3 => repeat (first | exact (Kd.C_below HR0.out HB.out) | (with_reducible refine Kd.C_alloc ?_ _) | (with_reducible refine Kd.C_drewN ?_ _) | (with_reducible refine Kd.C_drew ?_))); (case side4 => exact HC0.out); rintro e w57 ⟨rfl, hb⟩; have n0_ := Aside0.mk (Kd.R_below (by (with_reducible repeat (first | apply Kd.R_alloc | apply Kd.R_drewN | apply Kd.R_drew)); exact HO_10.out) hb); have n1_ := Aside0.mk (blk_below (g := gb123) (o := .cells #[.int .i64 a2_0, .int .i64 a2_1, .string a2_2] 23 (0, 0)) (by (with_reducible repeat (first | refine blk_drewN ?_ _ | refine blk_drew ?_ | refine blk_alloc ?_ _)); exact BK123.out) hb); have n2_ := Aside0.mk (blk_below (g := gb124) (o := .cells #[.int .i64 a3_0, .int .i64 a3_1, .string a3_2] 23 (0, 0)) (by (with_reducible repeat (first | refine blk_drewN ?_ _ | refine blk_drew ?_ | refine blk_alloc ?_ _)); exact BK124.out) hb); have n3_ := Aside0.mk (below_step (by repeat (first | (with_reducible first | exact HB.out | apply below_alloc | apply pw_below_drewN | apply below_drew1 | refine below_set ?_ GE123.out | refine below_set ?_ GE124.out) | exact HB.out)) hb); clear HO_10; clear BK123; clear BK124; clear HB; have HO_10 := n0_; have BK123 := n1_; have BK124 := n2_; have HB := n3_; clear n0_ n1_ n2_ n3_; (try clear hb); (try clear hb2); (try clear hk); (try clear hi)))
                        go_ret
                        exact ⟨by first | rfl | (simp [errW_none, errW_some] <;> rfl) | (simp [*, errW_none, errW_some] <;> rfl), by repeat (first | (with_reducible first | exact HB.out | apply below_alloc | apply pw_below_drewN | apply below_drew1 | refine below_set ?_ GE123.out | refine below_set ?_ GE124.out) | exact HB.out)⟩
                      · rw [if_neg c49] at H
                        have c49b0 : (t154 == 0) = false := beq_eq_false_iff_ne.mpr c49
                        have c49b1 : (t154 != 0) = true := bne_iff_ne.mpr c49
                        exact absurd ((Option.some.inj H).trans hr_.out) (by decide)
                    · rw [if_neg c47] at H
                      have c47b0 : (t153 == 1) = false := beq_eq_false_iff_ne.mpr c47
                      have c47b1 : (t153 != 1) = true := bne_iff_ne.mpr c47
                      exact absurd ((Option.some.inj H).trans hr_.out) (by decide)
                  · rw [if_neg c45] at H
                    have c45b0 : (t152 == (-1)) = false := beq_eq_false_iff_ne.mpr c45
                    have c45b1 : (t152 != (-1)) = true := bne_iff_ne.mpr c45
                    exact absurd ((Option.some.inj H).trans hr_.out) (by decide)
                · replace c43 := Bool.eq_false_iff.mpr c43
                  subst c43
                  have H1 : (some false) = some r := by rw [if_neg (show ¬ (false = true) by decide)] at H; exact H
                  clear H
                  have H := H1
                  clear H1
                  exact absurd ((Option.some.inj H).trans hr_.out) (by decide)
        · rw [if_neg c9] at H
          exact absurd H (by simp)
      · rw [if_neg c8] at H
        exact absurd H (by simp)
    · rw [if_neg c7] at H
      exact absurd H (by simp)
  · rw [if_neg c6] at H
    exact absurd H (by simp)

/-- THE ONE PURE STATEMENT of law05_ValRows: yours. -/
def law05_ValRows.Pure : Prop := ∀ (l0 : List (S23)) (l1 : List (S23)) (a2_0 : Int) (a2_1 : Int) (a2_2 : ByteArray) (a3_0 : Int) (a3_1 : Int) (a3_2 : ByteArray), Hand.WfRow 32 wfS23 l0 → Hand.WfRow 32 wfS23 l1 → (Lit.int .i64 a2_0).wf = true → (Lit.int .i64 a2_1).wf = true → a2_2.size ≤ 140737488351232 → (Lit.int .i64 a3_0).wf = true → (Lit.int .i64 a3_1).wf = true → a3_2.size ≤ 140737488351232 → ∃ k, law05_ValRows.f k l0 l1 a2_0 a2_1 a2_2 a3_0 a3_1 a3_2 = some true
theorem law05_ValRows.walk (P : law05_ValRows.Pure) (A0 : Option Addr) (c0 : Nat) (l0 : List (S23)) (A1 : Option Addr) (c1 : Nat) (l1 : List (S23)) (a2_0 : Int) (a2_1 : Int) (a2_2 : ByteArray) (a3_0 : Int) (a3_1 : Int) (a3_2 : ByteArray) (w : World) (w0 : l0.length ≤ c0 ∧ Kd.C k23 w A0 l0.length l0 ∧ Hand.WfRow 32 wfS23 l0) (w1 : l1.length ≤ c1 ∧ Kd.C k23 w A1 l1.length l1 ∧ Hand.WfRow 32 wfS23 l1) (w2_0 : (Lit.int .i64 a2_0).wf = true) (w2_1 : (Lit.int .i64 a2_1).wf = true) (w2_2 : a2_2.size ≤ 140737488351232) (w3_0 : (Lit.int .i64 a3_0).wf = true) (w3_1 : (Lit.int .i64 a3_1).wf = true) (w3_2 : a3_2.size ≤ 140737488351232) :
    Calls Try.prog 5 #[.slice A0 l0.length c0, .slice A1 l1.length c1, .agg #[.int .i64 a2_0, .int .i64 a2_1, .string a2_2], .agg #[.int .i64 a3_0, .int .i64 a3_1, .string a3_2]] w fun e w' => e = .returned (.bool true) ∧ Below w.heap.size w w' := by
  obtain ⟨hc0, hr0, hw0⟩ := w0
  obtain ⟨hc1, hr1, hw1⟩ := w1
  obtain ⟨k, h⟩ := P l0 l1 a2_0 a2_1 a2_2 a3_0 a3_1 a3_2 hw0 hw1 w2_0 w2_1 w2_2 w3_0 w3_1 w3_2
  refine (law05_ValRows.calls k _ _ l0 _ _ l1 a2_0 a2_1 a2_2 a3_0 a3_1 a3_2 true w hr0 hc0 hr1 hc1 ⟨rfl⟩ h).mono ?_
  rintro e w' ⟨rfl, hd⟩
  exact ⟨rfl, hd⟩

end Go.Proofs.Ythooijfdlamkkaa.PVro
