-- Written by this session's program wip/gprint/gprint.py, over the kit's print, with given functions; no text of print.sh's.
import Derived.Test.YtjchjdbfmiibhaaPPlax0
import Derived.Test.YtjchjdbfmiibhaaPPlax5
import Derived.Test.YtjchjdbfmiibhaaPPlax10
namespace Go.Proofs.Ytjchjdbfmiibhaa.PPla
open Go.RowKit Go.Proofs.YtjchjdbfmiibhaaW.PrintWords Go.Proofs.YtjchjdbfmiibhaaW.PrintLast Go.Proofs.YtjchjdbfmiibhaaW.PrintMore
attribute [local go_sem] max2_int min2_int max_two min_two max_three min_three max_four min_four   -- for this text's walks alone
set_option linter.unusedVariables false
set_option linter.unusedSimpArgs false

/-! ### law07_PlainBack: function 6 -/
def law07_PlainBack.j0 : Nat → Int → List Int → Int → Bool → Bool → Option (Bool)
  | 0, _, _, _, _, _ => none
  | k + 1, x1, x2, x3, x9, x66 => if x66 = true then (some false) else ((plain_Of.f k x2 x3 x1).bind fun bt253 => (if bt253.2 = 0 then ((plain_Bytes.f k bt253.1 x1).bind fun bt257 => (if x9 = true then (if bt257.2 = 0 then (if (strOfNums bt257.1).toList = (strOfNums x2).toList then (some ((bt253.1.length : Int) == x3)) else (some false)) else (some false)) else (some false))) else (if x9 = true then (some ((bt253.1.length : Int) == 0)) else (some false))))
def law07_PlainBack.f (k : Nat) (l0 : List (S32)) (a1 : Int) (l2 : List Int) (a3 : Int) : Option (Bool) := (law07_shown.f k).bind fun t229 => ((law07_few.f k l0).bind fun t230 => (if t230 = true then ((plain_Bytes.f k l0 a1).bind fun bt231 => ((plain_Of.f k bt231.1 (l0.length : Int) a1).bind fun bt235 => ((some (([] : List Int) : List Int)).bind fun y239 => (if y239.length + bt231.1.length < 140737488355328 then ((some (y239 ++ bt231.1 : List Int)).bind fun y242 => (if y242.length < 140737488355328 then ((plain_Of.f k (y242 ++ [0]) (l0.length : Int) a1).bind fun bt248 => (if bt231.2 = 0 then (if bt235.2 = 0 then ((ref05_Same.f k l0 bt235.1).bind fun t252 => (if t252 = true then (law07_PlainBack.j0 k a1 l2 a3 t229 (bt248.2 != 4)) else (law07_PlainBack.j0 k a1 l2 a3 t229 true))) else (law07_PlainBack.j0 k a1 l2 a3 t229 true)) else (law07_PlainBack.j0 k a1 l2 a3 t229 false))) else (none))) else (none))))) else (some t229)))
theorem law07_PlainBack.mono_l : ∀ k, (∀ y0 y1 y2 y3 y4, LeO (law07_PlainBack.j0 k y0 y1 y2 y3 y4) (law07_PlainBack.j0 (k + 1) y0 y1 y2 y3 y4))
  | 0 => fun _ _ _ _ _ r h => by simp [law07_PlainBack.j0] at h
  | k + 1 => by
    have ih0 := law07_PlainBack.mono_l k
    · intro y0 y1 y2 y3 y4
      unfold law07_PlainBack.j0
      repeat' first
      | (with_reducible exact ih0 _ _ _ _ _)
      | (with_reducible exact law07_few.mono _ _)
      | (with_reducible exact law07_shown.mono _)
      | (with_reducible exact plain_Bytes.mono _ _ _)
      | (with_reducible exact plain_Of.mono _ _ _ _)
      | (with_reducible exact ref05_Same.mono _ _ _)
      | (with_reducible exact LeO.refl _)
      | (with_reducible exact LeO.none _)
      | (with_reducible refine LeO.ite ?_ ?_)
      | (with_reducible refine LeO.bind ?_ (fun _ => ?_))
      | exact ih0 _ _ _ _ _
      | exact law07_few.mono _ _
      | exact law07_shown.mono _
      | exact plain_Bytes.mono _ _ _
      | exact plain_Of.mono _ _ _ _
      | exact ref05_Same.mono _ _ _
      | exact LeO.none _
      | refine LeO.ite ?_ ?_
      | refine LeO.bind ?_ (fun _ => ?_)
theorem law07_PlainBack.mono : ∀ a0 a1 a2 a3 k, LeO (law07_PlainBack.f k a0 a1 a2 a3) (law07_PlainBack.f (k + 1) a0 a1 a2 a3) := by
  intro a0 a1 a2 a3 k
  have ih0 := law07_PlainBack.mono_l k
  unfold law07_PlainBack.f
  repeat' first
      | (with_reducible exact ih0 _ _ _ _ _)
      | (with_reducible exact law07_few.mono _ _)
      | (with_reducible exact law07_shown.mono _)
      | (with_reducible exact plain_Bytes.mono _ _ _)
      | (with_reducible exact plain_Of.mono _ _ _ _)
      | (with_reducible exact ref05_Same.mono _ _ _)
      | (with_reducible exact LeO.refl _)
      | (with_reducible exact LeO.none _)
      | (with_reducible refine LeO.ite ?_ ?_)
      | (with_reducible refine LeO.bind ?_ (fun _ => ?_))
      | exact ih0 _ _ _ _ _
      | exact law07_few.mono _ _
      | exact law07_shown.mono _
      | exact plain_Bytes.mono _ _ _
      | exact plain_Of.mono _ _ _ _
      | exact ref05_Same.mono _ _ _
      | exact LeO.none _
      | refine LeO.ite ?_ ?_
      | refine LeO.bind ?_ (fun _ => ?_)
set_option maxHeartbeats 8000000 in
set_option maxRecDepth 100000 in
theorem law07_PlainBack.calls (k : Nat) (A0 : Option Addr) (c0 : Nat) (l0 : List (S32)) (a1 : Int) (A2 : Option Addr) (c2 : Nat) (l2 : List Int) (a3 : Int) (r : Bool) (w : World) (hr0 : Kd.C k32 w A0 l0.length l0) (hc0 : l0.length ≤ c0) (hr2 : Kd.C (Kd.int .u8) w A2 l2.length l2) (hc2 : l2.length ≤ c2) (hr_ : Aside0 (r = true)) (h : law07_PlainBack.f k l0 a1 l2 a3 = some r) :
    Calls Try.prog 6 #[.slice A0 l0.length c0, .int .i64 a1, .slice A2 l2.length c2, .int .i64 a3] w fun e w' => e = .returned (.bool r) ∧ Below w.heap.size w w' := by
  have HR0 := Aside0.mk hr0
  have HC0 := Aside0.mk hc0
  clear hr0 hc0
  have HR2 := Aside0.mk hr2
  have HC2 := Aside0.mk hc2
  clear hr2 hc2
  have HB := Aside0.mk (Below.refl w.heap.size w)
  have H : ((law07_shown.f k).bind fun t229 => ((law07_few.f k l0).bind fun t230 => (if t230 = true then ((plain_Bytes.f k l0 a1).bind fun bt231 => ((plain_Of.f k bt231.1 (l0.length : Int) a1).bind fun bt235 => ((some (([] : List Int) : List Int)).bind fun y239 => (if y239.length + bt231.1.length < 140737488355328 then ((some (y239 ++ bt231.1 : List Int)).bind fun y242 => (if y242.length < 140737488355328 then ((plain_Of.f k (y242 ++ [0]) (l0.length : Int) a1).bind fun bt248 => (if bt231.2 = 0 then (if bt235.2 = 0 then ((ref05_Same.f k l0 bt235.1).bind fun t252 => (if t252 = true then (law07_PlainBack.j0 k a1 l2 a3 t229 (bt248.2 != 4)) else (law07_PlainBack.j0 k a1 l2 a3 t229 true))) else (law07_PlainBack.j0 k a1 l2 a3 t229 true)) else (law07_PlainBack.j0 k a1 l2 a3 t229 false))) else (none))) else (none))))) else (some t229)))) = some r := h
  clear h
  replace H := Option.bind_eq_some_iff.mp H
  obtain ⟨t229, A50, H⟩ := H
  replace H : ((law07_few.f k l0).bind fun t230 => (if t230 = true then ((plain_Bytes.f k l0 a1).bind fun bt231 => ((plain_Of.f k bt231.1 (l0.length : Int) a1).bind fun bt235 => ((some (([] : List Int) : List Int)).bind fun y239 => (if y239.length + bt231.1.length < 140737488355328 then ((some (y239 ++ bt231.1 : List Int)).bind fun y242 => (if y242.length < 140737488355328 then ((plain_Of.f k (y242 ++ [0]) (l0.length : Int) a1).bind fun bt248 => (if bt231.2 = 0 then (if bt235.2 = 0 then ((ref05_Same.f k l0 bt235.1).bind fun t252 => (if t252 = true then (law07_PlainBack.j0 k a1 l2 a3 t229 (bt248.2 != 4)) else (law07_PlainBack.j0 k a1 l2 a3 t229 true))) else (law07_PlainBack.j0 k a1 l2 a3 t229 true)) else (law07_PlainBack.j0 k a1 l2 a3 t229 false))) else (none))) else (none))))) else (some t229))) = some r := H
  have A5 := Aside0.mk A50
  clear A50
  replace H := Option.bind_eq_some_iff.mp H
  obtain ⟨t230, A60, H⟩ := H
  replace H : (if t230 = true then ((plain_Bytes.f k l0 a1).bind fun bt231 => ((plain_Of.f k bt231.1 (l0.length : Int) a1).bind fun bt235 => ((some (([] : List Int) : List Int)).bind fun y239 => (if y239.length + bt231.1.length < 140737488355328 then ((some (y239 ++ bt231.1 : List Int)).bind fun y242 => (if y242.length < 140737488355328 then ((plain_Of.f k (y242 ++ [0]) (l0.length : Int) a1).bind fun bt248 => (if bt231.2 = 0 then (if bt235.2 = 0 then ((ref05_Same.f k l0 bt235.1).bind fun t252 => (if t252 = true then (law07_PlainBack.j0 k a1 l2 a3 t229 (bt248.2 != 4)) else (law07_PlainBack.j0 k a1 l2 a3 t229 true))) else (law07_PlainBack.j0 k a1 l2 a3 t229 true)) else (law07_PlainBack.j0 k a1 l2 a3 t229 false))) else (none))) else (none))))) else (some t229)) = some r := H
  have A6 := Aside0.mk A60
  clear A60
  by_cases c7 : t230 = true
  · subst c7
    have H1 : ((plain_Bytes.f k l0 a1).bind fun bt231 => ((plain_Of.f k bt231.1 (l0.length : Int) a1).bind fun bt235 => ((some (([] : List Int) : List Int)).bind fun y239 => (if y239.length + bt231.1.length < 140737488355328 then ((some (y239 ++ bt231.1 : List Int)).bind fun y242 => (if y242.length < 140737488355328 then ((plain_Of.f k (y242 ++ [0]) (l0.length : Int) a1).bind fun bt248 => (if bt231.2 = 0 then (if bt235.2 = 0 then ((ref05_Same.f k l0 bt235.1).bind fun t252 => (if t252 = true then (law07_PlainBack.j0 k a1 l2 a3 t229 (bt248.2 != 4)) else (law07_PlainBack.j0 k a1 l2 a3 t229 true))) else (law07_PlainBack.j0 k a1 l2 a3 t229 true)) else (law07_PlainBack.j0 k a1 l2 a3 t229 false))) else (none))) else (none))))) = some r := by rw [if_pos rfl] at H; exact H
    clear H
    have H := H1
    clear H1
    replace H := Option.bind_eq_some_iff.mp H
    obtain ⟨⟨t231, t232⟩, A80, H⟩ := H
    replace H : ((plain_Of.f k t231 (l0.length : Int) a1).bind fun bt235 => ((some (([] : List Int) : List Int)).bind fun y239 => (if y239.length + t231.length < 140737488355328 then ((some (y239 ++ t231 : List Int)).bind fun y242 => (if y242.length < 140737488355328 then ((plain_Of.f k (y242 ++ [0]) (l0.length : Int) a1).bind fun bt248 => (if t232 = 0 then (if bt235.2 = 0 then ((ref05_Same.f k l0 bt235.1).bind fun t252 => (if t252 = true then (law07_PlainBack.j0 k a1 l2 a3 t229 (bt248.2 != 4)) else (law07_PlainBack.j0 k a1 l2 a3 t229 true))) else (law07_PlainBack.j0 k a1 l2 a3 t229 true)) else (law07_PlainBack.j0 k a1 l2 a3 t229 false))) else (none))) else (none)))) = some r := H
    have A8 := Aside0.mk A80
    clear A80
    replace H := Option.bind_eq_some_iff.mp H
    obtain ⟨⟨t235, t236⟩, A90, H⟩ := H
    replace H : ((some (([] : List Int) : List Int)).bind fun y239 => (if y239.length + t231.length < 140737488355328 then ((some (y239 ++ t231 : List Int)).bind fun y242 => (if y242.length < 140737488355328 then ((plain_Of.f k (y242 ++ [0]) (l0.length : Int) a1).bind fun bt248 => (if t232 = 0 then (if t236 = 0 then ((ref05_Same.f k l0 t235).bind fun t252 => (if t252 = true then (law07_PlainBack.j0 k a1 l2 a3 t229 (bt248.2 != 4)) else (law07_PlainBack.j0 k a1 l2 a3 t229 true))) else (law07_PlainBack.j0 k a1 l2 a3 t229 true)) else (law07_PlainBack.j0 k a1 l2 a3 t229 false))) else (none))) else (none))) = some r := H
    have A9 := Aside0.mk A90
    clear A90
    obtain ⟨y239, hy239⟩ : ∃ y_ : List Int, y_ = (([] : List Int)) := ⟨_, rfl⟩
    replace H : (if y239.length + t231.length < 140737488355328 then ((some (y239 ++ t231 : List Int)).bind fun y242 => (if y242.length < 140737488355328 then ((plain_Of.f k (y242 ++ [0]) (l0.length : Int) a1).bind fun bt248 => (if t232 = 0 then (if t236 = 0 then ((ref05_Same.f k l0 t235).bind fun t252 => (if t252 = true then (law07_PlainBack.j0 k a1 l2 a3 t229 (bt248.2 != 4)) else (law07_PlainBack.j0 k a1 l2 a3 t229 true))) else (law07_PlainBack.j0 k a1 l2 a3 t229 true)) else (law07_PlainBack.j0 k a1 l2 a3 t229 false))) else (none))) else (none)) = some r := by first | (rw [hy239]; with_reducible exact H) | (have H2_ := (Option.bind_some _ _).symm.trans H; rw [hy239]; with_reducible exact H2_) | (have H2_ := (Option.bind_some _ _).symm.trans H; with_reducible exact H2_) | with_reducible exact H | (rw [hy239]; exact H) | exact H
    have Ny239 := Aside0.mk hy239
    clear hy239
    by_cases c10 : y239.length + t231.length < 140737488355328
    · rw [if_pos c10] at H
      have LMc10 := Aside0.mk c10
      clear c10
      obtain ⟨y242, hy242⟩ : ∃ y_ : List Int, y_ = (y239 ++ t231) := ⟨_, rfl⟩
      replace H : (if y242.length < 140737488355328 then ((plain_Of.f k (y242 ++ [0]) (l0.length : Int) a1).bind fun bt248 => (if t232 = 0 then (if t236 = 0 then ((ref05_Same.f k l0 t235).bind fun t252 => (if t252 = true then (law07_PlainBack.j0 k a1 l2 a3 t229 (bt248.2 != 4)) else (law07_PlainBack.j0 k a1 l2 a3 t229 true))) else (law07_PlainBack.j0 k a1 l2 a3 t229 true)) else (law07_PlainBack.j0 k a1 l2 a3 t229 false))) else (none)) = some r := by first | (rw [hy242]; with_reducible exact H) | (have H2_ := (Option.bind_some _ _).symm.trans H; rw [hy242]; with_reducible exact H2_) | (have H2_ := (Option.bind_some _ _).symm.trans H; with_reducible exact H2_) | with_reducible exact H | (rw [hy242]; exact H) | exact H
      have Ny242 := Aside0.mk hy242
      clear hy242
      by_cases c11 : y242.length < 140737488355328
      · rw [if_pos c11] at H
        have LMc11 := Aside0.mk c11
        clear c11
        obtain ⟨y245, hy245⟩ : ∃ y_ : List Int, y_ = (y242 ++ [0]) := ⟨_, rfl⟩
        replace H : ((plain_Of.f k y245 (l0.length : Int) a1).bind fun bt248 => (if t232 = 0 then (if t236 = 0 then ((ref05_Same.f k l0 t235).bind fun t252 => (if t252 = true then (law07_PlainBack.j0 k a1 l2 a3 t229 (bt248.2 != 4)) else (law07_PlainBack.j0 k a1 l2 a3 t229 true))) else (law07_PlainBack.j0 k a1 l2 a3 t229 true)) else (law07_PlainBack.j0 k a1 l2 a3 t229 false))) = some r := by first | (rw [hy245]; with_reducible exact H) | (have H2_ := (Option.bind_some _ _).symm.trans H; rw [hy245]; with_reducible exact H2_) | (have H2_ := (Option.bind_some _ _).symm.trans H; with_reducible exact H2_) | with_reducible exact H | (rw [hy245]; exact H) | exact H
        have Ny245 := Aside0.mk hy245
        clear hy245
        replace H := Option.bind_eq_some_iff.mp H
        obtain ⟨⟨t248, t249⟩, A120, H⟩ := H
        replace H : (if t232 = 0 then (if t236 = 0 then ((ref05_Same.f k l0 t235).bind fun t252 => (if t252 = true then (law07_PlainBack.j0 k a1 l2 a3 t229 (t249 != 4)) else (law07_PlainBack.j0 k a1 l2 a3 t229 true))) else (law07_PlainBack.j0 k a1 l2 a3 t229 true)) else (law07_PlainBack.j0 k a1 l2 a3 t229 false)) = some r := H
        have A12 := Aside0.mk A120
        clear A120
        have HC13 := Aside0.mk H
        clear H
        go_enter Try.func6, Try.ntmps6
        go_upto_region 7 with (first | ((with_reducible refine gate_callee (f := 14) rfl ?_); refine goesL_ (some 20) rfl rfl Try.func14 (by kernel_rfl) rfl #[] rfl (by (try simp only [List.map_toArray, List.map_cons, List.map_nil]); first | done | rfl | (simp only [List.length_drop, List.length_take]; rfl)) ?_; (with_reducible refine (law07_shown.calls k  t229 _ A5.out).mono ?_); rintro e w14 ⟨rfl, hb⟩; refine ⟨_, rfl, ?_⟩; have n0_ := Aside0.mk (below_step (by repeat (first | (with_reducible first | exact HB.out | apply below_alloc | apply pw_below_drewN | apply below_drew1) | exact HB.out)) hb); clear HB; have HB := n0_; clear n0_; (try clear hb); (try clear hb2); (try clear hk); (try clear hi)) | ((with_reducible refine gate_callee (f := 15) rfl ?_); refine goesL_ (some 22) rfl rfl Try.func15 (by kernel_rfl) rfl #[.slice A0 l0.length c0] rfl (by (try simp only [List.map_toArray, List.map_cons, List.map_nil]); first | done | rfl | (simp only [List.length_drop, List.length_take]; rfl)) ?_; (with_reducible refine (law07_few.calls k _ _ l0 true _ ?side1 ?side2 A6.out).mono ?_); (case side1 => repeat (first | exact (Kd.C_below HR0.out HB.out) | (with_reducible refine Kd.C_alloc ?_ _) | (with_reducible refine Kd.C_drewN ?_ _) | (with_reducible refine Kd.C_drew ?_))); (case side2 => exact HC0.out); rintro e w' ⟨rfl, ⟨nd, rfl⟩⟩; refine ⟨_, rfl, ?_⟩) | ((with_reducible refine gate_callee (f := 16) rfl ?_); refine goesL_ (some 28) rfl rfl Try.func16 (by kernel_rfl) rfl #[.slice A0 l0.length c0, .int .i64 a1] rfl (by (try simp only [List.map_toArray, List.map_cons, List.map_nil]); first | done | rfl | (simp only [List.length_drop, List.length_take]; rfl)) ?_; (with_reducible refine (plain_Bytes.calls k _ _ l0 a1 t231 t232 _ ?side1 ?side2 A8.out).mono ?_); (case side1 => repeat (first | exact (Kd.C_below HR0.out (by repeat (first | (with_reducible first | exact HB.out | apply below_alloc | apply pw_below_drewN | apply below_drew1) | exact HB.out))) | (with_reducible refine Kd.C_alloc ?_ _) | (with_reducible refine Kd.C_drewN ?_ _) | (with_reducible refine Kd.C_drew ?_))); (case side2 => exact HC0.out); rintro e w15 ⟨v233, rfl, ho0, hb⟩; refine ⟨_, rfl, ?_⟩; have n0_ := Aside0.mk (Kd.R_lower ho0 (below_size (by repeat (first | (with_reducible first | exact HB.out | apply below_alloc | apply pw_below_drewN | apply below_drew1) | exact HB.out)))); have n1_ := Aside0.mk (below_step (by repeat (first | (with_reducible first | exact HB.out | apply below_alloc | apply pw_below_drewN | apply below_drew1) | exact HB.out)) hb); clear HB; have HO234 := n0_; have HB := n1_; clear n0_ n1_; (try clear hb); (try clear hb2); (try clear hk); (try clear hi); (try clear ho0); obtain ⟨Ao16, co16, eo16⟩ := Kd.R_slice HO234.out; subst eo16) | ((with_reducible refine gate_callee (f := 19) rfl ?_); refine goesL_ (some 36) rfl rfl Try.func19 (by kernel_rfl) rfl #[.slice Ao16 t231.length co16, .int .i64 (l0.length : Int), .int .i64 a1] rfl (by (try simp only [List.map_toArray, List.map_cons, List.map_nil]); first | done | rfl | (simp only [List.length_drop, List.length_take]; rfl)) ?_; (with_reducible refine (plain_Of.calls k _ _ t231 (l0.length : Int) a1 t235 t236 _ ?side1 ?side2 A9.out).mono ?_); (case side1 => repeat (first | exact (Kd.R_reads' HO234.out).2.2 | (with_reducible refine Kd.C_alloc ?_ _) | (with_reducible refine Kd.C_drewN ?_ _) | (with_reducible refine Kd.C_drew ?_))); (case side2 => exact (Kd.R_reads' HO234.out).2.1); rintro e w17 ⟨v237, rfl, ho0, hb⟩; refine ⟨_, rfl, ?_⟩; have n0_ := Aside0.mk (Kd.R_below (by (with_reducible repeat (first | apply Kd.R_alloc | apply Kd.R_drewN | apply Kd.R_drew)); exact HO234.out) hb); have n1_ := Aside0.mk (Kd.R_lower ho0 (below_size (by repeat (first | (with_reducible first | exact HB.out | apply below_alloc | apply pw_below_drewN | apply below_drew1) | exact HB.out)))); have n2_ := Aside0.mk (below_step (by repeat (first | (with_reducible first | exact HB.out | apply below_alloc | apply pw_below_drewN | apply below_drew1) | exact HB.out)) hb); clear HO234; clear HB; have HO234 := n0_; have HO238 := n1_; have HB := n2_; clear n0_ n1_ n2_; (try clear hb); (try clear hb2); (try clear hk); (try clear hi); (try clear ho0)) | ((with_reducible refine gate_dst (N := 40) rfl ?_); (try (refine gate_guard (by rfl) ?_; dsimp only)); refine Kd.R_lit (Kd.int .u8) _ 5 ?hg (N := 40) ?hd (xs := ([] : List Int)) (inner := []) (ok := fun _ => True) (okp := fun _ => True) ?hr ?hp (fun _ hk => hk) trivial (Below.refl _ _) (Nat.le_refl _) (by simp) ?_; (case hd => rfl); (case hg => rfl); (case hr => first | (go_simp; done) | (go_simp; rfl)); (case hp => exact (Reps.none _ _)); intro v240 w18 ho19 hb hg_ hnew_; clear hg_ hnew_; (first | rw [← Ny239.out] at ho19 | (simp only [Int.reduceToNat] at ho19; rw [← Ny239.out] at ho19)); have n0_ := Aside0.mk (Kd.R_elder' (by (with_reducible repeat (first | apply Kd.R_alloc | apply Kd.R_drewN | apply Kd.R_drew)); exact HO234.out) (Kd.R_base ho19) hb); have n1_ := Aside0.mk (Kd.R_below (by (with_reducible repeat (first | apply Kd.R_alloc | apply Kd.R_drewN | apply Kd.R_drew)); exact HO238.out) hb); have n2_ := Aside0.mk (Kd.R_lower (Kd.R_new' ho19 (Kd.R_lt (by (with_reducible repeat (first | apply Kd.R_alloc | apply Kd.R_drewN | apply Kd.R_drew)); exact HO234.out))) (below_size (by repeat (first | (with_reducible first | exact HB.out | apply below_alloc | apply pw_below_drewN | apply below_drew1) | exact HB.out)))); have n3_ := Aside0.mk (below_step (by repeat (first | (with_reducible first | exact HB.out | apply below_alloc | apply pw_below_drewN | apply below_drew1) | exact HB.out)) hb); clear HO234; clear HO238; clear HB; have HO234 := n0_; have HO238 := n1_; have HO241 := n2_; have HB := n3_; clear n0_ n1_ n2_ n3_; clear hb ho19) | ((with_reducible refine gate_builtin (b := .append) (xs := #[.tmp 40, .tmp 41]) rfl ?_); (try (refine gate_guard (by rfl) ?_; dsimp only)); at_builtin; refine Kd.R_append_rows (Kd.int .u8) (w0 := w) w.heap.size rfl (.tmp 40) (.tmp 41) 25 5 (.int .u8 0) 1 rfl Try.underlying25 info5 rfl (by decide) (by omega) v240 y239 t231 _ _ _ (fun k_ => some k_ ≠ (.slice Ao16 t231.length co16 : Value).ownBlock) (fun _ => False) rfl rfl ?aO ?aR (fun _ _ h => h) (fun _ h => h.elim) ?aF ?aB ?aS ?aL ?_; (case aR => repeat (first | exact (Kd.R_reads' HO234.out).2.2 | (with_reducible refine Kd.C_alloc ?_ _) | (with_reducible refine Kd.C_drewN ?_ _) | (with_reducible refine Kd.C_drew ?_))); (case aB => exact (by repeat (first | (with_reducible first | exact HB.out | apply below_alloc | apply pw_below_drewN | apply below_drew1) | exact HB.out))); (case aF => exact (fun k_ hk => Kd.fresh' (Kd.R_lt (by (with_reducible repeat (first | apply Kd.R_alloc | apply Kd.R_drewN | apply Kd.R_drew)); exact HO234.out)) k_ hk)); (case aO => exact (by (with_reducible repeat (first | apply Kd.R_alloc | apply Kd.R_drewN | apply Kd.R_drew)); exact Kd.R_mono HO241.out (fun _ hk => hk.2))); (case aS => exact (below_size (by repeat (first | (with_reducible first | exact HB.out | apply below_alloc | apply pw_below_drewN | apply below_drew1) | exact HB.out)))); (case aL => have := LMc10.out; omega); intro v243 w20 ho hb hg hat; rw [← Ny242.out] at ho; have n0_ := Aside0.mk (Kd.R_after (ok := (fun _ => True)) (by (with_reducible repeat (first | apply Kd.R_alloc | apply Kd.R_drewN | apply Kd.R_drew)); exact HO234.out) hg hat); have n1_ := Aside0.mk (Kd.R_over' (by (with_reducible repeat (first | apply Kd.R_alloc | apply Kd.R_drewN | apply Kd.R_drew)); exact HO238.out) (Kd.R_typed (by (with_reducible repeat (first | apply Kd.R_alloc | apply Kd.R_drewN | apply Kd.R_drew)); exact HO241.out)) (by decide) hg); have n2_ := Aside0.mk (hb); have n3_ := Aside0.mk (ho); clear HO234; clear HO238; clear HB; clear HO241; have HO234 := n0_; have HO238 := n1_; have HB := n2_; have HO244 := n3_; clear n0_ n1_ n2_ n3_; clear ho hb hg hat) | ((with_reducible refine gate_builtin (b := .append) (xs := #[.tmp 42, .tmp 43]) rfl ?_); (try (refine gate_guard (by rfl) ?_; dsimp only)); at_builtin; refine Kd.R_append (Kd.int .u8) (w0 := w) w.heap.size rfl (.tmp 42) (.tmp 43) 25 5 (.int .u8 0) 1 rfl Try.underlying25 info5 rfl (by decide) (by omega) v243 y242 0 [.int .u8 0] (fun k_ => some k_ ≠ (.slice Ao16 t231.length co16 : Value).ownBlock) (fun _ => False) rfl rfl ?aP (fun _ hk => hk.elim) ?aF ?aO ?aB ?aS ?aL ?_; (case aP => exact rfl); (case aB => exact (by repeat (first | (with_reducible first | exact HB.out | apply below_alloc | apply pw_below_drewN | apply below_drew1) | exact HB.out))); (case aF => exact (fun k_ hk => Kd.fresh' (Kd.R_lt (by (with_reducible repeat (first | apply Kd.R_alloc | apply Kd.R_drewN | apply Kd.R_drew)); exact HO234.out)) k_ hk)); (case aO => exact (by (with_reducible repeat (first | apply Kd.R_alloc | apply Kd.R_drewN | apply Kd.R_drew)); exact HO244.out)); (case aS => exact (below_size (by repeat (first | (with_reducible first | exact HB.out | apply below_alloc | apply pw_below_drewN | apply below_drew1) | exact HB.out)))); (case aL => have := LMc11.out; omega); intro v246 w21 ho hb hg hat; rw [← Ny245.out] at ho; have n0_ := Aside0.mk (Kd.R_after (ok := (fun _ => True)) (by (with_reducible repeat (first | apply Kd.R_alloc | apply Kd.R_drewN | apply Kd.R_drew)); exact HO234.out) hg hat); have n1_ := Aside0.mk (Kd.R_over' (by (with_reducible repeat (first | apply Kd.R_alloc | apply Kd.R_drewN | apply Kd.R_drew)); exact HO238.out) (Kd.R_typed (by (with_reducible repeat (first | apply Kd.R_alloc | apply Kd.R_drewN | apply Kd.R_drew)); exact HO244.out)) (by decide) hg); have n2_ := Aside0.mk (hb); have n3_ := Aside0.mk (ho); clear HO234; clear HO238; clear HB; clear HO244; have HO234 := n0_; have HO238 := n1_; have HB := n2_; have HO247 := n3_; clear n0_ n1_ n2_ n3_; clear ho hb hg hat; obtain ⟨Ao22, co22, eo22⟩ := Kd.R_slice HO247.out; subst eo22) | ((with_reducible refine gate_callee (f := 19) rfl ?_); refine goesL_ (some 48) rfl rfl Try.func19 (by kernel_rfl) rfl #[.slice Ao22 y245.length co22, .int .i64 (l0.length : Int), .int .i64 a1] rfl (by (try simp only [List.map_toArray, List.map_cons, List.map_nil]); first | done | rfl | (simp only [List.length_drop, List.length_take]; rfl)) ?_; (with_reducible refine (plain_Of.calls k _ _ y245 (l0.length : Int) a1 t248 t249 _ ?side1 ?side2 A12.out).mono ?_); (case side1 => repeat (first | exact (Kd.R_reads' HO247.out).2.2 | (with_reducible refine Kd.C_alloc ?_ _) | (with_reducible refine Kd.C_drewN ?_ _) | (with_reducible refine Kd.C_drew ?_))); (case side2 => exact (Kd.R_reads' HO247.out).2.1); rintro e w23 ⟨v250, rfl, ho0, hb⟩; refine ⟨_, rfl, ?_⟩; have n0_ := Aside0.mk (Kd.R_below (by (with_reducible repeat (first | apply Kd.R_alloc | apply Kd.R_drewN | apply Kd.R_drew)); exact HO234.out) hb); have n1_ := Aside0.mk (Kd.R_elder' (by (with_reducible repeat (first | apply Kd.R_alloc | apply Kd.R_drewN | apply Kd.R_drew)); exact HO238.out) (Kd.R_base ho0) hb); have n2_ := Aside0.mk (Kd.R_below (by (with_reducible repeat (first | apply Kd.R_alloc | apply Kd.R_drewN | apply Kd.R_drew)); exact HO247.out) hb); have n3_ := Aside0.mk (Kd.R_lower (Kd.R_new' ho0 (Kd.R_lt (by (with_reducible repeat (first | apply Kd.R_alloc | apply Kd.R_drewN | apply Kd.R_drew)); exact HO238.out))) (below_size (by repeat (first | (with_reducible first | exact HB.out | apply below_alloc | apply pw_below_drewN | apply below_drew1) | exact HB.out)))); have n4_ := Aside0.mk (below_step (by repeat (first | (with_reducible first | exact HB.out | apply below_alloc | apply pw_below_drewN | apply below_drew1) | exact HB.out)) hb); clear HO234; clear HO238; clear HO247; clear HB; have HO234 := n0_; have HO238 := n1_; have HO247 := n2_; have HO251 := n3_; have HB := n4_; clear n0_ n1_ n2_ n3_ n4_; (try clear hb); (try clear hb2); (try clear hk); (try clear hi); (try clear ho0)))
        (try simp only [Act.put, List.setIfInBounds_toArray, List.set_cons_zero, List.set_cons_succ])
        go_cut [66] (fun v66 wc => ∃ (kq : Nat) (x66_12 : Bool), v66 = .bool x66_12 ∧ Aside0 (law07_PlainBack.j0 kq a1 l2 a3 t229 x66_12 = some r) ∧ Aside0 (kq ≤ k) ∧ Aside0 (Below w.heap.size w wc))
        case first =>
          have H := HC13.out
          clear HC13
          by_cases c24 : t232 = 0
          · rw [if_pos c24] at H
            have c24b0 : (t232 == 0) = true := beq_iff_eq.mpr c24
            have c24b1 : (t232 != 0) = false := bne_eq_false_iff_eq.mpr c24
            clear c24
            (first | rw [c24b0] | (simp only [i64_w, i32_w]; rw [c24b0]) | skip)
            by_cases c25 : t236 = 0
            · rw [if_pos c25] at H
              have c25b0 : (t236 == 0) = true := beq_iff_eq.mpr c25
              have c25b1 : (t236 != 0) = false := bne_eq_false_iff_eq.mpr c25
              clear c25
              replace H := Option.bind_eq_some_iff.mp H
              obtain ⟨t252, A260, H⟩ := H
              replace H : (if t252 = true then (law07_PlainBack.j0 k a1 l2 a3 t229 (t249 != 4)) else (law07_PlainBack.j0 k a1 l2 a3 t229 true)) = some r := H
              have A26 := Aside0.mk A260
              clear A260
              by_cases c27 : t252 = true
              · subst c27
                have H1 : (law07_PlainBack.j0 k a1 l2 a3 t229 (t249 != 4)) = some r := by rw [if_pos rfl] at H; exact H
                clear H
                have H := H1
                clear H1
                have H' := Aside0.mk H
                clear H
                obtain ⟨Ao28, co28, eo28⟩ := Kd.R_slice HO238.out
                subst eo28
                go_wp2_with (first | (go_at_call 22; (with_reducible refine (ref05_Same.calls k _ _ l0 _ _ t235 true _ ?side1 ?side2 ?side3 ?side4 A26.out).mono ?_); (case side1 => repeat (first | exact (Kd.C_below HR0.out HB.out) | (with_reducible refine Kd.C_alloc ?_ _) | (with_reducible refine Kd.C_drewN ?_ _) | (with_reducible refine Kd.C_drew ?_))); (case side2 => exact HC0.out); (case side3 => repeat (first | exact (Kd.R_reads' HO238.out).2.2 | (with_reducible refine Kd.C_alloc ?_ _) | (with_reducible refine Kd.C_drewN ?_ _) | (with_reducible refine Kd.C_drew ?_))); (case side4 => exact (Kd.R_reads' HO238.out).2.1); rintro e w' ⟨rfl, ⟨nd, rfl⟩⟩))
                go_meet
                case rel => exact ⟨_, ((t249 != 4)), (by first | rfl | (simp; done) | (simp [*]; done)), H', ⟨by first | omega | exact Nat.le_refl _⟩, ⟨by repeat (first | (with_reducible first | exact HB.out | apply below_alloc | apply pw_below_drewN | apply below_drew1) | exact HB.out)⟩⟩
              · replace c27 := Bool.eq_false_iff.mpr c27
                subst c27
                have H1 : (law07_PlainBack.j0 k a1 l2 a3 t229 true) = some r := by rw [if_neg (show ¬ (false = true) by decide)] at H; exact H
                clear H
                have H := H1
                clear H1
                have H' := Aside0.mk H
                clear H
                obtain ⟨Ao29, co29, eo29⟩ := Kd.R_slice HO238.out
                subst eo29
                go_wp2_with (first | (go_at_call 22; (with_reducible refine (ref05_Same.calls k _ _ l0 _ _ t235 false _ ?side1 ?side2 ?side3 ?side4 A26.out).mono ?_); (case side1 => repeat (first | exact (Kd.C_below HR0.out HB.out) | (with_reducible refine Kd.C_alloc ?_ _) | (with_reducible refine Kd.C_drewN ?_ _) | (with_reducible refine Kd.C_drew ?_))); (case side2 => exact HC0.out); (case side3 => repeat (first | exact (Kd.R_reads' HO238.out).2.2 | (with_reducible refine Kd.C_alloc ?_ _) | (with_reducible refine Kd.C_drewN ?_ _) | (with_reducible refine Kd.C_drew ?_))); (case side4 => exact (Kd.R_reads' HO238.out).2.1); rintro e w' ⟨rfl, ⟨nd, rfl⟩⟩))
                go_meet
                case rel => exact ⟨_, (true), (by first | rfl | (simp; done) | (simp [*]; done)), H', ⟨by first | omega | exact Nat.le_refl _⟩, ⟨by repeat (first | (with_reducible first | exact HB.out | apply below_alloc | apply pw_below_drewN | apply below_drew1) | exact HB.out)⟩⟩
            · rw [if_neg c25] at H
              have c25b0 : (t236 == 0) = false := beq_eq_false_iff_ne.mpr c25
              have c25b1 : (t236 != 0) = true := bne_iff_ne.mpr c25
              have H' := Aside0.mk H
              clear H
              go_wp2
              go_meet
              case rel => exact ⟨_, (true), (by first | rfl | (simp; done) | (simp [*]; done)), H', ⟨by first | omega | exact Nat.le_refl _⟩, ⟨by repeat (first | (with_reducible first | exact HB.out | apply below_alloc | apply pw_below_drewN | apply below_drew1) | exact HB.out)⟩⟩
          · rw [if_neg c24] at H
            have c24b0 : (t232 == 0) = false := beq_eq_false_iff_ne.mpr c24
            have c24b1 : (t232 != 0) = true := bne_iff_ne.mpr c24
            (first | rw [c24b0] | (simp only [i64_w, i32_w]; rw [c24b0]) | skip)
            have H' := Aside0.mk H
            clear H
            go_wp2
            go_meet
            case rel => exact ⟨_, (false), (by first | rfl | (simp; done) | (simp [*]; done)), H', ⟨by first | omega | exact Nat.le_refl _⟩, ⟨by repeat (first | (with_reducible first | exact HB.out | apply below_alloc | apply pw_below_drewN | apply below_drew1) | exact HB.out)⟩⟩
        case rest =>
          clear HC13
          try clear c1
          try clear c2
          try clear p2
          try clear c6
          try clear c7
          try clear c10
          try clear c11
          try clear c14
          try clear c15
          try clear c16
          try clear c19
          try clear c24
          try clear c24b0
          try clear c24b1
          try clear c25
          try clear c25b0
          try clear c25b1
          try clear c27
          obtain ⟨kq, x66_12, rfl, HA, HJ12, HB⟩ := hcut
          cases kq with
          | zero => exact absurd HA.out (by simp [law07_PlainBack.j0])
          | succ kj12 =>
            have H := HA.out
            clear HA
            simp only [law07_PlainBack.j0] at H
            by_cases c30 : x66_12 = true
            · subst c30
              have H1 : (some false) = some r := by rw [if_pos rfl] at H; exact H
              clear H
              have H := H1
              clear H1
              exact absurd ((Option.some.inj H).trans hr_.out) (by decide)
            · replace c30 := Bool.eq_false_iff.mpr c30
              subst c30
              have H1 : ((plain_Of.f kj12 l2 a3 a1).bind fun bt253 => (if bt253.2 = 0 then ((plain_Bytes.f kj12 bt253.1 a1).bind fun bt257 => (if t229 = true then (if bt257.2 = 0 then (if (strOfNums bt257.1).toList = (strOfNums l2).toList then (some ((bt253.1.length : Int) == a3)) else (some false)) else (some false)) else (some false))) else (if t229 = true then (some ((bt253.1.length : Int) == 0)) else (some false)))) = some r := by rw [if_neg (show ¬ (false = true) by decide)] at H; exact H
              clear H
              have H := H1
              clear H1
              replace H := Option.bind_eq_some_iff.mp H
              obtain ⟨⟨t253, t254⟩, A310, H⟩ := H
              replace H : (if t254 = 0 then ((plain_Bytes.f kj12 t253 a1).bind fun bt257 => (if t229 = true then (if bt257.2 = 0 then (if (strOfNums bt257.1).toList = (strOfNums l2).toList then (some ((t253.length : Int) == a3)) else (some false)) else (some false)) else (some false))) else (if t229 = true then (some ((t253.length : Int) == 0)) else (some false))) = some r := H
              have A31 := Aside0.mk A310
              clear A310
              by_cases c32 : t254 = 0
              · rw [if_pos c32] at H
                have c32b0 : (t254 == 0) = true := beq_iff_eq.mpr c32
                have c32b1 : (t254 != 0) = false := bne_eq_false_iff_eq.mpr c32
                clear c32
                replace H := Option.bind_eq_some_iff.mp H
                obtain ⟨⟨t257, t258⟩, A330, H⟩ := H
                replace H : (if t229 = true then (if t258 = 0 then (if (strOfNums t257).toList = (strOfNums l2).toList then (some ((t253.length : Int) == a3)) else (some false)) else (some false)) else (some false)) = some r := H
                have A33 := Aside0.mk A330
                clear A330
                by_cases c34 : t229 = true
                · subst c34
                  have H1 : (if t258 = 0 then (if (strOfNums t257).toList = (strOfNums l2).toList then (some ((t253.length : Int) == a3)) else (some false)) else (some false)) = some r := by rw [if_pos rfl] at H; exact H
                  clear H
                  have H := H1
                  clear H1
                  by_cases c35 : t258 = 0
                  · rw [if_pos c35] at H
                    have c35b0 : (t258 == 0) = true := beq_iff_eq.mpr c35
                    have c35b1 : (t258 != 0) = false := bne_eq_false_iff_eq.mpr c35
                    clear c35
                    by_cases c36 : (strOfNums t257).toList = (strOfNums l2).toList
                    · rw [if_pos c36] at H
                      have c36b0 : ((strOfNums t257).toList == (strOfNums l2).toList) = true := beq_iff_eq.mpr c36
                      have c36b1 : ((strOfNums t257).toList != (strOfNums l2).toList) = false := bne_eq_false_iff_eq.mpr c36
                      clear c36
                      obtain rfl := Option.some.inj H
                      go_wp2_with (first | ((with_reducible refine gate_callee (f := 19) rfl ?_); refine goesL_ (some 71) rfl rfl Try.func19 (by kernel_rfl) rfl #[.slice A2 l2.length c2, .int .i64 a3, .int .i64 a1] rfl (by (try simp only [List.map_toArray, List.map_cons, List.map_nil]); first | done | rfl | (simp only [List.length_drop, List.length_take]; rfl)) ?_; (with_reducible refine (plain_Of.calls kj12 _ _ l2 a3 a1 t253 t254 _ ?side1 ?side2 A31.out).mono ?_); (case side1 => repeat (first | exact (Kd.C_below HR2.out HB.out) | (with_reducible refine Kd.C_alloc ?_ _) | (with_reducible refine Kd.C_drewN ?_ _) | (with_reducible refine Kd.C_drew ?_))); (case side2 => exact HC2.out); rintro e w37 ⟨v255, rfl, ho0, hb⟩; refine ⟨_, rfl, ?_⟩; have n0_ := Aside0.mk (Kd.R_lower ho0 (below_size (by repeat (first | (with_reducible first | exact HB.out | apply below_alloc | apply pw_below_drewN | apply below_drew1) | exact HB.out)))); have n1_ := Aside0.mk (below_step (by repeat (first | (with_reducible first | exact HB.out | apply below_alloc | apply pw_below_drewN | apply below_drew1) | exact HB.out)) hb); clear HB; have HO256 := n0_; have HB := n1_; clear n0_ n1_; (try clear hb); (try clear hb2); (try clear hk); (try clear hi); (try clear ho0); obtain ⟨Ao38, co38, eo38⟩ := Kd.R_slice HO256.out; subst eo38) | ((with_reducible refine gate_callee (f := 16) rfl ?_); refine goesL_ (some 85) rfl rfl Try.func16 (by kernel_rfl) rfl #[.slice Ao38 t253.length co38, .int .i64 a1] rfl (by (try simp only [List.map_toArray, List.map_cons, List.map_nil]); first | done | rfl | (simp only [List.length_drop, List.length_take]; rfl)) ?_; (with_reducible refine (plain_Bytes.calls kj12 _ _ t253 a1 t257 t258 _ ?side1 ?side2 A33.out).mono ?_); (case side1 => repeat (first | exact (Kd.R_reads' HO256.out).2.2 | (with_reducible refine Kd.C_alloc ?_ _) | (with_reducible refine Kd.C_drewN ?_ _) | (with_reducible refine Kd.C_drew ?_))); (case side2 => exact (Kd.R_reads' HO256.out).2.1); rintro e w39 ⟨v259, rfl, ho0, hb⟩; refine ⟨_, rfl, ?_⟩; have n0_ := Aside0.mk (Kd.R_below (by (with_reducible repeat (first | apply Kd.R_alloc | apply Kd.R_drewN | apply Kd.R_drew)); exact HO256.out) hb); have n1_ := Aside0.mk (Kd.R_lower ho0 (below_size (by repeat (first | (with_reducible first | exact HB.out | apply below_alloc | apply pw_below_drewN | apply below_drew1) | exact HB.out)))); have n2_ := Aside0.mk (below_step (by repeat (first | (with_reducible first | exact HB.out | apply below_alloc | apply pw_below_drewN | apply below_drew1) | exact HB.out)) hb); clear HO256; clear HB; have HO256 := n0_; have HO260 := n1_; have HB := n2_; clear n0_ n1_ n2_; (try clear hb); (try clear hb2); (try clear hk); (try clear hi); (try clear ho0); have hcv40 := own_string (P := Try.prog) Try.underlying25 Try.underlying5 Try.underlying9 (Kd.own_of_R HO260.out); have hcv41 := Kd.C_string (P := Try.prog) (A := A2) (c := c2) Try.underlying25 Try.underlying5 Try.underlying9 (Kd.C_below HR2.out HB.out)))
                      go_ret
                      exact ⟨by first | rfl | (simp [errW_none, errW_some] <;> rfl) | (simp [*, errW_none, errW_some] <;> rfl), by repeat (first | (with_reducible first | exact HB.out | apply below_alloc | apply pw_below_drewN | apply below_drew1) | exact HB.out)⟩
                    · rw [if_neg c36] at H
                      have c36b0 : ((strOfNums t257).toList == (strOfNums l2).toList) = false := beq_eq_false_iff_ne.mpr c36
                      have c36b1 : ((strOfNums t257).toList != (strOfNums l2).toList) = true := bne_iff_ne.mpr c36
                      exact absurd ((Option.some.inj H).trans hr_.out) (by decide)
                  · rw [if_neg c35] at H
                    have c35b0 : (t258 == 0) = false := beq_eq_false_iff_ne.mpr c35
                    have c35b1 : (t258 != 0) = true := bne_iff_ne.mpr c35
                    exact absurd ((Option.some.inj H).trans hr_.out) (by decide)
                · replace c34 := Bool.eq_false_iff.mpr c34
                  subst c34
                  have H1 : (some false) = some r := by rw [if_neg (show ¬ (false = true) by decide)] at H; exact H
                  clear H
                  have H := H1
                  clear H1
                  exact absurd ((Option.some.inj H).trans hr_.out) (by decide)
              · rw [if_neg c32] at H
                have c32b0 : (t254 == 0) = false := beq_eq_false_iff_ne.mpr c32
                have c32b1 : (t254 != 0) = true := bne_iff_ne.mpr c32
                by_cases c42 : t229 = true
                · subst c42
                  have H1 : (some ((t253.length : Int) == 0)) = some r := by rw [if_pos rfl] at H; exact H
                  clear H
                  have H := H1
                  clear H1
                  obtain rfl := Option.some.inj H
                  go_wp2_with (first | ((with_reducible refine gate_callee (f := 19) rfl ?_); refine goesL_ (some 71) rfl rfl Try.func19 (by kernel_rfl) rfl #[.slice A2 l2.length c2, .int .i64 a3, .int .i64 a1] rfl (by (try simp only [List.map_toArray, List.map_cons, List.map_nil]); first | done | rfl | (simp only [List.length_drop, List.length_take]; rfl)) ?_; (with_reducible refine (plain_Of.calls kj12 _ _ l2 a3 a1 t253 t254 _ ?side1 ?side2 A31.out).mono ?_); (case side1 => repeat (first | exact (Kd.C_below HR2.out HB.out) | (with_reducible refine Kd.C_alloc ?_ _) | (with_reducible refine Kd.C_drewN ?_ _) | (with_reducible refine Kd.C_drew ?_))); (case side2 => exact HC2.out); rintro e w43 ⟨v255, rfl, ho0, hb⟩; refine ⟨_, rfl, ?_⟩; have n0_ := Aside0.mk (Kd.R_lower ho0 (below_size (by repeat (first | (with_reducible first | exact HB.out | apply below_alloc | apply pw_below_drewN | apply below_drew1) | exact HB.out)))); have n1_ := Aside0.mk (below_step (by repeat (first | (with_reducible first | exact HB.out | apply below_alloc | apply pw_below_drewN | apply below_drew1) | exact HB.out)) hb); clear HB; have HO256 := n0_; have HB := n1_; clear n0_ n1_; (try clear hb); (try clear hb2); (try clear hk); (try clear hi); (try clear ho0); obtain ⟨Ao44, co44, eo44⟩ := Kd.R_slice HO256.out; subst eo44))
                  go_ret
                  exact ⟨by first | rfl | (simp [errW_none, errW_some] <;> rfl) | (simp [*, errW_none, errW_some] <;> rfl), by repeat (first | (with_reducible first | exact HB.out | apply below_alloc | apply pw_below_drewN | apply below_drew1) | exact HB.out)⟩
                · replace c42 := Bool.eq_false_iff.mpr c42
                  subst c42
                  have H1 : (some false) = some r := by rw [if_neg (show ¬ (false = true) by decide)] at H; exact H
                  clear H
                  have H := H1
                  clear H1
                  exact absurd ((Option.some.inj H).trans hr_.out) (by decide)
      · rw [if_neg c11] at H
        exact absurd H (by simp)
    · rw [if_neg c10] at H
      exact absurd H (by simp)
  · replace c7 := Bool.eq_false_iff.mpr c7
    subst c7
    have H1 : (some t229) = some r := by rw [if_neg (show ¬ (false = true) by decide)] at H; exact H
    clear H
    have H := H1
    clear H1
    obtain rfl := Option.some.inj H
    go_enter Try.func6, Try.ntmps6
    go_wp2_with (first | ((with_reducible refine gate_callee (f := 14) rfl ?_); refine goesL_ (some 20) rfl rfl Try.func14 (by kernel_rfl) rfl #[] rfl (by (try simp only [List.map_toArray, List.map_cons, List.map_nil]); first | done | rfl | (simp only [List.length_drop, List.length_take]; rfl)) ?_; (with_reducible refine (law07_shown.calls k  t229 _ A5.out).mono ?_); rintro e w45 ⟨rfl, hb⟩; refine ⟨_, rfl, ?_⟩; have n0_ := Aside0.mk (below_step (by repeat (first | (with_reducible first | exact HB.out | apply below_alloc | apply pw_below_drewN | apply below_drew1) | exact HB.out)) hb); clear HB; have HB := n0_; clear n0_; (try clear hb); (try clear hb2); (try clear hk); (try clear hi)) | ((with_reducible refine gate_callee (f := 15) rfl ?_); refine goesL_ (some 22) rfl rfl Try.func15 (by kernel_rfl) rfl #[.slice A0 l0.length c0] rfl (by (try simp only [List.map_toArray, List.map_cons, List.map_nil]); first | done | rfl | (simp only [List.length_drop, List.length_take]; rfl)) ?_; (with_reducible refine (law07_few.calls k _ _ l0 false _ ?side1 ?side2 A6.out).mono ?_); (case side1 => repeat (first | exact (Kd.C_below HR0.out HB.out) | (with_reducible refine Kd.C_alloc ?_ _) | (with_reducible refine Kd.C_drewN ?_ _) | (with_reducible refine Kd.C_drew ?_))); (case side2 => exact HC0.out); rintro e w' ⟨rfl, ⟨nd, rfl⟩⟩; refine ⟨_, rfl, ?_⟩))
    go_ret
    exact ⟨by first | rfl | (simp [errW_none, errW_some] <;> rfl) | (simp [*, errW_none, errW_some] <;> rfl), by repeat (first | (with_reducible first | exact HB.out | apply below_alloc | apply pw_below_drewN | apply below_drew1) | exact HB.out)⟩

/-- THE ONE PURE STATEMENT of law07_PlainBack: yours. -/
def law07_PlainBack.Pure : Prop := ∀ (l0 : List (S32)) (a1 : Int) (l2 : List Int) (a3 : Int), Hand.WfRow 32 wfS32 l0 → (Lit.int .i64 a1).wf = true → l2.length ≤ maxLen → l2.length * 1 ≤ 140737488351232 → (∀ x ∈ l2, (Lit.int .u8 x).wf = true) → (Lit.int .i64 a3).wf = true → ∃ k, law07_PlainBack.f k l0 a1 l2 a3 = some true
theorem law07_PlainBack.walk (P : law07_PlainBack.Pure) (A0 : Option Addr) (c0 : Nat) (l0 : List (S32)) (a1 : Int) (a2 : Option Addr) (len2 cap2 : Nat) (z2 : List Int) (a3 : Int) (w : World) (w0 : l0.length ≤ c0 ∧ Kd.C k32 w A0 l0.length l0 ∧ Hand.WfRow 32 wfS32 l0) (w1 : (Lit.int .i64 a1).wf = true) (w2 : (a2 = none ∧ len2 = 0 ∧ cap2 = 0 ∧ z2 = []) ∨ ∃ x, a2 = some x ∧ len2 ≤ cap2 ∧ cap2 ≤ maxLen ∧ z2.length = cap2 ∧ (∀ i, i < z2.length → w.cell? (x.add i) = some (.int .u8 (z2.getD i 0))) ∧ ∀ n ∈ z2, (Lit.int .u8 n).wf = true) (y2 : len2 * 1 ≤ 140737488351232) (w3 : (Lit.int .i64 a3).wf = true) :
    Calls Try.prog 6 #[.slice A0 l0.length c0, .int .i64 a1, .slice a2 len2 cap2, .int .i64 a3] w fun e w' => e = .returned (.bool true) ∧ Below w.heap.size w w' := by
  obtain ⟨hc0, hr0, hw0⟩ := w0
  obtain ⟨l2, rfl, hr2, hm2, hw2, hc2⟩ := ReadsInt.ofRowC w2
  obtain ⟨k, h⟩ := P l0 a1 l2 a3 hw0 w1 hm2 y2 hw2 w3
  refine (law07_PlainBack.calls k _ _ l0 a1 _ _ l2 a3 true w hr0 hc0 (Kd.C_of_reads (d := (0 : Int)) (h1 := fun _ => rfl) hr2) hc2 ⟨rfl⟩ h).mono ?_
  rintro e w' ⟨rfl, hd⟩
  exact ⟨rfl, hd⟩

/-! ### law07_PlainCuts: function 7 -/
def law07_PlainCuts.f (k : Nat) (l0 : List (S32)) (a1 : Int) (a2 : Int) : Option (Bool) := (law07_shown.f k).bind fun t261 => ((law07_few.f k l0).bind fun t262 => (if t262 = true then ((plain_Bytes.f k l0 a1).bind fun bt263 => (if bt263.2 = 0 then (if (bt263.1.length : Int) = 0 then (some t261) else (if 0 ≤ (Int.tmod (wrap64 (a2)) (bt263.1.length : Int)) then (if (Int.tmod (wrap64 (a2)) (bt263.1.length : Int)) ≤ (bt263.1.length : Int) then ((plain_Of.f k (bt263.1.take ((Int.tmod (wrap64 (a2)) (bt263.1.length : Int)) : Int).toNat) (l0.length : Int) a1).bind fun bt271 => (if t261 = true then (some (bt271.2 == 3)) else (some false))) else (none)) else (none))) else (some t261))) else (some t261)))
theorem law07_PlainCuts.mono : ∀ a0 a1 a2 k, LeO (law07_PlainCuts.f k a0 a1 a2) (law07_PlainCuts.f (k + 1) a0 a1 a2) := by
  intro a0 a1 a2 k
  unfold law07_PlainCuts.f
  repeat' first
      | (with_reducible exact law07_few.mono _ _)
      | (with_reducible exact law07_shown.mono _)
      | (with_reducible exact plain_Bytes.mono _ _ _)
      | (with_reducible exact plain_Of.mono _ _ _ _)
      | (with_reducible exact LeO.refl _)
      | (with_reducible exact LeO.none _)
      | (with_reducible refine LeO.ite ?_ ?_)
      | (with_reducible refine LeO.bind ?_ (fun _ => ?_))
      | exact law07_few.mono _ _
      | exact law07_shown.mono _
      | exact plain_Bytes.mono _ _ _
      | exact plain_Of.mono _ _ _ _
      | exact LeO.none _
      | refine LeO.ite ?_ ?_
      | refine LeO.bind ?_ (fun _ => ?_)
set_option maxHeartbeats 8000000 in
set_option maxRecDepth 100000 in
theorem law07_PlainCuts.calls (k : Nat) (A0 : Option Addr) (c0 : Nat) (l0 : List (S32)) (a1 : Int) (a2 : Int) (r : Bool) (w : World) (hr0 : Kd.C k32 w A0 l0.length l0) (hc0 : l0.length ≤ c0) (hr_ : Aside0 (r = true)) (h : law07_PlainCuts.f k l0 a1 a2 = some r) :
    Calls Try.prog 7 #[.slice A0 l0.length c0, .int .i64 a1, .int .u16 a2] w fun e w' => e = .returned (.bool r) ∧ Below w.heap.size w w' := by
  have HR0 := Aside0.mk hr0
  have HC0 := Aside0.mk hc0
  clear hr0 hc0
  have HB := Aside0.mk (Below.refl w.heap.size w)
  have H : ((law07_shown.f k).bind fun t261 => ((law07_few.f k l0).bind fun t262 => (if t262 = true then ((plain_Bytes.f k l0 a1).bind fun bt263 => (if bt263.2 = 0 then (if (bt263.1.length : Int) = 0 then (some t261) else (if 0 ≤ (Int.tmod (wrap64 (a2)) (bt263.1.length : Int)) then (if (Int.tmod (wrap64 (a2)) (bt263.1.length : Int)) ≤ (bt263.1.length : Int) then ((plain_Of.f k (bt263.1.take ((Int.tmod (wrap64 (a2)) (bt263.1.length : Int)) : Int).toNat) (l0.length : Int) a1).bind fun bt271 => (if t261 = true then (some (bt271.2 == 3)) else (some false))) else (none)) else (none))) else (some t261))) else (some t261)))) = some r := h
  clear h
  replace H := Option.bind_eq_some_iff.mp H
  obtain ⟨t261, A40, H⟩ := H
  replace H : ((law07_few.f k l0).bind fun t262 => (if t262 = true then ((plain_Bytes.f k l0 a1).bind fun bt263 => (if bt263.2 = 0 then (if (bt263.1.length : Int) = 0 then (some t261) else (if 0 ≤ (Int.tmod (wrap64 (a2)) (bt263.1.length : Int)) then (if (Int.tmod (wrap64 (a2)) (bt263.1.length : Int)) ≤ (bt263.1.length : Int) then ((plain_Of.f k (bt263.1.take ((Int.tmod (wrap64 (a2)) (bt263.1.length : Int)) : Int).toNat) (l0.length : Int) a1).bind fun bt271 => (if t261 = true then (some (bt271.2 == 3)) else (some false))) else (none)) else (none))) else (some t261))) else (some t261))) = some r := H
  have A4 := Aside0.mk A40
  clear A40
  replace H := Option.bind_eq_some_iff.mp H
  obtain ⟨t262, A50, H⟩ := H
  replace H : (if t262 = true then ((plain_Bytes.f k l0 a1).bind fun bt263 => (if bt263.2 = 0 then (if (bt263.1.length : Int) = 0 then (some t261) else (if 0 ≤ (Int.tmod (wrap64 (a2)) (bt263.1.length : Int)) then (if (Int.tmod (wrap64 (a2)) (bt263.1.length : Int)) ≤ (bt263.1.length : Int) then ((plain_Of.f k (bt263.1.take ((Int.tmod (wrap64 (a2)) (bt263.1.length : Int)) : Int).toNat) (l0.length : Int) a1).bind fun bt271 => (if t261 = true then (some (bt271.2 == 3)) else (some false))) else (none)) else (none))) else (some t261))) else (some t261)) = some r := H
  have A5 := Aside0.mk A50
  clear A50
  by_cases c6 : t262 = true
  · subst c6
    have H1 : ((plain_Bytes.f k l0 a1).bind fun bt263 => (if bt263.2 = 0 then (if (bt263.1.length : Int) = 0 then (some t261) else (if 0 ≤ (Int.tmod (wrap64 (a2)) (bt263.1.length : Int)) then (if (Int.tmod (wrap64 (a2)) (bt263.1.length : Int)) ≤ (bt263.1.length : Int) then ((plain_Of.f k (bt263.1.take ((Int.tmod (wrap64 (a2)) (bt263.1.length : Int)) : Int).toNat) (l0.length : Int) a1).bind fun bt271 => (if t261 = true then (some (bt271.2 == 3)) else (some false))) else (none)) else (none))) else (some t261))) = some r := by rw [if_pos rfl] at H; exact H
    clear H
    have H := H1
    clear H1
    replace H := Option.bind_eq_some_iff.mp H
    obtain ⟨⟨t263, t264⟩, A70, H⟩ := H
    replace H : (if t264 = 0 then (if (t263.length : Int) = 0 then (some t261) else (if 0 ≤ (Int.tmod (wrap64 (a2)) (t263.length : Int)) then (if (Int.tmod (wrap64 (a2)) (t263.length : Int)) ≤ (t263.length : Int) then ((plain_Of.f k (t263.take ((Int.tmod (wrap64 (a2)) (t263.length : Int)) : Int).toNat) (l0.length : Int) a1).bind fun bt271 => (if t261 = true then (some (bt271.2 == 3)) else (some false))) else (none)) else (none))) else (some t261)) = some r := H
    have A7 := Aside0.mk A70
    clear A70
    by_cases c8 : t264 = 0
    · rw [if_pos c8] at H
      have c8b0 : (t264 == 0) = true := beq_iff_eq.mpr c8
      have c8b1 : (t264 != 0) = false := bne_eq_false_iff_eq.mpr c8
      clear c8
      by_cases c9 : (t263.length : Int) = 0
      · rw [if_pos c9] at H
        have c9b0 : ((t263.length : Int) == 0) = true := beq_iff_eq.mpr c9
        have c9b1 : ((t263.length : Int) != 0) = false := bne_eq_false_iff_eq.mpr c9
        clear c9
        obtain rfl := Option.some.inj H
        go_enter Try.func7, Try.ntmps7
        go_wp2_with (first | ((with_reducible refine gate_callee (f := 14) rfl ?_); refine goesL_ (some 12) rfl rfl Try.func14 (by kernel_rfl) rfl #[] rfl (by (try simp only [List.map_toArray, List.map_cons, List.map_nil]); first | done | rfl | (simp only [List.length_drop, List.length_take]; rfl)) ?_; (with_reducible refine (law07_shown.calls k  t261 _ A4.out).mono ?_); rintro e w10 ⟨rfl, hb⟩; refine ⟨_, rfl, ?_⟩; have n0_ := Aside0.mk (below_step (by repeat (first | (with_reducible first | exact HB.out | apply below_alloc | apply pw_below_drewN | apply below_drew1) | exact HB.out)) hb); clear HB; have HB := n0_; clear n0_; (try clear hb); (try clear hb2); (try clear hk); (try clear hi)) | ((with_reducible refine gate_callee (f := 15) rfl ?_); refine goesL_ (some 14) rfl rfl Try.func15 (by kernel_rfl) rfl #[.slice A0 l0.length c0] rfl (by (try simp only [List.map_toArray, List.map_cons, List.map_nil]); first | done | rfl | (simp only [List.length_drop, List.length_take]; rfl)) ?_; (with_reducible refine (law07_few.calls k _ _ l0 true _ ?side1 ?side2 A5.out).mono ?_); (case side1 => repeat (first | exact (Kd.C_below HR0.out HB.out) | (with_reducible refine Kd.C_alloc ?_ _) | (with_reducible refine Kd.C_drewN ?_ _) | (with_reducible refine Kd.C_drew ?_))); (case side2 => exact HC0.out); rintro e w' ⟨rfl, ⟨nd, rfl⟩⟩; refine ⟨_, rfl, ?_⟩) | ((with_reducible refine gate_callee (f := 16) rfl ?_); refine goesL_ (some 20) rfl rfl Try.func16 (by kernel_rfl) rfl #[.slice A0 l0.length c0, .int .i64 a1] rfl (by (try simp only [List.map_toArray, List.map_cons, List.map_nil]); first | done | rfl | (simp only [List.length_drop, List.length_take]; rfl)) ?_; (with_reducible refine (plain_Bytes.calls k _ _ l0 a1 t263 t264 _ ?side1 ?side2 A7.out).mono ?_); (case side1 => repeat (first | exact (Kd.C_below HR0.out (by repeat (first | (with_reducible first | exact HB.out | apply below_alloc | apply pw_below_drewN | apply below_drew1) | exact HB.out))) | (with_reducible refine Kd.C_alloc ?_ _) | (with_reducible refine Kd.C_drewN ?_ _) | (with_reducible refine Kd.C_drew ?_))); (case side2 => exact HC0.out); rintro e w11 ⟨v265, rfl, ho0, hb⟩; refine ⟨_, rfl, ?_⟩; have n0_ := Aside0.mk (Kd.R_lower ho0 (below_size (by repeat (first | (with_reducible first | exact HB.out | apply below_alloc | apply pw_below_drewN | apply below_drew1) | exact HB.out)))); have n1_ := Aside0.mk (below_step (by repeat (first | (with_reducible first | exact HB.out | apply below_alloc | apply pw_below_drewN | apply below_drew1) | exact HB.out)) hb); clear HB; have HO266 := n0_; have HB := n1_; clear n0_ n1_; (try clear hb); (try clear hb2); (try clear hk); (try clear hi); (try clear ho0); obtain ⟨Ao12, co12, eo12⟩ := Kd.R_slice HO266.out; subst eo12))
        go_ret
        exact ⟨by first | rfl | (simp [errW_none, errW_some] <;> rfl) | (simp [*, errW_none, errW_some] <;> rfl), by repeat (first | (with_reducible first | exact HB.out | apply below_alloc | apply pw_below_drewN | apply below_drew1) | exact HB.out)⟩
      · rw [if_neg c9] at H
        have c9b0 : ((t263.length : Int) == 0) = false := beq_eq_false_iff_ne.mpr c9
        have c9b1 : ((t263.length : Int) != 0) = true := bne_iff_ne.mpr c9
        have c9b2 : ¬ (t263 = []) := fun h_ => c9 (by rw [h_]; rfl)
        obtain ⟨ji13, hji13⟩ : ∃ j_ : Int, (Int.tmod (wrap64 (a2)) (t263.length : Int)) = j_ := ⟨_, rfl⟩
        replace H : (if 0 ≤ (ji13) then (if (ji13) ≤ (t263.length : Int) then ((plain_Of.f k (t263.take ((ji13) : Int).toNat) (l0.length : Int) a1).bind fun bt271 => (if t261 = true then (some (bt271.2 == 3)) else (some false))) else (none)) else (none)) = some r := by first | (rw [hji13] at H; exact H) | (simp only [hji13] at H ⊢; exact H)
        (try rw [hji13] at A4)
        (try rw [hji13] at A5)
        (try rw [hji13] at A7)
        by_cases c14 : 0 ≤ (ji13)
        · rw [if_pos c14] at H
          have c14b0 := eq_true c14
          have c14b1 : decide (0 ≤ (ji13)) = true := decide_eq_true c14
          clear c14
          by_cases c15 : (ji13) ≤ (t263.length : Int)
          · rw [if_pos c15] at H
            have c15b0 := eq_true c15
            have c15b1 : decide ((ji13) ≤ (t263.length : Int)) = true := decide_eq_true c15
            clear c15
            obtain ⟨y267, hy267⟩ : ∃ y_ : List Int, y_ = (t263.take ((ji13) : Int).toNat) := ⟨_, rfl⟩
            replace H : ((plain_Of.f k y267 (l0.length : Int) a1).bind fun bt271 => (if t261 = true then (some (bt271.2 == 3)) else (some false))) = some r := by first | (rw [hy267]; with_reducible exact H) | (have H2_ := (Option.bind_some _ _).symm.trans H; rw [hy267]; with_reducible exact H2_) | (have H2_ := (Option.bind_some _ _).symm.trans H; with_reducible exact H2_) | with_reducible exact H | (rw [hy267]; exact H) | exact H
            have Ny267 := Aside0.mk hy267
            clear hy267
            replace H := Option.bind_eq_some_iff.mp H
            obtain ⟨⟨t271, t272⟩, A160, H⟩ := H
            replace H : (if t261 = true then (some (t272 == 3)) else (some false)) = some r := H
            have A16 := Aside0.mk A160
            clear A160
            by_cases c17 : t261 = true
            · subst c17
              have H1 : (some (t272 == 3)) = some r := by rw [if_pos rfl] at H; exact H
              clear H
              have H := H1
              clear H1
              obtain rfl := Option.some.inj H
              go_enter Try.func7, Try.ntmps7
              go_wp2_with (first | ((with_reducible refine gate_callee (f := 14) rfl ?_); refine goesL_ (some 12) rfl rfl Try.func14 (by kernel_rfl) rfl #[] rfl (by (try simp only [List.map_toArray, List.map_cons, List.map_nil]); first | done | rfl | (simp only [List.length_drop, List.length_take]; rfl)) ?_; (with_reducible refine (law07_shown.calls k  true _ A4.out).mono ?_); rintro e w18 ⟨rfl, hb⟩; refine ⟨_, rfl, ?_⟩; have n0_ := Aside0.mk (below_step (by repeat (first | (with_reducible first | exact HB.out | apply below_alloc | apply pw_below_drewN | apply below_drew1) | exact HB.out)) hb); clear HB; have HB := n0_; clear n0_; (try clear hb); (try clear hb2); (try clear hk); (try clear hi)) | ((with_reducible refine gate_callee (f := 15) rfl ?_); refine goesL_ (some 14) rfl rfl Try.func15 (by kernel_rfl) rfl #[.slice A0 l0.length c0] rfl (by (try simp only [List.map_toArray, List.map_cons, List.map_nil]); first | done | rfl | (simp only [List.length_drop, List.length_take]; rfl)) ?_; (with_reducible refine (law07_few.calls k _ _ l0 true _ ?side1 ?side2 A5.out).mono ?_); (case side1 => repeat (first | exact (Kd.C_below HR0.out HB.out) | (with_reducible refine Kd.C_alloc ?_ _) | (with_reducible refine Kd.C_drewN ?_ _) | (with_reducible refine Kd.C_drew ?_))); (case side2 => exact HC0.out); rintro e w' ⟨rfl, ⟨nd, rfl⟩⟩; refine ⟨_, rfl, ?_⟩) | ((with_reducible refine gate_callee (f := 16) rfl ?_); refine goesL_ (some 20) rfl rfl Try.func16 (by kernel_rfl) rfl #[.slice A0 l0.length c0, .int .i64 a1] rfl (by (try simp only [List.map_toArray, List.map_cons, List.map_nil]); first | done | rfl | (simp only [List.length_drop, List.length_take]; rfl)) ?_; (with_reducible refine (plain_Bytes.calls k _ _ l0 a1 t263 t264 _ ?side1 ?side2 A7.out).mono ?_); (case side1 => repeat (first | exact (Kd.C_below HR0.out (by repeat (first | (with_reducible first | exact HB.out | apply below_alloc | apply pw_below_drewN | apply below_drew1) | exact HB.out))) | (with_reducible refine Kd.C_alloc ?_ _) | (with_reducible refine Kd.C_drewN ?_ _) | (with_reducible refine Kd.C_drew ?_))); (case side2 => exact HC0.out); rintro e w19 ⟨v265, rfl, ho0, hb⟩; refine ⟨_, rfl, ?_⟩; have n0_ := Aside0.mk (Kd.R_lower ho0 (below_size (by repeat (first | (with_reducible first | exact HB.out | apply below_alloc | apply pw_below_drewN | apply below_drew1) | exact HB.out)))); have n1_ := Aside0.mk (below_step (by repeat (first | (with_reducible first | exact HB.out | apply below_alloc | apply pw_below_drewN | apply below_drew1) | exact HB.out)) hb); clear HB; have HO266 := n0_; have HB := n1_; clear n0_ n1_; (try clear hb); (try clear hb2); (try clear hk); (try clear hi); (try clear ho0); obtain ⟨Ao20, co20, eo20⟩ := Kd.R_slice HO266.out; subst eo20; have q21 : ((ji13) : Int) ≤ ((t263.length : Int) : Int) := of_decide_eq_true (by first | (with_reducible assumption) | assumption); obtain ⟨i021, hi021, _, hsz21, _⟩ := info_parts info5; have hroom21 : t263.length ≤ co20 := (Kd.R_reads' HO266.out).2.1; have hC21 : Kd.C (Kd.int .u8) _ Ao20 t263.length t263 := (Kd.R_reads' HO266.out).2.2; have hcut21 := cut_to (P := Try.prog) 25 5 .i64 Try.underlying25 hi021 Ao20 t263.length co20 (ji13) (of_decide_eq_true (by first | (with_reducible assumption) | assumption)) q21 hroom21; have hr21 := Kd.C_take (m := ((ji13) : Int).toNat) hC21 (by omega); have hy21 : y267.length = ((ji13) : Int).toNat := (by rw [Ny267.out, List.length_take]; omega); rw [← Ny267.out] at hr21; rw [← hy21] at hcut21; have HR270 := Aside0.mk hr21; have HC270 := Aside0.mk (show y267.length ≤ co20 from by omega); clear hr21 hC21 hroom21 hi021 hsz21; have KY21 := Aside0.mk hy21; clear hy21; have KL21 := Aside0.mk (show ((ji13) : Int).toNat ≤ t263.length from by omega); replace q21 := eq_true q21) | ((with_reducible refine gate_callee (f := 19) rfl ?_); refine goesL_ (some 42) rfl rfl Try.func19 (by kernel_rfl) rfl #[.slice Ao20 y267.length co20, .int .i64 (l0.length : Int), .int .i64 a1] rfl (by (try simp only [List.map_toArray, List.map_cons, List.map_nil]); first | done | rfl | (simp only [List.length_drop, List.length_take]; rfl)) ?_; (with_reducible refine (plain_Of.calls k _ _ y267 (l0.length : Int) a1 t271 t272 _ ?side1 ?side2 A16.out).mono ?_); (case side1 => repeat (first | exact (by repeat (first | (with_reducible exact HR270.out) | (with_reducible refine Kd.C_alloc ?_ _) | (with_reducible refine Kd.C_drewN ?_ _) | (with_reducible refine Kd.C_drew ?_) | exact HR270.out)) | (with_reducible refine Kd.C_alloc ?_ _) | (with_reducible refine Kd.C_drewN ?_ _) | (with_reducible refine Kd.C_drew ?_))); (case side2 => exact HC270.out); rintro e w22 ⟨v273, rfl, ho0, hb⟩; refine ⟨_, rfl, ?_⟩; have n0_ := Aside0.mk (Kd.R_below (by (with_reducible repeat (first | apply Kd.R_alloc | apply Kd.R_drewN | apply Kd.R_drew)); exact HO266.out) hb); have n1_ := Aside0.mk (Kd.R_lower ho0 (below_size (by repeat (first | (with_reducible first | exact HB.out | apply below_alloc | apply pw_below_drewN | apply below_drew1) | exact HB.out)))); have n2_ := Aside0.mk (Kd.C_below (by repeat (first | (with_reducible exact HR270.out) | (with_reducible refine Kd.C_alloc ?_ _) | (with_reducible refine Kd.C_drewN ?_ _) | (with_reducible refine Kd.C_drew ?_) | exact HR270.out)) hb); have n3_ := Aside0.mk (below_step (by repeat (first | (with_reducible first | exact HB.out | apply below_alloc | apply pw_below_drewN | apply below_drew1) | exact HB.out)) hb); clear HO266; clear HR270; clear HB; have HO266 := n0_; have HO274 := n1_; have HR270 := n2_; have HB := n3_; clear n0_ n1_ n2_ n3_; (try clear hb); (try clear hb2); (try clear hk); (try clear hi); (try clear ho0)))
              go_ret
              exact ⟨by first | rfl | (simp [errW_none, errW_some] <;> rfl) | (simp only [← hji13]; first | rfl | (simp [errW_none, errW_some] <;> rfl)) | (simp [*, errW_none, errW_some] <;> rfl), by repeat (first | (with_reducible first | exact HB.out | apply below_alloc | apply pw_below_drewN | apply below_drew1) | exact HB.out)⟩
            · replace c17 := Bool.eq_false_iff.mpr c17
              subst c17
              have H1 : (some false) = some r := by rw [if_neg (show ¬ (false = true) by decide)] at H; exact H
              clear H
              have H := H1
              clear H1
              exact absurd ((Option.some.inj H).trans hr_.out) (by decide)
          · rw [if_neg c15] at H
            exact absurd H (by simp)
        · rw [if_neg c14] at H
          exact absurd H (by simp)
    · rw [if_neg c8] at H
      have c8b0 : (t264 == 0) = false := beq_eq_false_iff_ne.mpr c8
      have c8b1 : (t264 != 0) = true := bne_iff_ne.mpr c8
      obtain rfl := Option.some.inj H
      go_enter Try.func7, Try.ntmps7
      go_wp2_with (first | ((with_reducible refine gate_callee (f := 14) rfl ?_); refine goesL_ (some 12) rfl rfl Try.func14 (by kernel_rfl) rfl #[] rfl (by (try simp only [List.map_toArray, List.map_cons, List.map_nil]); first | done | rfl | (simp only [List.length_drop, List.length_take]; rfl)) ?_; (with_reducible refine (law07_shown.calls k  t261 _ A4.out).mono ?_); rintro e w23 ⟨rfl, hb⟩; refine ⟨_, rfl, ?_⟩; have n0_ := Aside0.mk (below_step (by repeat (first | (with_reducible first | exact HB.out | apply below_alloc | apply pw_below_drewN | apply below_drew1) | exact HB.out)) hb); clear HB; have HB := n0_; clear n0_; (try clear hb); (try clear hb2); (try clear hk); (try clear hi)) | ((with_reducible refine gate_callee (f := 15) rfl ?_); refine goesL_ (some 14) rfl rfl Try.func15 (by kernel_rfl) rfl #[.slice A0 l0.length c0] rfl (by (try simp only [List.map_toArray, List.map_cons, List.map_nil]); first | done | rfl | (simp only [List.length_drop, List.length_take]; rfl)) ?_; (with_reducible refine (law07_few.calls k _ _ l0 true _ ?side1 ?side2 A5.out).mono ?_); (case side1 => repeat (first | exact (Kd.C_below HR0.out HB.out) | (with_reducible refine Kd.C_alloc ?_ _) | (with_reducible refine Kd.C_drewN ?_ _) | (with_reducible refine Kd.C_drew ?_))); (case side2 => exact HC0.out); rintro e w' ⟨rfl, ⟨nd, rfl⟩⟩; refine ⟨_, rfl, ?_⟩) | ((with_reducible refine gate_callee (f := 16) rfl ?_); refine goesL_ (some 20) rfl rfl Try.func16 (by kernel_rfl) rfl #[.slice A0 l0.length c0, .int .i64 a1] rfl (by (try simp only [List.map_toArray, List.map_cons, List.map_nil]); first | done | rfl | (simp only [List.length_drop, List.length_take]; rfl)) ?_; (with_reducible refine (plain_Bytes.calls k _ _ l0 a1 t263 t264 _ ?side1 ?side2 A7.out).mono ?_); (case side1 => repeat (first | exact (Kd.C_below HR0.out (by repeat (first | (with_reducible first | exact HB.out | apply below_alloc | apply pw_below_drewN | apply below_drew1) | exact HB.out))) | (with_reducible refine Kd.C_alloc ?_ _) | (with_reducible refine Kd.C_drewN ?_ _) | (with_reducible refine Kd.C_drew ?_))); (case side2 => exact HC0.out); rintro e w24 ⟨v265, rfl, ho0, hb⟩; refine ⟨_, rfl, ?_⟩; have n0_ := Aside0.mk (Kd.R_lower ho0 (below_size (by repeat (first | (with_reducible first | exact HB.out | apply below_alloc | apply pw_below_drewN | apply below_drew1) | exact HB.out)))); have n1_ := Aside0.mk (below_step (by repeat (first | (with_reducible first | exact HB.out | apply below_alloc | apply pw_below_drewN | apply below_drew1) | exact HB.out)) hb); clear HB; have HO266 := n0_; have HB := n1_; clear n0_ n1_; (try clear hb); (try clear hb2); (try clear hk); (try clear hi); (try clear ho0)))
      go_ret
      exact ⟨by first | rfl | (simp [errW_none, errW_some] <;> rfl) | (simp [*, errW_none, errW_some] <;> rfl), by repeat (first | (with_reducible first | exact HB.out | apply below_alloc | apply pw_below_drewN | apply below_drew1) | exact HB.out)⟩
  · replace c6 := Bool.eq_false_iff.mpr c6
    subst c6
    have H1 : (some t261) = some r := by rw [if_neg (show ¬ (false = true) by decide)] at H; exact H
    clear H
    have H := H1
    clear H1
    obtain rfl := Option.some.inj H
    go_enter Try.func7, Try.ntmps7
    go_wp2_with (first | ((with_reducible refine gate_callee (f := 14) rfl ?_); refine goesL_ (some 12) rfl rfl Try.func14 (by kernel_rfl) rfl #[] rfl (by (try simp only [List.map_toArray, List.map_cons, List.map_nil]); first | done | rfl | (simp only [List.length_drop, List.length_take]; rfl)) ?_; (with_reducible refine (law07_shown.calls k  t261 _ A4.out).mono ?_); rintro e w25 ⟨rfl, hb⟩; refine ⟨_, rfl, ?_⟩; have n0_ := Aside0.mk (below_step (by repeat (first | (with_reducible first | exact HB.out | apply below_alloc | apply pw_below_drewN | apply below_drew1) | exact HB.out)) hb); clear HB; have HB := n0_; clear n0_; (try clear hb); (try clear hb2); (try clear hk); (try clear hi)) | ((with_reducible refine gate_callee (f := 15) rfl ?_); refine goesL_ (some 14) rfl rfl Try.func15 (by kernel_rfl) rfl #[.slice A0 l0.length c0] rfl (by (try simp only [List.map_toArray, List.map_cons, List.map_nil]); first | done | rfl | (simp only [List.length_drop, List.length_take]; rfl)) ?_; (with_reducible refine (law07_few.calls k _ _ l0 false _ ?side1 ?side2 A5.out).mono ?_); (case side1 => repeat (first | exact (Kd.C_below HR0.out HB.out) | (with_reducible refine Kd.C_alloc ?_ _) | (with_reducible refine Kd.C_drewN ?_ _) | (with_reducible refine Kd.C_drew ?_))); (case side2 => exact HC0.out); rintro e w' ⟨rfl, ⟨nd, rfl⟩⟩; refine ⟨_, rfl, ?_⟩))
    go_ret
    exact ⟨by first | rfl | (simp [errW_none, errW_some] <;> rfl) | (simp [*, errW_none, errW_some] <;> rfl), by repeat (first | (with_reducible first | exact HB.out | apply below_alloc | apply pw_below_drewN | apply below_drew1) | exact HB.out)⟩

/-- THE ONE PURE STATEMENT of law07_PlainCuts: yours. -/
def law07_PlainCuts.Pure : Prop := ∀ (l0 : List (S32)) (a1 : Int) (a2 : Int), Hand.WfRow 32 wfS32 l0 → (Lit.int .i64 a1).wf = true → (Lit.int .u16 a2).wf = true → ∃ k, law07_PlainCuts.f k l0 a1 a2 = some true
theorem law07_PlainCuts.walk (P : law07_PlainCuts.Pure) (A0 : Option Addr) (c0 : Nat) (l0 : List (S32)) (a1 : Int) (a2 : Int) (w : World) (w0 : l0.length ≤ c0 ∧ Kd.C k32 w A0 l0.length l0 ∧ Hand.WfRow 32 wfS32 l0) (w1 : (Lit.int .i64 a1).wf = true) (w2 : (Lit.int .u16 a2).wf = true) :
    Calls Try.prog 7 #[.slice A0 l0.length c0, .int .i64 a1, .int .u16 a2] w fun e w' => e = .returned (.bool true) ∧ Below w.heap.size w w' := by
  obtain ⟨hc0, hr0, hw0⟩ := w0
  obtain ⟨k, h⟩ := P l0 a1 a2 hw0 w1 w2
  refine (law07_PlainCuts.calls k _ _ l0 a1 a2 true w hr0 hc0 ⟨rfl⟩ h).mono ?_
  rintro e w' ⟨rfl, hd⟩
  exact ⟨rfl, hd⟩

/-! ### ref07_Kinds: function 44 -/
def ref07_Kinds.f (a0 : Int) : Option (Bool) := if a0 = 1 then (some true) else (if a0 = 2 then (some true) else (some (a0 == 3)))
set_option maxHeartbeats 8000000 in
set_option maxRecDepth 100000 in
theorem ref07_Kinds.calls (a0 : Int) (r : Bool) (w : World) (h : ref07_Kinds.f a0 = some r) :
    Calls Try.prog 44 #[.int .i64 a0] w fun e w' => e = .returned (.bool r) ∧ Drawn0 w w' := by
  have H : (if a0 = 1 then (some true) else (if a0 = 2 then (some true) else (some (a0 == 3)))) = some r := h
  clear h
  by_cases c2 : a0 = 1
  · rw [if_pos c2] at H
    have c2b0 : (a0 == 1) = true := beq_iff_eq.mpr c2
    have c2b1 : (a0 != 1) = false := bne_eq_false_iff_eq.mpr c2
    clear c2
    obtain rfl := Option.some.inj H
    go_enter Try.func44, Try.ntmps44
    go_wp2
    go_ret
    exact ⟨by first | rfl | (simp; done) | (simp [*]; done), by repeat (first | exact Drawn0.refl _ | apply Drawn0.step)⟩
  · rw [if_neg c2] at H
    have c2b0 : (a0 == 1) = false := beq_eq_false_iff_ne.mpr c2
    have c2b1 : (a0 != 1) = true := bne_iff_ne.mpr c2
    by_cases c3 : a0 = 2
    · rw [if_pos c3] at H
      have c3b0 : (a0 == 2) = true := beq_iff_eq.mpr c3
      have c3b1 : (a0 != 2) = false := bne_eq_false_iff_eq.mpr c3
      clear c3
      obtain rfl := Option.some.inj H
      go_enter Try.func44, Try.ntmps44
      go_wp2
      go_ret
      exact ⟨by first | rfl | (simp; done) | (simp [*]; done), by repeat (first | exact Drawn0.refl _ | apply Drawn0.step)⟩
    · rw [if_neg c3] at H
      have c3b0 : (a0 == 2) = false := beq_eq_false_iff_ne.mpr c3
      have c3b1 : (a0 != 2) = true := bne_iff_ne.mpr c3
      obtain rfl := Option.some.inj H
      go_enter Try.func44, Try.ntmps44
      go_wp2
      go_ret
      exact ⟨by first | rfl | (simp; done) | (simp [*]; done), by repeat (first | exact Drawn0.refl _ | apply Drawn0.step)⟩

/-! ### ref04_Parts: function 73 -/
def ref04_Parts.f (a0 : Int) : Option (Bool × Int × Int) := some (decide (a0 ≥ 9223372036854775808), Int.tmod (IntKind.u64.wrap (Int.tdiv a0 4503599627370496)) 2048, Int.tmod a0 4503599627370496)
set_option maxHeartbeats 8000000 in
set_option maxRecDepth 100000 in
theorem ref04_Parts.calls (a0 : Int) (r1 : Bool) (r2 : Int) (r3 : Int) (w : World) (h : ref04_Parts.f a0 = some (r1, r2, r3)) :
    Calls Try.prog 73 #[.int .u64 a0] w fun e w' => e = .returned (.tuple #[.bool r1, .int .u64 r2, .int .u64 r3]) ∧ Drawn0 w w' := by
  have H : (some (decide (a0 ≥ 9223372036854775808), Int.tmod (IntKind.u64.wrap (Int.tdiv a0 4503599627370496)) 2048, Int.tmod a0 4503599627370496)) = some (r1, r2, r3) := h
  clear h
  simp only [Option.some.injEq, Prod.mk.injEq] at H
  obtain ⟨rfl, rfl, rfl⟩ := H
  go_enter Try.func73, Try.ntmps73
  go_wp2
  go_ret3
  exact ⟨by first | rfl | (simp; done) | (simp [*]; done), by repeat (first | exact Drawn0.refl _ | apply Drawn0.step)⟩

/-! ### ref04_IsNan: function 77 -/
def ref04_IsNan.f (a0 : Int) : Option (Bool) := (ref04_Parts.f a0).bind fun bt275 => (if bt275.2.1 = 2047 then (some (bt275.2.2 != 0)) else (some false))
set_option maxHeartbeats 8000000 in
set_option maxRecDepth 100000 in
theorem ref04_IsNan.calls (a0 : Int) (r : Bool) (w : World) (h : ref04_IsNan.f a0 = some r) :
    Calls Try.prog 77 #[.int .u64 a0] w fun e w' => e = .returned (.bool r) ∧ Drawn0 w w' := by
  have H : ((ref04_Parts.f a0).bind fun bt275 => (if bt275.2.1 = 2047 then (some (bt275.2.2 != 0)) else (some false))) = some r := h
  clear h
  replace H := Option.bind_eq_some_iff.mp H
  obtain ⟨⟨t275, t276, t277⟩, A20, H⟩ := H
  replace H : (if t276 = 2047 then (some (t277 != 0)) else (some false)) = some r := H
  have A2 := Aside0.mk A20
  clear A20
  by_cases c3 : t276 = 2047
  · rw [if_pos c3] at H
    have c3b0 : (t276 == 2047) = true := beq_iff_eq.mpr c3
    have c3b1 : (t276 != 2047) = false := bne_eq_false_iff_eq.mpr c3
    clear c3
    obtain rfl := Option.some.inj H
    go_enter Try.func77, Try.ntmps77
    go_wp2_with (first | ((with_reducible refine gate_callee (f := 73) rfl ?_); refine goesL_ (some 8) rfl rfl Try.func73 (by kernel_rfl) rfl #[.int .u64 a0] rfl (by (try simp only [List.map_toArray, List.map_cons, List.map_nil]); first | done | rfl | (simp only [List.length_drop, List.length_take]; rfl)) ?_; (with_reducible refine (ref04_Parts.calls a0 t275 t276 t277 _ A2.out).mono ?_); rintro e w' ⟨rfl, ⟨nd, rfl⟩⟩; refine ⟨_, rfl, ?_⟩))
    go_ret
    exact ⟨by first | rfl | (simp; done) | (simp [*]; done), by repeat (first | exact Drawn0.refl _ | apply Drawn0.step)⟩
  · rw [if_neg c3] at H
    have c3b0 : (t276 == 2047) = false := beq_eq_false_iff_ne.mpr c3
    have c3b1 : (t276 != 2047) = true := bne_iff_ne.mpr c3
    obtain rfl := Option.some.inj H
    go_enter Try.func77, Try.ntmps77
    go_wp2_with (first | ((with_reducible refine gate_callee (f := 73) rfl ?_); refine goesL_ (some 8) rfl rfl Try.func73 (by kernel_rfl) rfl #[.int .u64 a0] rfl (by (try simp only [List.map_toArray, List.map_cons, List.map_nil]); first | done | rfl | (simp only [List.length_drop, List.length_take]; rfl)) ?_; (with_reducible refine (ref04_Parts.calls a0 t275 t276 t277 _ A2.out).mono ?_); rintro e w' ⟨rfl, ⟨nd, rfl⟩⟩; refine ⟨_, rfl, ?_⟩))
    go_ret
    exact ⟨by first | rfl | (simp; done) | (simp [*]; done), by repeat (first | exact Drawn0.refl _ | apply Drawn0.step)⟩

/-! ### ref04_Clean: function 67 -/
def ref04_Clean.f (a0 : Int) : Option (Int) := (ref04_IsNan.f a0).bind fun t278 => (if t278 = true then (some 9221120237041090560) else (some a0))
set_option maxHeartbeats 8000000 in
set_option maxRecDepth 100000 in
theorem ref04_Clean.calls (a0 : Int) (r : Int) (w : World) (h : ref04_Clean.f a0 = some r) :
    Calls Try.prog 67 #[.int .u64 a0] w fun e w' => e = .returned (.int .u64 r) ∧ Drawn0 w w' := by
  have H : ((ref04_IsNan.f a0).bind fun t278 => (if t278 = true then (some 9221120237041090560) else (some a0))) = some r := h
  clear h
  replace H := Option.bind_eq_some_iff.mp H
  obtain ⟨t278, A20, H⟩ := H
  replace H : (if t278 = true then (some 9221120237041090560) else (some a0)) = some r := H
  have A2 := Aside0.mk A20
  clear A20
  by_cases c3 : t278 = true
  · subst c3
    have H1 : (some 9221120237041090560) = some r := by rw [if_pos rfl] at H; exact H
    clear H
    have H := H1
    clear H1
    obtain rfl := Option.some.inj H
    go_enter Try.func67, Try.ntmps67
    go_wp2_with (first | ((with_reducible refine gate_callee (f := 77) rfl ?_); refine goesL_ (some 4) rfl rfl Try.func77 (by kernel_rfl) rfl #[.int .u64 a0] rfl (by (try simp only [List.map_toArray, List.map_cons, List.map_nil]); first | done | rfl | (simp only [List.length_drop, List.length_take]; rfl)) ?_; (with_reducible refine (ref04_IsNan.calls a0 true _ A2.out).mono ?_); rintro e w' ⟨rfl, ⟨nd, rfl⟩⟩; refine ⟨_, rfl, ?_⟩))
    go_ret
    exact ⟨by first | rfl | (simp; done) | (simp [*]; done), by repeat (first | exact Drawn0.refl _ | apply Drawn0.step)⟩
  · replace c3 := Bool.eq_false_iff.mpr c3
    subst c3
    have H1 : (some a0) = some r := by rw [if_neg (show ¬ (false = true) by decide)] at H; exact H
    clear H
    have H := H1
    clear H1
    obtain rfl := Option.some.inj H
    go_enter Try.func67, Try.ntmps67
    go_wp2_with (first | ((with_reducible refine gate_callee (f := 77) rfl ?_); refine goesL_ (some 4) rfl rfl Try.func77 (by kernel_rfl) rfl #[.int .u64 a0] rfl (by (try simp only [List.map_toArray, List.map_cons, List.map_nil]); first | done | rfl | (simp only [List.length_drop, List.length_take]; rfl)) ?_; (with_reducible refine (ref04_IsNan.calls a0 false _ A2.out).mono ?_); rintro e w' ⟨rfl, ⟨nd, rfl⟩⟩; refine ⟨_, rfl, ?_⟩))
    go_ret
    exact ⟨by first | rfl | (simp; done) | (simp [*]; done), by repeat (first | exact Drawn0.refl _ | apply Drawn0.step)⟩

end Go.Proofs.Ytjchjdbfmiibhaa.PPla
