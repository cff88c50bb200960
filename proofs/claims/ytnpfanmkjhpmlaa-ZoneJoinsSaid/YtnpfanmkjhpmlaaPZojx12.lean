-- Written by this session's program wip/gprint/gprint.py, over the kit's print, with given functions; no text of print.sh's.
import Derived.Test.YtnpfanmkjhpmlaaPZojx0
import Derived.Test.YtnpfanmkjhpmlaaPZojx6
import Derived.Test.YtnpfanmkjhpmlaaPZojx8
import Derived.Test.YtnpfanmkjhpmlaaPZojx10
namespace Go.Proofs.Ytnpfanmkjhpmlaa.PZoj
open Go.RowKit Go.Proofs.YtnpfanmkjhpmlaaW.PrintWords Go.Proofs.YtnpfanmkjhpmlaaW.PrintLast Go.Proofs.YtnpfanmkjhpmlaaW.PrintMore
attribute [local go_sem] max2_int min2_int max_two min_two max_three min_three max_four min_four   -- for this text's walks alone
set_option linter.unusedVariables false
set_option linter.unusedSimpArgs false

/-! ### law14_shown: function 8 -/
-- GIVEN BY HAND
theorem shown_bcell {W w1 : World} (hb : Below W.heap.size W w1) : (∀ b o, b < W.heap.size → w1.cell? ⟨b, o, none⟩ = W.cell? ⟨b, o, none⟩) ∧ (∀ b o, b < W.heap.size → w1.frozen? ⟨b, o, none⟩ = W.frozen? ⟨b, o, none⟩) :=
  ⟨fun b o h => hb.cell (p := ⟨b, o, none⟩) h, fun b o h => hb.frozen (p := ⟨b, o, none⟩) h⟩
set_option maxHeartbeats 1000000 in
set_option maxRecDepth 100000 in
theorem shown_join (w : World) : Calls Try.prog 15 #[.agg #[.int .i64 2, .int .i64 0, .int .i64 1, .int .i64 3, .string ⟨#[]⟩, .int .i64 1, .int .i64 7, .string ⟨#[]⟩], .agg #[.int .i64 2, .int .i64 0, .int .i64 1, .int .i64 3, .string ⟨#[]⟩, .int .i64 1, .int .i64 7, .string ⟨#[]⟩]] w
    fun e w' => e = .returned (.agg #[.int .i64 4, .int .i64 0, .int .i64 1, .int .i64 3, .string ⟨#[]⟩, .int .i64 1, .int .i64 7, .string ⟨#[]⟩]) ∧ Below w.heap.size w w' := by
  have hu30 := Try.underlying30
  go_enter Try.func15, Try.ntmps15
  go_wp2_with fail
  refine (zone_ahead.calls 1 3 ⟨#[]⟩ 1 3 ⟨#[]⟩ false _ (by decide +kernel)).mono ?_
  rintro e w2 ⟨rfl, hB⟩
  have hz := hB.size
  simp at hz
  have hB0 : Below w.heap.size w w2 := Below.trans (by repeat (first | exact Below.refl _ _ | refine Below.setCell ?_ (by first | (simp; done) | (simp; omega)) _ | refine Below.alloc ?_ (by first | (simp; done) | (simp; omega)) _)) (hB.mono (by simp; try omega))
  have hca0 := fun o => (shown_bcell hB).1 (w.heap.size) o (by first | omega | (simp; done) | (simp; omega))
  have hfa0 := fun o => (shown_bcell hB).2 (w.heap.size) o (by first | omega | (simp; done) | (simp; omega))
  have hca1 := fun o => (shown_bcell hB).1 (w.heap.size + 1) o (by first | omega | (simp; done) | (simp; omega))
  have hfa1 := fun o => (shown_bcell hB).2 (w.heap.size + 1) o (by first | omega | (simp; done) | (simp; omega))
  have hca2 := fun o => (shown_bcell hB).1 (w.heap.size + 1 + 1) o (by first | omega | (simp; done) | (simp; omega))
  have hfa2 := fun o => (shown_bcell hB).2 (w.heap.size + 1 + 1) o (by first | omega | (simp; done) | (simp; omega))
  have hca3 := fun o => (shown_bcell hB).1 (w.heap.size + 1 + 1 + 1) o (by first | omega | (simp; done) | (simp; omega))
  have hfa3 := fun o => (shown_bcell hB).2 (w.heap.size + 1 + 1 + 1) o (by first | omega | (simp; done) | (simp; omega))
  clear hB
  go_wp2_with fail
  refine (zone_ahead.calls 1 7 ⟨#[]⟩ 1 7 ⟨#[]⟩ false _ (by decide +kernel)).mono ?_
  rintro e w3 ⟨rfl, hB⟩
  have hB1 : Below w.heap.size w w3 := hB0.trans (Below.trans (by repeat (first | exact Below.refl _ _ | refine Below.setCell ?_ (by first | (simp; done) | (simp; omega)) _ | refine Below.alloc ?_ (by first | (simp; done) | (simp; omega)) _)) (hB.mono (by first | omega | (simp; omega))))
  have hcb0 := fun o => (shown_bcell hB).1 (w.heap.size) o (by first | omega | (simp; done) | (simp; omega))
  have hfb0 := fun o => (shown_bcell hB).2 (w.heap.size) o (by first | omega | (simp; done) | (simp; omega))
  have hcb1 := fun o => (shown_bcell hB).1 (w.heap.size + 1) o (by first | omega | (simp; done) | (simp; omega))
  have hfb1 := fun o => (shown_bcell hB).2 (w.heap.size + 1) o (by first | omega | (simp; done) | (simp; omega))
  have hcb2 := fun o => (shown_bcell hB).1 (w.heap.size + 1 + 1) o (by first | omega | (simp; done) | (simp; omega))
  have hfb2 := fun o => (shown_bcell hB).2 (w.heap.size + 1 + 1) o (by first | omega | (simp; done) | (simp; omega))
  have hcb3 := fun o => (shown_bcell hB).1 (w.heap.size + 1 + 1 + 1) o (by first | omega | (simp; done) | (simp; omega))
  have hfb3 := fun o => (shown_bcell hB).2 (w.heap.size + 1 + 1 + 1) o (by first | omega | (simp; done) | (simp; omega))
  clear hB
  go_wp2
  exact bodyPost_ret (v := .agg #[.int .i64 4, .int .i64 0, .int .i64 1, .int .i64 3, .string ⟨#[]⟩, .int .i64 1, .int .i64 7, .string ⟨#[]⟩]) (by simp [results, Try.results15, go_sem, hcb2, hca2]) rfl ⟨rfl, by repeat (first | (with_reducible exact hB1) | refine Below.setCell ?_ (by first | (simp; done) | (simp; omega)) _ | refine Below.alloc ?_ (by first | (simp; done) | (simp; omega)) _)⟩
set_option maxHeartbeats 1000000 in
set_option maxRecDepth 100000 in
theorem shown_calls (w : World) : Calls Try.prog 8 #[] w fun e w' => e = .returned (.bool true) ∧ Below w.heap.size w w' := by
  have hu30 := Try.underlying30
  have hfd : ∀ (u0_ u1_ u2_ u3_ u4_ u5_ u6_ u7_ : Value) (W : World), (Instr.field 30 (.agg #[u0_, u1_, u2_, u3_, u4_, u5_, u6_, u7_]) 0).run Try.prog W = .ok (u0_) W := fun u0_ u1_ u2_ u3_ u4_ u5_ u6_ u7_ W => by kernel_rfl
  go_enter Try.func8, Try.ntmps8
  go_wp2_with fail
  refine (zone_None.calls 2 0 1 3 ⟨#[]⟩ 1 7 ⟨#[]⟩ 0 5 1 7 ⟨#[]⟩ true _ (by decide +kernel)).mono ?_
  rintro e w2 ⟨rfl, hB⟩
  have hB0 : Below w.heap.size w w2 := Below.trans (by repeat (first | exact Below.refl _ _ | refine Below.setCell ?_ (by simp) _ | refine Below.alloc ?_ (by simp) _)) (hB.mono (by simp))
  obtain ⟨hc, hf⟩ := shown_bcell hB
  have hz := hB.size
  simp at hz
  clear hB
  go_wp2_with fail
  refine (zone_Every.calls 2 0 1 3 ⟨#[]⟩ 1 7 ⟨#[]⟩ 0 6 1 3 ⟨#[]⟩ true _ (by decide +kernel)).mono ?_
  rintro e w3 ⟨rfl, hB⟩
  have hB1 : Below w.heap.size w w3 := hB0.trans (Below.trans (by repeat (first | exact Below.refl _ _ | refine Below.setCell ?_ (by simp) _ | refine Below.alloc ?_ (by simp) _)) (hB.mono (by first | omega | (simp; omega))))
  have hc1 := fun o => (shown_bcell hB).1 w.heap.size o (by first | omega | (simp; omega))
  have hf1 := fun o => (shown_bcell hB).2 w.heap.size o (by first | omega | (simp; omega))
  have hz1 := hB.size
  try simp at hz1
  clear hB
  go_wp2_with fail
  refine (shown_join _).mono ?_
  rintro e w4 ⟨rfl, hB⟩
  have hB2 : Below w.heap.size w w4 := hB1.trans (Below.trans (by repeat (first | exact Below.refl _ _ | refine Below.setCell ?_ (by simp) _ | refine Below.alloc ?_ (by simp) _)) (hB.mono (by first | omega | (simp; omega))))
  go_wp2
  go_ret
  exact ⟨rfl, hB2⟩
def law14_shown.f : Option (Bool) := some true
theorem law14_shown.calls (r : Bool) (w : World) (h : law14_shown.f = some r) :
    Calls Try.prog 8 #[] w fun e w' => e = .returned (.bool r) ∧ Below w.heap.size w w' := by
  obtain rfl : true = r := Option.some.inj h
  exact shown_calls w

/-! ### law14_few: function 9 -/
mutual
def law14_few.l0 : Nat → List (S24) → Int → Int → Option (Bool)
  | 0, _, _, _ => none
  | k + 1, x0, x1, x5 => if x5 < (x0.length : Int) then (law14_few.j1 k x0 x1 x5 (decide (x5 < 500))) else (law14_few.j1 k x0 x1 x5 false)
def law14_few.j1 : Nat → List (S24) → Int → Int → Bool → Option (Bool)
  | 0, _, _, _, _ => none
  | k + 1, x0, x1, x5, x13 => if x13 = true then (if 0 ≤ x5 then (if x5 < (x0.length : Int) then (if ((rd_T24 x0 x5).f0) = x1 then (law14_few.l0 k x0 x1 (wrap64 (x5 + 1))) else (if ((rd_T24 x0 x5).f0) = 0 then (law14_few.l0 k x0 x1 (wrap64 (x5 + 1))) else (some false))) else (none)) else (none)) else (some (decide ((x0.length : Int) ≤ 500)))
end
def law14_few.f (k : Nat) (l0 : List (S24)) (a1 : Int) : Option (Bool) := law14_few.l0 k l0 a1 0
theorem law14_few.mono_l : ∀ k, (∀ y0 y1 y2, LeO (law14_few.l0 k y0 y1 y2) (law14_few.l0 (k + 1) y0 y1 y2)) ∧ (∀ y0 y1 y2 y3, LeO (law14_few.j1 k y0 y1 y2 y3) (law14_few.j1 (k + 1) y0 y1 y2 y3))
  | 0 => ⟨fun _ _ _ r h => by simp [law14_few.l0] at h, fun _ _ _ _ r h => by simp [law14_few.j1] at h⟩
  | k + 1 => by
    obtain ⟨ih0, ih1⟩ := law14_few.mono_l k
    refine ⟨?_, ?_⟩
    · intro y0 y1 y2
      unfold law14_few.l0
      repeat' first
      | (with_reducible exact ih0 _ _ _)
      | (with_reducible exact ih1 _ _ _ _)
      | (with_reducible exact LeO.refl _)
      | (with_reducible exact LeO.none _)
      | (with_reducible refine LeO.ite ?_ ?_)
      | (with_reducible refine LeO.bind ?_ (fun _ => ?_))
      | exact ih0 _ _ _
      | exact ih1 _ _ _ _
      | exact LeO.none _
      | refine LeO.ite ?_ ?_
      | refine LeO.bind ?_ (fun _ => ?_)
    · intro y0 y1 y2 y3
      unfold law14_few.j1
      repeat' first
      | (with_reducible exact ih0 _ _ _)
      | (with_reducible exact ih1 _ _ _ _)
      | (with_reducible exact LeO.refl _)
      | (with_reducible exact LeO.none _)
      | (with_reducible refine LeO.ite ?_ ?_)
      | (with_reducible refine LeO.bind ?_ (fun _ => ?_))
      | exact ih0 _ _ _
      | exact ih1 _ _ _ _
      | exact LeO.none _
      | refine LeO.ite ?_ ?_
      | refine LeO.bind ?_ (fun _ => ?_)
theorem law14_few.mono : ∀ a0 a1 k, LeO (law14_few.f k a0 a1) (law14_few.f (k + 1) a0 a1) := by
  intro a0 a1 k
  obtain ⟨ih0, ih1⟩ := law14_few.mono_l k
  unfold law14_few.f
  repeat' first
      | (with_reducible exact ih0 _ _ _)
      | (with_reducible exact ih1 _ _ _ _)
      | (with_reducible exact LeO.refl _)
      | (with_reducible exact LeO.none _)
      | (with_reducible refine LeO.ite ?_ ?_)
      | (with_reducible refine LeO.bind ?_ (fun _ => ?_))
      | exact ih0 _ _ _
      | exact ih1 _ _ _ _
      | exact LeO.none _
      | refine LeO.ite ?_ ?_
      | refine LeO.bind ?_ (fun _ => ?_)
set_option maxHeartbeats 8000000 in
set_option maxRecDepth 100000 in
theorem law14_few.calls (k : Nat) (A0 : Option Addr) (c0 : Nat) (l0 : List (S24)) (a1 : Int) (r : Bool) (w : World) (hr0 : Kd.C k24 w A0 l0.length l0) (hc0 : l0.length ≤ c0) (h : law14_few.f k l0 a1 = some r) :
    Calls Try.prog 9 #[.slice A0 l0.length c0, .int .i64 a1] w fun e w' => e = .returned (.bool r) ∧ Drawn0 w w' := by
  have HR0 := Aside0.mk hr0
  have HC0 := Aside0.mk hc0
  clear hr0 hc0
  have H : (law14_few.l0 k l0 a1 0) = some r := h
  clear h
  have H' := Aside0.mk H
  clear H
  go_enter Try.func9, Try.ntmps9
  go_wp2
  go_loopg [5] k (fun kq v5 w' => ∃ (x5_1 : Int), v5 = .int .i64 x5_1 ∧ Aside0 (law14_few.l0 kq l0 a1 x5_1 = some r) ∧ Aside0 (kq ≤ k) ∧ Drawn0 w w')
  case atStart => exact ⟨(0), (by first | rfl | (simp; done) | (simp [*]; done)), H', ⟨Nat.le_refl _⟩, by repeat (first | exact Drawn0.refl _ | apply Drawn0.step)⟩
  case round =>
    clear H'
    try clear p2
    obtain ⟨x5_1, rfl, HA, HK1, ⟨m1, rfl⟩⟩ := hrel
    cases gk with
    | zero => exact absurd HA.out (by simp [law14_few.l0])
    | succ k1 =>
      have H := HA.out
      clear HA
      simp only [law14_few.l0] at H
      have HC3 := Aside0.mk H
      clear H
      go_upto_region 2 with (fail)
      go_cut [13] (fun v13 wc => ∃ (kq : Nat) (x13_2 : Bool), v13 = .bool x13_2 ∧ Aside0 (law14_few.j1 kq l0 a1 x5_1 x13_2 = some r) ∧ Aside0 (kq ≤ k1) ∧ Drawn0 w wc)
      case first =>
        have H := HC3.out
        clear HC3
        by_cases c4 : x5_1 < (l0.length : Int)
        · rw [if_pos c4] at H
          have c4b0 : decide (x5_1 < (l0.length : Int)) = true := decide_eq_true c4
          clear c4
          (first | rw [c4b0] | (simp only [i64_w, i32_w]; rw [c4b0]) | skip)
          have H' := Aside0.mk H
          clear H
          go_wp2
          go_meet
          case rel => exact ⟨_, (decide (x5_1 < 500)), (by first | rfl | (simp; done) | (simp [*]; done)), H', ⟨by have := HK1.out; first | omega | exact Nat.le_refl _⟩, by repeat (first | exact Drawn0.refl _ | apply Drawn0.step)⟩
        · rw [if_neg c4] at H
          have c4b0 : decide (x5_1 < (l0.length : Int)) = false := decide_eq_false c4
          clear c4
          (first | rw [c4b0] | (simp only [i64_w, i32_w]; rw [c4b0]) | skip)
          have H' := Aside0.mk H
          clear H
          go_wp2
          go_meet
          case rel => exact ⟨_, (false), (by first | rfl | (simp; done) | (simp [*]; done)), H', ⟨by have := HK1.out; first | omega | exact Nat.le_refl _⟩, by repeat (first | exact Drawn0.refl _ | apply Drawn0.step)⟩
      case rest =>
        clear HC3
        try clear p2
        try clear c4
        try clear c4b0
        try clear p2
        obtain ⟨kq, x13_2, rfl, HA, HJ2, ⟨mc2, rfl⟩⟩ := hcut
        cases kq with
        | zero => exact absurd HA.out (by simp [law14_few.j1])
        | succ kj2 =>
          have H := HA.out
          clear HA
          simp only [law14_few.j1] at H
          by_cases c5 : x13_2 = true
          · subst c5
            have H1 : (if 0 ≤ x5_1 then (if x5_1 < (l0.length : Int) then (if ((rd_T24 l0 x5_1).f0) = a1 then (law14_few.l0 kj2 l0 a1 (wrap64 (x5_1 + 1))) else (if ((rd_T24 l0 x5_1).f0) = 0 then (law14_few.l0 kj2 l0 a1 (wrap64 (x5_1 + 1))) else (some false))) else (none)) else (none)) = some r := by rw [if_pos rfl] at H; exact H
            clear H
            have H := H1
            clear H1
            by_cases c6 : 0 ≤ x5_1
            · rw [if_pos c6] at H
              have c6b0 : decide (0 ≤ x5_1) = true := decide_eq_true c6
              clear c6
              by_cases c7 : x5_1 < (l0.length : Int)
              · rw [if_pos c7] at H
                have c7b0 : decide (x5_1 < (l0.length : Int)) = true := decide_eq_true c7
                clear c7
                by_cases c8 : ((rd_T24 l0 x5_1).f0) = a1
                · rw [if_pos c8] at H
                  have c8b0 : (((rd_T24 l0 x5_1).f0) == a1) = true := beq_iff_eq.mpr c8
                  have c8b1 : (((rd_T24 l0 x5_1).f0) != a1) = false := bne_eq_false_iff_eq.mpr c8
                  clear c8
                  have H' := Aside0.mk H
                  clear H
                  have p141 : 0 ≤ (x5_1 : Int) := of_decide_eq_true (by first | (with_reducible assumption) | assumption)
                  have q141 : x5_1 < (l0.length : Int) := of_decide_eq_true (by first | (with_reducible assumption) | assumption)
                  obtain ⟨ad141, e141, hx141_0, hx141_1, hx141_2⟩ := at_T24 HR0.out x5_1 p141 q141
                  cases e141
                  replace p141 := eq_true p141
                  replace q141 := eq_true q141
                  go_wp2
                  go_roundg kj2
                  case measure => have := HK1.out; have := HJ2.out; omega
                  case rel => exact ⟨(wrap64 (x5_1 + 1)), (by first | rfl | (simp; done) | (simp [*]; done)), H', ⟨by have := HK1.out; have := HJ2.out; omega⟩, by repeat (first | exact Drawn0.refl _ | apply Drawn0.step)⟩
                · rw [if_neg c8] at H
                  have c8b0 : (((rd_T24 l0 x5_1).f0) == a1) = false := beq_eq_false_iff_ne.mpr c8
                  have c8b1 : (((rd_T24 l0 x5_1).f0) != a1) = true := bne_iff_ne.mpr c8
                  by_cases c9 : ((rd_T24 l0 x5_1).f0) = 0
                  · rw [if_pos c9] at H
                    have c9b0 : (((rd_T24 l0 x5_1).f0) == 0) = true := beq_iff_eq.mpr c9
                    have c9b1 : (((rd_T24 l0 x5_1).f0) != 0) = false := bne_eq_false_iff_eq.mpr c9
                    clear c9
                    have H' := Aside0.mk H
                    clear H
                    have p141 : 0 ≤ (x5_1 : Int) := of_decide_eq_true (by first | (with_reducible assumption) | assumption)
                    have q141 : x5_1 < (l0.length : Int) := of_decide_eq_true (by first | (with_reducible assumption) | assumption)
                    obtain ⟨ad141, e141, hx141_0, hx141_1, hx141_2⟩ := at_T24 HR0.out x5_1 p141 q141
                    cases e141
                    replace p141 := eq_true p141
                    replace q141 := eq_true q141
                    have p142 : 0 ≤ (x5_1 : Int) := of_decide_eq_true (by first | (with_reducible assumption) | assumption)
                    have q142 : x5_1 < (l0.length : Int) := of_decide_eq_true (by first | (with_reducible assumption) | assumption)
                    obtain ⟨ad142, e142, hx142_0, hx142_1, hx142_2⟩ := at_T24 HR0.out x5_1 p142 q142
                    obtain rfl : ad141 = ad142 := (by injection e142)
                    replace p142 := eq_true p142
                    replace q142 := eq_true q142
                    go_wp2
                    go_roundg kj2
                    case measure => have := HK1.out; have := HJ2.out; omega
                    case rel => exact ⟨(wrap64 (x5_1 + 1)), (by first | rfl | (simp; done) | (simp [*]; done)), H', ⟨by have := HK1.out; have := HJ2.out; omega⟩, by repeat (first | exact Drawn0.refl _ | apply Drawn0.step)⟩
                  · rw [if_neg c9] at H
                    have c9b0 : (((rd_T24 l0 x5_1).f0) == 0) = false := beq_eq_false_iff_ne.mpr c9
                    have c9b1 : (((rd_T24 l0 x5_1).f0) != 0) = true := bne_iff_ne.mpr c9
                    obtain rfl := Option.some.inj H
                    have p141 : 0 ≤ (x5_1 : Int) := of_decide_eq_true (by first | (with_reducible assumption) | assumption)
                    have q141 : x5_1 < (l0.length : Int) := of_decide_eq_true (by first | (with_reducible assumption) | assumption)
                    obtain ⟨ad141, e141, hx141_0, hx141_1, hx141_2⟩ := at_T24 HR0.out x5_1 p141 q141
                    cases e141
                    replace p141 := eq_true p141
                    replace q141 := eq_true q141
                    have p142 : 0 ≤ (x5_1 : Int) := of_decide_eq_true (by first | (with_reducible assumption) | assumption)
                    have q142 : x5_1 < (l0.length : Int) := of_decide_eq_true (by first | (with_reducible assumption) | assumption)
                    obtain ⟨ad142, e142, hx142_0, hx142_1, hx142_2⟩ := at_T24 HR0.out x5_1 p142 q142
                    obtain rfl : ad141 = ad142 := (by injection e142)
                    replace p142 := eq_true p142
                    replace q142 := eq_true q142
                    go_wp2
                    go_ret
                    exact ⟨by first | rfl | (simp; done) | (simp [*]; done), by repeat (first | exact Drawn0.refl _ | apply Drawn0.step)⟩
              · rw [if_neg c7] at H
                exact absurd H (by simp)
            · rw [if_neg c6] at H
              exact absurd H (by simp)
          · replace c5 := Bool.eq_false_iff.mpr c5
            subst c5
            have H1 : (some (decide ((l0.length : Int) ≤ 500))) = some r := by rw [if_neg (show ¬ (false = true) by decide)] at H; exact H
            clear H
            have H := H1
            clear H1
            obtain rfl := Option.some.inj H
            go_wp2
            go_ret
            exact ⟨by first | rfl | (simp; done) | (simp [*]; done), by repeat (first | exact Drawn0.refl _ | apply Drawn0.step)⟩

/-! ### ref06_Split: function 17 -/
def ref06_Split.l0 : Nat → List (S24) → List Bool → List (S24) → Int → Option (List Bool × (List (S24)))
  | 0, _, _, _, _ => none
  | k + 1, x0, x4, x5, x6 => if x6 < (x0.length : Int) then (if 0 ≤ x6 then (if x4.length < 140737488355328 then ((some (x4 ++ [(((rd_T24 x0 x6).f0) == 0)] : List Bool)).bind fun y144 => (if ((rd_T24 x0 x6).f0) = 0 then (ref06_Split.l0 k x0 y144 x5 (wrap64 (x6 + 1))) else (if x5.length < 4398046511104 then (ref06_Split.l0 k x0 y144 (x5 ++ [(⟨(rd_T24 x0 x6).f0, (rd_T24 x0 x6).f1, (rd_T24 x0 x6).f2⟩ : S24)]) (wrap64 (x6 + 1))) else (none)))) else (none)) else (none)) else (some (x4, x5))
def ref06_Split.f (k : Nat) (l0 : List (S24)) : Option (List Bool × (List (S24))) := ref06_Split.l0 k l0 ([] : List Bool) ([] : List (S24)) 0
theorem ref06_Split.mono_l : ∀ k, (∀ y0 y1 y2 y3, LeO (ref06_Split.l0 k y0 y1 y2 y3) (ref06_Split.l0 (k + 1) y0 y1 y2 y3))
  | 0 => fun _ _ _ _ r h => by simp [ref06_Split.l0] at h
  | k + 1 => by
    have ih0 := ref06_Split.mono_l k
    · intro y0 y1 y2 y3
      unfold ref06_Split.l0
      repeat' first
      | (with_reducible exact ih0 _ _ _ _)
      | (with_reducible exact LeO.refl _)
      | (with_reducible exact LeO.none _)
      | (with_reducible refine LeO.ite ?_ ?_)
      | (with_reducible refine LeO.bind ?_ (fun _ => ?_))
      | exact ih0 _ _ _ _
      | exact LeO.none _
      | refine LeO.ite ?_ ?_
      | refine LeO.bind ?_ (fun _ => ?_)
theorem ref06_Split.mono : ∀ a0 k, LeO (ref06_Split.f k a0) (ref06_Split.f (k + 1) a0) := by
  intro a0 k
  have ih0 := ref06_Split.mono_l k
  unfold ref06_Split.f
  repeat' first
      | (with_reducible exact ih0 _ _ _ _)
      | (with_reducible exact LeO.refl _)
      | (with_reducible exact LeO.none _)
      | (with_reducible refine LeO.ite ?_ ?_)
      | (with_reducible refine LeO.bind ?_ (fun _ => ?_))
      | exact ih0 _ _ _ _
      | exact LeO.none _
      | refine LeO.ite ?_ ?_
      | refine LeO.bind ?_ (fun _ => ?_)
set_option maxHeartbeats 8000000 in
set_option maxRecDepth 100000 in
theorem ref06_Split.calls (k : Nat) (A0 : Option Addr) (c0 : Nat) (l0 : List (S24)) (r1 : List Bool) (r2 : List (S24)) (w : World) (hr0 : Kd.C k24 w A0 l0.length l0) (hc0 : l0.length ≤ c0) (h : ref06_Split.f k l0 = some (r1, r2)) :
    Calls Try.prog 17 #[.slice A0 l0.length c0] w fun e w' => ∃ v0_ v1_ : Value, e = .returned (.tuple #[v0_, v1_]) ∧ Kd.R Kd.bool 4 w' w.heap.size (fun _ => True) v0_ r1 ∧ Kd.R k24 24 w' w.heap.size (fun _ => True) v1_ r2 ∧ Below w.heap.size w w' := by
  have hu24 := Try.underlying24
  have HR0 := Aside0.mk hr0
  have HC0 := Aside0.mk hc0
  clear hr0 hc0
  have HB := Aside0.mk (Below.refl w.heap.size w)
  have H : (ref06_Split.l0 k l0 ([] : List Bool) ([] : List (S24)) 0) = some (r1, r2) := h
  clear h
  have H' := Aside0.mk H
  clear H
  go_enter Try.func17, Try.ntmps17
  go_wp2
  go_loopg [4, 5, 6] k (fun kq v4 v5 v6 w' => ∃ (x4_1 : List Bool) (x5_1 : List (S24)) (x6_1 : Int), v6 = .int .i64 x6_1 ∧ Aside0 (ref06_Split.l0 kq l0 x4_1 x5_1 x6_1 = some (r1, r2)) ∧ Aside0 (kq ≤ k) ∧ Aside0 (Kd.R Kd.bool 4 w' w.heap.size (fun _ => True) v4 x4_1) ∧ Aside0 (Kd.R k24 24 w' w.heap.size (fun _ => True) v5 x5_1) ∧ Aside0 (Below w.heap.size w w'))
  case atStart => exact ⟨(([] : List Bool)), (([] : List (S24))), (0), (by first | rfl | (simp; done) | (simp [*]; done)), H', ⟨Nat.le_refl _⟩, ⟨by first | exact Kd.R_nil _ _ _ _ _ | exact Kd.N_nil _ _ _ _ _ | exact Kd.V_nil _ _ _ _ _ | exact Kd.Q_nil _ _ _ _ _ | exact Kd.S_nil _ _ _ _ _⟩, ⟨by first | exact Kd.R_nil _ _ _ _ _ | exact Kd.N_nil _ _ _ _ _ | exact Kd.V_nil _ _ _ _ _ | exact Kd.Q_nil _ _ _ _ _ | exact Kd.S_nil _ _ _ _ _⟩, ⟨by repeat (first | (with_reducible first | exact HB.out | apply below_alloc | apply pw_below_drewN | apply below_drew1) | exact HB.out)⟩⟩
  case round =>
    clear H'
    try clear c1
    obtain ⟨x4_1, x5_1, x6_1, rfl, HA, HK1, HO_4, HO_5, HB⟩ := hrel
    cases gk with
    | zero => exact absurd HA.out (by simp [ref06_Split.l0])
    | succ k1 =>
      have H := HA.out
      clear HA
      simp only [ref06_Split.l0] at H
      by_cases c2 : x6_1 < (l0.length : Int)
      · rw [if_pos c2] at H
        have c2b0 : decide (x6_1 < (l0.length : Int)) = true := decide_eq_true c2
        clear c2
        by_cases c3 : 0 ≤ x6_1
        · rw [if_pos c3] at H
          have c3b0 : decide (0 ≤ x6_1) = true := decide_eq_true c3
          clear c3
          by_cases c4 : x4_1.length < 140737488355328
          · rw [if_pos c4] at H
            have LMc4 := Aside0.mk c4
            clear c4
            obtain ⟨y144, hy144⟩ : ∃ y_ : List Bool, y_ = (x4_1 ++ [(((rd_T24 l0 x6_1).f0) == 0)]) := ⟨_, rfl⟩
            replace H : (if ((rd_T24 l0 x6_1).f0) = 0 then (ref06_Split.l0 k1 l0 y144 x5_1 (wrap64 (x6_1 + 1))) else (if x5_1.length < 4398046511104 then (ref06_Split.l0 k1 l0 y144 (x5_1 ++ [(⟨(rd_T24 l0 x6_1).f0, (rd_T24 l0 x6_1).f1, (rd_T24 l0 x6_1).f2⟩ : S24)]) (wrap64 (x6_1 + 1))) else (none))) = some (r1, r2) := by first | (rw [hy144]; with_reducible exact H) | (have H2_ := (Option.bind_some _ _).symm.trans H; rw [hy144]; with_reducible exact H2_) | (have H2_ := (Option.bind_some _ _).symm.trans H; with_reducible exact H2_) | with_reducible exact H | (rw [hy144]; exact H) | exact H
            have Ny144 := Aside0.mk hy144
            clear hy144
            by_cases c5 : ((rd_T24 l0 x6_1).f0) = 0
            · rw [if_pos c5] at H
              have c5b0 : (((rd_T24 l0 x6_1).f0) == 0) = true := beq_iff_eq.mpr c5
              have c5b1 : (((rd_T24 l0 x6_1).f0) != 0) = false := bne_eq_false_iff_eq.mpr c5
              clear c5
              have H' := Aside0.mk H
              clear H
              have p143 : 0 ≤ (x6_1 : Int) := of_decide_eq_true (by first | (with_reducible assumption) | assumption)
              have q143 : x6_1 < (l0.length : Int) := of_decide_eq_true (by first | (with_reducible assumption) | assumption)
              obtain ⟨ad143, e143, hx143_0, hx143_1, hx143_2⟩ := at_T24 HR0.out x6_1 p143 q143
              cases e143
              replace hx143_0 := (HB.out.cell (World.block_lt_of_cell? w _ hx143_0)).trans hx143_0
              replace hx143_1 := (HB.out.cell (World.block_lt_of_cell? w _ hx143_1)).trans hx143_1
              replace hx143_2 := (HB.out.cell (World.block_lt_of_cell? w _ hx143_2)).trans hx143_2
              replace p143 := eq_true p143
              replace q143 := eq_true q143
              go_wp2_with (first | ((with_reducible refine gate_builtin (b := .append) (xs := #[.tmp 13, .tmp 20]) rfl ?_); at_builtin; refine Kd.R_append Kd.bool (w0 := w) w.heap.size rfl (.tmp 13) (.tmp 20) 41 4 (.bool false) 1 rfl Try.underlying41 info4 rfl (by decide) (by omega) u4 x4_1 true [.bool true] (fun _ => True) (fun _ => False) rfl rfl ?aP (fun _ hk => hk.elim) ?aF ?aO ?aB ?aS ?aL ?_; (case aP => exact rfl); (case aB => exact (by repeat (first | (with_reducible first | exact HB.out | apply below_alloc | apply pw_below_drewN | apply below_drew1) | exact HB.out))); (case aF => exact (fun _ _ => trivial)); (case aO => exact (by (with_reducible repeat (first | apply Kd.R_alloc | apply Kd.R_drewN | apply Kd.R_drew)); exact HO_4.out)); (case aS => exact (below_size (by repeat (first | (with_reducible first | exact HB.out | apply below_alloc | apply pw_below_drewN | apply below_drew1) | exact HB.out)))); (case aL => have := LMc4.out; omega); intro v145 w6 ho hb hg hat; (first | rw [← Ny144.out] at ho | (have NQ_ := Ny144.out; rw [c5b0] at NQ_; rw [← NQ_] at ho)); have n0_ := Aside0.mk (Kd.R_over' (by (with_reducible repeat (first | apply Kd.R_alloc | apply Kd.R_drewN | apply Kd.R_drew)); exact HO_5.out) (Kd.R_typed (by (with_reducible repeat (first | apply Kd.R_alloc | apply Kd.R_drewN | apply Kd.R_drew)); exact HO_4.out)) (by decide) hg); have n1_ := Aside0.mk (hb); have n2_ := Aside0.mk (ho); clear HO_5; clear HB; clear HO_4; have HO_5 := n0_; have HB := n1_; have HO146 := n2_; clear n0_ n1_ n2_; clear ho hb hg hat; have p147 : 0 ≤ (x6_1 : Int) := of_decide_eq_true (by first | (with_reducible assumption) | assumption); have q147 : x6_1 < (l0.length : Int) := of_decide_eq_true (by first | (with_reducible assumption) | assumption); obtain ⟨ad147, e147, hx147_0, hx147_1, hx147_2⟩ := at_T24 HR0.out x6_1 p147 q147; obtain rfl : ad143 = ad147 := (by injection e147); replace hx147_0 := (HB.out.cell (World.block_lt_of_cell? w _ hx147_0)).trans hx147_0; replace hx147_1 := (HB.out.cell (World.block_lt_of_cell? w _ hx147_1)).trans hx147_1; replace hx147_2 := (HB.out.cell (World.block_lt_of_cell? w _ hx147_2)).trans hx147_2; replace p147 := eq_true p147; replace q147 := eq_true q147))
              go_roundg k1
              case measure => have := HK1.out; omega
              case rel => exact ⟨(y144), (x5_1), (wrap64 (x6_1 + 1)), (by first | rfl | (simp; done) | (simp [*]; done)), H', ⟨by have := HK1.out; omega⟩, ⟨by (with_reducible repeat (first | apply Kd.R_alloc | apply Kd.R_drewN | apply Kd.R_drew)); exact HO146.out⟩, ⟨by (with_reducible repeat (first | apply Kd.R_alloc | apply Kd.R_drewN | apply Kd.R_drew)); exact HO_5.out⟩, ⟨by repeat (first | (with_reducible first | exact HB.out | apply below_alloc | apply pw_below_drewN | apply below_drew1) | exact HB.out)⟩⟩
            · rw [if_neg c5] at H
              have c5b0 : (((rd_T24 l0 x6_1).f0) == 0) = false := beq_eq_false_iff_ne.mpr c5
              have c5b1 : (((rd_T24 l0 x6_1).f0) != 0) = true := bne_iff_ne.mpr c5
              by_cases c7 : x5_1.length < 4398046511104
              · rw [if_pos c7] at H
                have LMc7 := Aside0.mk c7
                clear c7
                obtain ⟨y149, hy149⟩ : ∃ y_ : List (S24), y_ = (x5_1 ++ [(⟨(rd_T24 l0 x6_1).f0, (rd_T24 l0 x6_1).f1, (rd_T24 l0 x6_1).f2⟩ : S24)]) := ⟨_, rfl⟩
                replace H : (ref06_Split.l0 k1 l0 y144 y149 (wrap64 (x6_1 + 1))) = some (r1, r2) := by first | (rw [hy149]; with_reducible exact H) | (have H2_ := (Option.bind_some _ _).symm.trans H; rw [hy149]; with_reducible exact H2_) | (have H2_ := (Option.bind_some _ _).symm.trans H; with_reducible exact H2_) | with_reducible exact H | (rw [hy149]; exact H) | exact H
                have Ny149 := Aside0.mk hy149
                clear hy149
                have H' := Aside0.mk H
                clear H
                have p143 : 0 ≤ (x6_1 : Int) := of_decide_eq_true (by first | (with_reducible assumption) | assumption)
                have q143 : x6_1 < (l0.length : Int) := of_decide_eq_true (by first | (with_reducible assumption) | assumption)
                obtain ⟨ad143, e143, hx143_0, hx143_1, hx143_2⟩ := at_T24 HR0.out x6_1 p143 q143
                cases e143
                replace hx143_0 := (HB.out.cell (World.block_lt_of_cell? w _ hx143_0)).trans hx143_0
                replace hx143_1 := (HB.out.cell (World.block_lt_of_cell? w _ hx143_1)).trans hx143_1
                replace hx143_2 := (HB.out.cell (World.block_lt_of_cell? w _ hx143_2)).trans hx143_2
                replace p143 := eq_true p143
                replace q143 := eq_true q143
                go_wp2_with (first | ((with_reducible refine gate_builtin (b := .append) (xs := #[.tmp 13, .tmp 20]) rfl ?_); at_builtin; refine Kd.R_append Kd.bool (w0 := w) w.heap.size rfl (.tmp 13) (.tmp 20) 41 4 (.bool false) 1 rfl Try.underlying41 info4 rfl (by decide) (by omega) u4 x4_1 false [.bool false] (fun _ => True) (fun _ => False) rfl rfl ?aP (fun _ hk => hk.elim) ?aF ?aO ?aB ?aS ?aL ?_; (case aP => exact rfl); (case aB => exact (by repeat (first | (with_reducible first | exact HB.out | apply below_alloc | apply pw_below_drewN | apply below_drew1) | exact HB.out))); (case aF => exact (fun _ _ => trivial)); (case aO => exact (by (with_reducible repeat (first | apply Kd.R_alloc | apply Kd.R_drewN | apply Kd.R_drew)); exact HO_4.out)); (case aS => exact (below_size (by repeat (first | (with_reducible first | exact HB.out | apply below_alloc | apply pw_below_drewN | apply below_drew1) | exact HB.out)))); (case aL => have := LMc4.out; omega); intro v145 w8 ho hb hg hat; (first | rw [← Ny144.out] at ho | (have NQ_ := Ny144.out; rw [c5b0] at NQ_; rw [← NQ_] at ho)); have n0_ := Aside0.mk (Kd.R_over' (by (with_reducible repeat (first | apply Kd.R_alloc | apply Kd.R_drewN | apply Kd.R_drew)); exact HO_5.out) (Kd.R_typed (by (with_reducible repeat (first | apply Kd.R_alloc | apply Kd.R_drewN | apply Kd.R_drew)); exact HO_4.out)) (by decide) hg); have n1_ := Aside0.mk (hb); have n2_ := Aside0.mk (ho); clear HO_5; clear HB; clear HO_4; have HO_5 := n0_; have HB := n1_; have HO146 := n2_; clear n0_ n1_ n2_; clear ho hb hg hat; have p147 : 0 ≤ (x6_1 : Int) := of_decide_eq_true (by first | (with_reducible assumption) | assumption); have q147 : x6_1 < (l0.length : Int) := of_decide_eq_true (by first | (with_reducible assumption) | assumption); obtain ⟨ad147, e147, hx147_0, hx147_1, hx147_2⟩ := at_T24 HR0.out x6_1 p147 q147; obtain rfl : ad143 = ad147 := (by injection e147); replace hx147_0 := (HB.out.cell (World.block_lt_of_cell? w _ hx147_0)).trans hx147_0; replace hx147_1 := (HB.out.cell (World.block_lt_of_cell? w _ hx147_1)).trans hx147_1; replace hx147_2 := (HB.out.cell (World.block_lt_of_cell? w _ hx147_2)).trans hx147_2; replace p147 := eq_true p147; replace q147 := eq_true q147; have p148 : 0 ≤ (x6_1 : Int) := of_decide_eq_true (by first | (with_reducible assumption) | assumption); have q148 : x6_1 < (l0.length : Int) := of_decide_eq_true (by first | (with_reducible assumption) | assumption); obtain ⟨ad148, e148, hx148_0, hx148_1, hx148_2⟩ := at_T24 HR0.out x6_1 p148 q148; obtain rfl : ad143 = ad148 := (by injection e148); replace hx148_0 := (HB.out.cell (World.block_lt_of_cell? w _ hx148_0)).trans hx148_0; replace hx148_1 := (HB.out.cell (World.block_lt_of_cell? w _ hx148_1)).trans hx148_1; replace hx148_2 := (HB.out.cell (World.block_lt_of_cell? w _ hx148_2)).trans hx148_2; replace p148 := eq_true p148; replace q148 := eq_true q148) | ((with_reducible refine gate_builtin (b := .append) (xs := #[.tmp 28, .tmp 33]) rfl ?_); at_builtin; refine Kd.R_append k24 (w0 := w) w.heap.size rfl (.tmp 28) (.tmp 33) 22 24 (.agg #[(.int .i64 0), (.int .i64 0), (.string ⟨#[]⟩)]) 32 rfl Try.underlying22 info24 rfl (by decide) (by omega) u5 x5_1 (⟨(rd_T24 l0 x6_1).f0, (rd_T24 l0 x6_1).f1, (rd_T24 l0 x6_1).f2⟩ : S24) [.int .i64 ((rd_T24 l0 x6_1).f0), .int .i64 ((rd_T24 l0 x6_1).f1), .string ((rd_T24 l0 x6_1).f2)] (fun _ => True) (fun _ => False) rfl rfl ?aP (fun _ hk => hk.elim) ?aF ?aO ?aB ?aS ?aL ?_; (case aP => exact k24_mkM _ _ _ (⟨(rd_T24 l0 x6_1).f0, (rd_T24 l0 x6_1).f1, (rd_T24 l0 x6_1).f2⟩ : S24)); (case aB => exact (by repeat (first | (with_reducible first | exact HB.out | apply below_alloc | apply pw_below_drewN | apply below_drew1) | exact HB.out))); (case aF => exact (fun _ _ => trivial)); (case aO => exact (by (with_reducible repeat (first | apply Kd.R_alloc | apply Kd.R_drewN | apply Kd.R_drew)); exact HO_5.out)); (case aS => exact (below_size (by repeat (first | (with_reducible first | exact HB.out | apply below_alloc | apply pw_below_drewN | apply below_drew1) | exact HB.out)))); (case aL => have := LMc7.out; omega); intro v150 w9 ho hb hg hat; rw [← Ny149.out] at ho; have n0_ := Aside0.mk (Kd.R_over' (by (with_reducible repeat (first | apply Kd.R_alloc | apply Kd.R_drewN | apply Kd.R_drew)); exact HO146.out) (Kd.R_typed (by (with_reducible repeat (first | apply Kd.R_alloc | apply Kd.R_drewN | apply Kd.R_drew)); exact HO_5.out)) (by decide) hg); have n1_ := Aside0.mk (hb); have n2_ := Aside0.mk (ho); clear HO146; clear HB; clear HO_5; have HO146 := n0_; have HB := n1_; have HO151 := n2_; clear n0_ n1_ n2_; clear ho hb hg hat))
                go_roundg k1
                case measure => have := HK1.out; omega
                case rel => exact ⟨(y144), (y149), (wrap64 (x6_1 + 1)), (by first | rfl | (simp; done) | (simp [*]; done)), H', ⟨by have := HK1.out; omega⟩, ⟨by (with_reducible repeat (first | apply Kd.R_alloc | apply Kd.R_drewN | apply Kd.R_drew)); exact HO146.out⟩, ⟨by (with_reducible repeat (first | apply Kd.R_alloc | apply Kd.R_drewN | apply Kd.R_drew)); exact HO151.out⟩, ⟨by repeat (first | (with_reducible first | exact HB.out | apply below_alloc | apply pw_below_drewN | apply below_drew1) | exact HB.out)⟩⟩
              · rw [if_neg c7] at H
                exact absurd H (by simp)
          · rw [if_neg c4] at H
            exact absurd H (by simp)
        · rw [if_neg c3] at H
          exact absurd H (by simp)
      · rw [if_neg c2] at H
        have c2b0 : decide (x6_1 < (l0.length : Int)) = false := decide_eq_false c2
        clear c2
        simp only [Option.some.injEq, Prod.mk.injEq] at H
        obtain ⟨rfl, rfl⟩ := H
        go_wp2
        go_ret2
        exact ⟨_, _, by first | rfl | (simp [errW_none, errW_some] <;> rfl) | (simp [*, errW_none, errW_some] <;> rfl), by (with_reducible repeat (first | apply Kd.R_alloc | apply Kd.R_drewN | apply Kd.R_drew)); exact HO_4.out, by (with_reducible repeat (first | apply Kd.R_alloc | apply Kd.R_drewN | apply Kd.R_drew)); exact HO_5.out, by repeat (first | (with_reducible first | exact HB.out | apply below_alloc | apply pw_below_drewN | apply below_drew1) | exact HB.out)⟩

/-! ### ref05_order: function 23 -/
def ref05_order.f (a0 : Bool) (a1 : Bool) : Option (Int) := if a0 = true then (some (-1)) else (if a1 = true then (some 1) else (some 0))
set_option maxHeartbeats 8000000 in
set_option maxRecDepth 100000 in
theorem ref05_order.calls (a0 : Bool) (a1 : Bool) (r : Int) (w : World) (h : ref05_order.f a0 a1 = some r) :
    Calls Try.prog 23 #[.bool a0, .bool a1] w fun e w' => e = .returned (.int .i64 r) ∧ Drawn0 w w' := by
  have H : (if a0 = true then (some (-1)) else (if a1 = true then (some 1) else (some 0))) = some r := h
  clear h
  by_cases c3 : a0 = true
  · subst c3
    have H1 : (some (-1)) = some r := by rw [if_pos rfl] at H; exact H
    clear H
    have H := H1
    clear H1
    obtain rfl := Option.some.inj H
    go_enter Try.func23, Try.ntmps23
    go_wp2
    go_ret
    exact ⟨by first | rfl | (simp; done) | (simp [*]; done), by repeat (first | exact Drawn0.refl _ | apply Drawn0.step)⟩
  · replace c3 := Bool.eq_false_iff.mpr c3
    subst c3
    have H1 : (if a1 = true then (some 1) else (some 0)) = some r := by rw [if_neg (show ¬ (false = true) by decide)] at H; exact H
    clear H
    have H := H1
    clear H1
    by_cases c4 : a1 = true
    · subst c4
      have H1 : (some 1) = some r := by rw [if_pos rfl] at H; exact H
      clear H
      have H := H1
      clear H1
      obtain rfl := Option.some.inj H
      go_enter Try.func23, Try.ntmps23
      go_wp2
      go_ret
      exact ⟨by first | rfl | (simp; done) | (simp [*]; done), by repeat (first | exact Drawn0.refl _ | apply Drawn0.step)⟩
    · replace c4 := Bool.eq_false_iff.mpr c4
      subst c4
      have H1 : (some 0) = some r := by rw [if_neg (show ¬ (false = true) by decide)] at H; exact H
      clear H
      have H := H1
      clear H1
      obtain rfl := Option.some.inj H
      go_enter Try.func23, Try.ntmps23
      go_wp2
      go_ret
      exact ⟨by first | rfl | (simp; done) | (simp [*]; done), by repeat (first | exact Drawn0.refl _ | apply Drawn0.step)⟩

/-! ### ref04_Parts: function 34 -/
def ref04_Parts.f (a0 : Int) : Option (Bool × Int × Int) := some (decide (a0 ≥ 9223372036854775808), Int.tmod (IntKind.u64.wrap (Int.tdiv a0 4503599627370496)) 2048, Int.tmod a0 4503599627370496)
set_option maxHeartbeats 8000000 in
set_option maxRecDepth 100000 in
theorem ref04_Parts.calls (a0 : Int) (r1 : Bool) (r2 : Int) (r3 : Int) (w : World) (h : ref04_Parts.f a0 = some (r1, r2, r3)) :
    Calls Try.prog 34 #[.int .u64 a0] w fun e w' => e = .returned (.tuple #[.bool r1, .int .u64 r2, .int .u64 r3]) ∧ Drawn0 w w' := by
  have H : (some (decide (a0 ≥ 9223372036854775808), Int.tmod (IntKind.u64.wrap (Int.tdiv a0 4503599627370496)) 2048, Int.tmod a0 4503599627370496)) = some (r1, r2, r3) := h
  clear h
  simp only [Option.some.injEq, Prod.mk.injEq] at H
  obtain ⟨rfl, rfl, rfl⟩ := H
  go_enter Try.func34, Try.ntmps34
  go_wp2
  go_ret3
  exact ⟨by first | rfl | (simp; done) | (simp [*]; done), by repeat (first | exact Drawn0.refl _ | apply Drawn0.step)⟩

/-! ### ref04_IsNan: function 33 -/
def ref04_IsNan.f (a0 : Int) : Option (Bool) := (ref04_Parts.f a0).bind fun bt152 => (if bt152.2.1 = 2047 then (some (bt152.2.2 != 0)) else (some false))
set_option maxHeartbeats 8000000 in
set_option maxRecDepth 100000 in
theorem ref04_IsNan.calls (a0 : Int) (r : Bool) (w : World) (h : ref04_IsNan.f a0 = some r) :
    Calls Try.prog 33 #[.int .u64 a0] w fun e w' => e = .returned (.bool r) ∧ Drawn0 w w' := by
  have H : ((ref04_Parts.f a0).bind fun bt152 => (if bt152.2.1 = 2047 then (some (bt152.2.2 != 0)) else (some false))) = some r := h
  clear h
  replace H := Option.bind_eq_some_iff.mp H
  obtain ⟨⟨t152, t153, t154⟩, A20, H⟩ := H
  replace H : (if t153 = 2047 then (some (t154 != 0)) else (some false)) = some r := H
  have A2 := Aside0.mk A20
  clear A20
  by_cases c3 : t153 = 2047
  · rw [if_pos c3] at H
    have c3b0 : (t153 == 2047) = true := beq_iff_eq.mpr c3
    have c3b1 : (t153 != 2047) = false := bne_eq_false_iff_eq.mpr c3
    clear c3
    obtain rfl := Option.some.inj H
    go_enter Try.func33, Try.ntmps33
    go_wp2_with (first | ((with_reducible refine gate_callee (f := 34) rfl ?_); refine goesL_ (some 8) rfl rfl Try.func34 (by kernel_rfl) rfl #[.int .u64 a0] rfl (by (try simp only [List.map_toArray, List.map_cons, List.map_nil]); first | done | rfl | (simp only [List.length_drop, List.length_take]; rfl)) ?_; (with_reducible refine (ref04_Parts.calls a0 t152 t153 t154 _ A2.out).mono ?_); rintro e w' ⟨rfl, ⟨nd, rfl⟩⟩; refine ⟨_, rfl, ?_⟩))
    go_ret
    exact ⟨by first | rfl | (simp; done) | (simp [*]; done), by repeat (first | exact Drawn0.refl _ | apply Drawn0.step)⟩
  · rw [if_neg c3] at H
    have c3b0 : (t153 == 2047) = false := beq_eq_false_iff_ne.mpr c3
    have c3b1 : (t153 != 2047) = true := bne_iff_ne.mpr c3
    obtain rfl := Option.some.inj H
    go_enter Try.func33, Try.ntmps33
    go_wp2_with (first | ((with_reducible refine gate_callee (f := 34) rfl ?_); refine goesL_ (some 8) rfl rfl Try.func34 (by kernel_rfl) rfl #[.int .u64 a0] rfl (by (try simp only [List.map_toArray, List.map_cons, List.map_nil]); first | done | rfl | (simp only [List.length_drop, List.length_take]; rfl)) ?_; (with_reducible refine (ref04_Parts.calls a0 t152 t153 t154 _ A2.out).mono ?_); rintro e w' ⟨rfl, ⟨nd, rfl⟩⟩; refine ⟨_, rfl, ?_⟩))
    go_ret
    exact ⟨by first | rfl | (simp; done) | (simp [*]; done), by repeat (first | exact Drawn0.refl _ | apply Drawn0.step)⟩

/-! ### ref04_Clean: function 27 -/
def ref04_Clean.f (a0 : Int) : Option (Int) := (ref04_IsNan.f a0).bind fun t155 => (if t155 = true then (some 9221120237041090560) else (some a0))
set_option maxHeartbeats 8000000 in
set_option maxRecDepth 100000 in
theorem ref04_Clean.calls (a0 : Int) (r : Int) (w : World) (h : ref04_Clean.f a0 = some r) :
    Calls Try.prog 27 #[.int .u64 a0] w fun e w' => e = .returned (.int .u64 r) ∧ Drawn0 w w' := by
  have H : ((ref04_IsNan.f a0).bind fun t155 => (if t155 = true then (some 9221120237041090560) else (some a0))) = some r := h
  clear h
  replace H := Option.bind_eq_some_iff.mp H
  obtain ⟨t155, A20, H⟩ := H
  replace H : (if t155 = true then (some 9221120237041090560) else (some a0)) = some r := H
  have A2 := Aside0.mk A20
  clear A20
  by_cases c3 : t155 = true
  · subst c3
    have H1 : (some 9221120237041090560) = some r := by rw [if_pos rfl] at H; exact H
    clear H
    have H := H1
    clear H1
    obtain rfl := Option.some.inj H
    go_enter Try.func27, Try.ntmps27
    go_wp2_with (first | ((with_reducible refine gate_callee (f := 33) rfl ?_); refine goesL_ (some 4) rfl rfl Try.func33 (by kernel_rfl) rfl #[.int .u64 a0] rfl (by (try simp only [List.map_toArray, List.map_cons, List.map_nil]); first | done | rfl | (simp only [List.length_drop, List.length_take]; rfl)) ?_; (with_reducible refine (ref04_IsNan.calls a0 true _ A2.out).mono ?_); rintro e w' ⟨rfl, ⟨nd, rfl⟩⟩; refine ⟨_, rfl, ?_⟩))
    go_ret
    exact ⟨by first | rfl | (simp; done) | (simp [*]; done), by repeat (first | exact Drawn0.refl _ | apply Drawn0.step)⟩
  · replace c3 := Bool.eq_false_iff.mpr c3
    subst c3
    have H1 : (some a0) = some r := by rw [if_neg (show ¬ (false = true) by decide)] at H; exact H
    clear H
    have H := H1
    clear H1
    obtain rfl := Option.some.inj H
    go_enter Try.func27, Try.ntmps27
    go_wp2_with (first | ((with_reducible refine gate_callee (f := 33) rfl ?_); refine goesL_ (some 4) rfl rfl Try.func33 (by kernel_rfl) rfl #[.int .u64 a0] rfl (by (try simp only [List.map_toArray, List.map_cons, List.map_nil]); first | done | rfl | (simp only [List.length_drop, List.length_take]; rfl)) ?_; (with_reducible refine (ref04_IsNan.calls a0 false _ A2.out).mono ?_); rintro e w' ⟨rfl, ⟨nd, rfl⟩⟩; refine ⟨_, rfl, ?_⟩))
    go_ret
    exact ⟨by first | rfl | (simp; done) | (simp [*]; done), by repeat (first | exact Drawn0.refl _ | apply Drawn0.step)⟩

/-! ### ref04_Key: function 28 -/
def ref04_Key.f (a0 : Int) : Option (Int) := (ref04_Clean.f a0).bind fun t156 => ((ref04_Parts.f t156).bind fun bt157 => (if bt157.1 = true then (some (IntKind.u64.wrap (18446744073709551615 - t156))) else (some (IntKind.u64.wrap (t156 + 9223372036854775808)))))
set_option maxHeartbeats 8000000 in
set_option maxRecDepth 100000 in
theorem ref04_Key.calls (a0 : Int) (r : Int) (w : World) (h : ref04_Key.f a0 = some r) :
    Calls Try.prog 28 #[.int .u64 a0] w fun e w' => e = .returned (.int .u64 r) ∧ Drawn0 w w' := by
  have H : ((ref04_Clean.f a0).bind fun t156 => ((ref04_Parts.f t156).bind fun bt157 => (if bt157.1 = true then (some (IntKind.u64.wrap (18446744073709551615 - t156))) else (some (IntKind.u64.wrap (t156 + 9223372036854775808)))))) = some r := h
  clear h
  replace H := Option.bind_eq_some_iff.mp H
  obtain ⟨t156, A20, H⟩ := H
  replace H : ((ref04_Parts.f t156).bind fun bt157 => (if bt157.1 = true then (some (IntKind.u64.wrap (18446744073709551615 - t156))) else (some (IntKind.u64.wrap (t156 + 9223372036854775808))))) = some r := H
  have A2 := Aside0.mk A20
  clear A20
  replace H := Option.bind_eq_some_iff.mp H
  obtain ⟨⟨t157, t158, t159⟩, A30, H⟩ := H
  replace H : (if t157 = true then (some (IntKind.u64.wrap (18446744073709551615 - t156))) else (some (IntKind.u64.wrap (t156 + 9223372036854775808)))) = some r := H
  have A3 := Aside0.mk A30
  clear A30
  by_cases c4 : t157 = true
  · subst c4
    have H1 : (some (IntKind.u64.wrap (18446744073709551615 - t156))) = some r := by rw [if_pos rfl] at H; exact H
    clear H
    have H := H1
    clear H1
    obtain rfl := Option.some.inj H
    go_enter Try.func28, Try.ntmps28
    go_wp2_with (first | ((with_reducible refine gate_callee (f := 27) rfl ?_); refine goesL_ (some 8) rfl rfl Try.func27 (by kernel_rfl) rfl #[.int .u64 a0] rfl (by (try simp only [List.map_toArray, List.map_cons, List.map_nil]); first | done | rfl | (simp only [List.length_drop, List.length_take]; rfl)) ?_; (with_reducible refine (ref04_Clean.calls a0 t156 _ A2.out).mono ?_); rintro e w' ⟨rfl, ⟨nd, rfl⟩⟩; refine ⟨_, rfl, ?_⟩) | ((with_reducible refine gate_callee (f := 34) rfl ?_); refine goesL_ (some 11) rfl rfl Try.func34 (by kernel_rfl) rfl #[.int .u64 t156] rfl (by (try simp only [List.map_toArray, List.map_cons, List.map_nil]); first | done | rfl | (simp only [List.length_drop, List.length_take]; rfl)) ?_; (with_reducible refine (ref04_Parts.calls t156 true t158 t159 _ A3.out).mono ?_); rintro e w' ⟨rfl, ⟨nd, rfl⟩⟩; refine ⟨_, rfl, ?_⟩))
    go_ret
    exact ⟨by first | rfl | (simp; done) | (simp [*]; done), by repeat (first | exact Drawn0.refl _ | apply Drawn0.step)⟩
  · replace c4 := Bool.eq_false_iff.mpr c4
    subst c4
    have H1 : (some (IntKind.u64.wrap (t156 + 9223372036854775808))) = some r := by rw [if_neg (show ¬ (false = true) by decide)] at H; exact H
    clear H
    have H := H1
    clear H1
    obtain rfl := Option.some.inj H
    go_enter Try.func28, Try.ntmps28
    go_wp2_with (first | ((with_reducible refine gate_callee (f := 27) rfl ?_); refine goesL_ (some 8) rfl rfl Try.func27 (by kernel_rfl) rfl #[.int .u64 a0] rfl (by (try simp only [List.map_toArray, List.map_cons, List.map_nil]); first | done | rfl | (simp only [List.length_drop, List.length_take]; rfl)) ?_; (with_reducible refine (ref04_Clean.calls a0 t156 _ A2.out).mono ?_); rintro e w' ⟨rfl, ⟨nd, rfl⟩⟩; refine ⟨_, rfl, ?_⟩) | ((with_reducible refine gate_callee (f := 34) rfl ?_); refine goesL_ (some 11) rfl rfl Try.func34 (by kernel_rfl) rfl #[.int .u64 t156] rfl (by (try simp only [List.map_toArray, List.map_cons, List.map_nil]); first | done | rfl | (simp only [List.length_drop, List.length_take]; rfl)) ?_; (with_reducible refine (ref04_Parts.calls t156 false t158 t159 _ A3.out).mono ?_); rintro e w' ⟨rfl, ⟨nd, rfl⟩⟩; refine ⟨_, rfl, ?_⟩))
    go_ret
    exact ⟨by first | rfl | (simp; done) | (simp [*]; done), by repeat (first | exact Drawn0.refl _ | apply Drawn0.step)⟩

/-! ### ref04_Compare: function 24 -/
def ref04_Compare.f (a0 : Int) (a1 : Int) : Option (Int) := (ref04_Key.f a0).bind fun t160 => ((ref04_Key.f a1).bind fun t161 => (if t160 < t161 then (some (-1)) else ((ref04_Key.f a0).bind fun t162 => ((ref04_Key.f a1).bind fun t163 => (if t162 > t163 then (some 1) else (some 0))))))
set_option maxHeartbeats 8000000 in
set_option maxRecDepth 100000 in
theorem ref04_Compare.calls (a0 : Int) (a1 : Int) (r : Int) (w : World) (h : ref04_Compare.f a0 a1 = some r) :
    Calls Try.prog 24 #[.int .u64 a0, .int .u64 a1] w fun e w' => e = .returned (.int .i64 r) ∧ Drawn0 w w' := by
  have H : ((ref04_Key.f a0).bind fun t160 => ((ref04_Key.f a1).bind fun t161 => (if t160 < t161 then (some (-1)) else ((ref04_Key.f a0).bind fun t162 => ((ref04_Key.f a1).bind fun t163 => (if t162 > t163 then (some 1) else (some 0))))))) = some r := h
  clear h
  replace H := Option.bind_eq_some_iff.mp H
  obtain ⟨t160, A30, H⟩ := H
  replace H : ((ref04_Key.f a1).bind fun t161 => (if t160 < t161 then (some (-1)) else ((ref04_Key.f a0).bind fun t162 => ((ref04_Key.f a1).bind fun t163 => (if t162 > t163 then (some 1) else (some 0)))))) = some r := H
  have A3 := Aside0.mk A30
  clear A30
  replace H := Option.bind_eq_some_iff.mp H
  obtain ⟨t161, A40, H⟩ := H
  replace H : (if t160 < t161 then (some (-1)) else ((ref04_Key.f a0).bind fun t162 => ((ref04_Key.f a1).bind fun t163 => (if t162 > t163 then (some 1) else (some 0))))) = some r := H
  have A4 := Aside0.mk A40
  clear A40
  by_cases c5 : t160 < t161
  · rw [if_pos c5] at H
    have c5b0 : decide (t160 < t161) = true := decide_eq_true c5
    clear c5
    obtain rfl := Option.some.inj H
    go_enter Try.func24, Try.ntmps24
    go_wp2_with (first | ((with_reducible refine gate_callee (f := 28) rfl ?_); refine goesL_ (some 6) rfl rfl Try.func28 (by kernel_rfl) rfl #[.int .u64 a0] rfl (by (try simp only [List.map_toArray, List.map_cons, List.map_nil]); first | done | rfl | (simp only [List.length_drop, List.length_take]; rfl)) ?_; (with_reducible refine (ref04_Key.calls a0 t160 _ A3.out).mono ?_); rintro e w' ⟨rfl, ⟨nd, rfl⟩⟩; refine ⟨_, rfl, ?_⟩) | ((with_reducible refine gate_callee (f := 28) rfl ?_); refine goesL_ (some 8) rfl rfl Try.func28 (by kernel_rfl) rfl #[.int .u64 a1] rfl (by (try simp only [List.map_toArray, List.map_cons, List.map_nil]); first | done | rfl | (simp only [List.length_drop, List.length_take]; rfl)) ?_; (with_reducible refine (ref04_Key.calls a1 t161 _ A4.out).mono ?_); rintro e w' ⟨rfl, ⟨nd, rfl⟩⟩; refine ⟨_, rfl, ?_⟩))
    go_ret
    exact ⟨by first | rfl | (simp; done) | (simp [*]; done), by repeat (first | exact Drawn0.refl _ | apply Drawn0.step)⟩
  · rw [if_neg c5] at H
    have c5b0 : decide (t160 < t161) = false := decide_eq_false c5
    clear c5
    replace H := Option.bind_eq_some_iff.mp H
    obtain ⟨t162, A60, H⟩ := H
    replace H : ((ref04_Key.f a1).bind fun t163 => (if t162 > t163 then (some 1) else (some 0))) = some r := H
    have A6 := Aside0.mk A60
    clear A60
    replace H := Option.bind_eq_some_iff.mp H
    obtain ⟨t163, A70, H⟩ := H
    replace H : (if t162 > t163 then (some 1) else (some 0)) = some r := H
    have A7 := Aside0.mk A70
    clear A70
    by_cases c8 : t162 > t163
    · rw [if_pos c8] at H
      have c8b0 : decide (t163 < t162) = true := decide_eq_true c8
      clear c8
      obtain rfl := Option.some.inj H
      go_enter Try.func24, Try.ntmps24
      go_wp2_with (first | ((with_reducible refine gate_callee (f := 28) rfl ?_); refine goesL_ (some 6) rfl rfl Try.func28 (by kernel_rfl) rfl #[.int .u64 a0] rfl (by (try simp only [List.map_toArray, List.map_cons, List.map_nil]); first | done | rfl | (simp only [List.length_drop, List.length_take]; rfl)) ?_; (with_reducible refine (ref04_Key.calls a0 t160 _ A3.out).mono ?_); rintro e w' ⟨rfl, ⟨nd, rfl⟩⟩; refine ⟨_, rfl, ?_⟩) | ((with_reducible refine gate_callee (f := 28) rfl ?_); refine goesL_ (some 8) rfl rfl Try.func28 (by kernel_rfl) rfl #[.int .u64 a1] rfl (by (try simp only [List.map_toArray, List.map_cons, List.map_nil]); first | done | rfl | (simp only [List.length_drop, List.length_take]; rfl)) ?_; (with_reducible refine (ref04_Key.calls a1 t161 _ A4.out).mono ?_); rintro e w' ⟨rfl, ⟨nd, rfl⟩⟩; refine ⟨_, rfl, ?_⟩) | ((with_reducible refine gate_callee (f := 28) rfl ?_); refine goesL_ (some 11) rfl rfl Try.func28 (by kernel_rfl) rfl #[.int .u64 a0] rfl (by (try simp only [List.map_toArray, List.map_cons, List.map_nil]); first | done | rfl | (simp only [List.length_drop, List.length_take]; rfl)) ?_; (with_reducible refine (ref04_Key.calls a0 t162 _ A6.out).mono ?_); rintro e w' ⟨rfl, ⟨nd, rfl⟩⟩; refine ⟨_, rfl, ?_⟩) | ((with_reducible refine gate_callee (f := 28) rfl ?_); refine goesL_ (some 13) rfl rfl Try.func28 (by kernel_rfl) rfl #[.int .u64 a1] rfl (by (try simp only [List.map_toArray, List.map_cons, List.map_nil]); first | done | rfl | (simp only [List.length_drop, List.length_take]; rfl)) ?_; (with_reducible refine (ref04_Key.calls a1 t163 _ A7.out).mono ?_); rintro e w' ⟨rfl, ⟨nd, rfl⟩⟩; refine ⟨_, rfl, ?_⟩))
      go_ret
      exact ⟨by first | rfl | (simp; done) | (simp [*]; done), by repeat (first | exact Drawn0.refl _ | apply Drawn0.step)⟩
    · rw [if_neg c8] at H
      have c8b0 : decide (t163 < t162) = false := decide_eq_false c8
      clear c8
      obtain rfl := Option.some.inj H
      go_enter Try.func24, Try.ntmps24
      go_wp2_with (first | ((with_reducible refine gate_callee (f := 28) rfl ?_); refine goesL_ (some 6) rfl rfl Try.func28 (by kernel_rfl) rfl #[.int .u64 a0] rfl (by (try simp only [List.map_toArray, List.map_cons, List.map_nil]); first | done | rfl | (simp only [List.length_drop, List.length_take]; rfl)) ?_; (with_reducible refine (ref04_Key.calls a0 t160 _ A3.out).mono ?_); rintro e w' ⟨rfl, ⟨nd, rfl⟩⟩; refine ⟨_, rfl, ?_⟩) | ((with_reducible refine gate_callee (f := 28) rfl ?_); refine goesL_ (some 8) rfl rfl Try.func28 (by kernel_rfl) rfl #[.int .u64 a1] rfl (by (try simp only [List.map_toArray, List.map_cons, List.map_nil]); first | done | rfl | (simp only [List.length_drop, List.length_take]; rfl)) ?_; (with_reducible refine (ref04_Key.calls a1 t161 _ A4.out).mono ?_); rintro e w' ⟨rfl, ⟨nd, rfl⟩⟩; refine ⟨_, rfl, ?_⟩) | ((with_reducible refine gate_callee (f := 28) rfl ?_); refine goesL_ (some 11) rfl rfl Try.func28 (by kernel_rfl) rfl #[.int .u64 a0] rfl (by (try simp only [List.map_toArray, List.map_cons, List.map_nil]); first | done | rfl | (simp only [List.length_drop, List.length_take]; rfl)) ?_; (with_reducible refine (ref04_Key.calls a0 t162 _ A6.out).mono ?_); rintro e w' ⟨rfl, ⟨nd, rfl⟩⟩; refine ⟨_, rfl, ?_⟩) | ((with_reducible refine gate_callee (f := 28) rfl ?_); refine goesL_ (some 13) rfl rfl Try.func28 (by kernel_rfl) rfl #[.int .u64 a1] rfl (by (try simp only [List.map_toArray, List.map_cons, List.map_nil]); first | done | rfl | (simp only [List.length_drop, List.length_take]; rfl)) ?_; (with_reducible refine (ref04_Key.calls a1 t163 _ A7.out).mono ?_); rintro e w' ⟨rfl, ⟨nd, rfl⟩⟩; refine ⟨_, rfl, ?_⟩))
      go_ret
      exact ⟨by first | rfl | (simp; done) | (simp [*]; done), by repeat (first | exact Drawn0.refl _ | apply Drawn0.step)⟩

/-! ### ref05_texts: function 25 -/
mutual
def ref05_texts.l0 : Nat → ByteArray → ByteArray → Int → Option (Int)
  | 0, _, _, _ => none
  | k + 1, x0, x1, x5 => if x5 < (x0.size : Int) then (ref05_texts.j1 k x0 x1 x5 (decide (x5 < (x1.size : Int)))) else (ref05_texts.j1 k x0 x1 x5 false)
def ref05_texts.j1 : Nat → ByteArray → ByteArray → Int → Bool → Option (Int)
  | 0, _, _, _, _ => none
  | k + 1, x0, x1, x5, x15 => if x15 = true then (if 0 ≤ x5 then (if x5 < (x0.size : Int) then (if x5 < (x1.size : Int) then (if (bt x0 x5) < (bt x1 x5) then (some (-1)) else (if (bt x0 x5) > (bt x1 x5) then (some 1) else (ref05_texts.l0 k x0 x1 (wrap64 (x5 + 1))))) else (none)) else (none)) else (none)) else ((ref05_order.f (decide ((x0.size : Int) < (x1.size : Int))) (decide ((x0.size : Int) > (x1.size : Int)))).bind fun t164 => (some t164))
end
def ref05_texts.f (k : Nat) (a0 : ByteArray) (a1 : ByteArray) : Option (Int) := ref05_texts.l0 k a0 a1 0
theorem ref05_texts.mono_l : ∀ k, (∀ y0 y1 y2, LeO (ref05_texts.l0 k y0 y1 y2) (ref05_texts.l0 (k + 1) y0 y1 y2)) ∧ (∀ y0 y1 y2 y3, LeO (ref05_texts.j1 k y0 y1 y2 y3) (ref05_texts.j1 (k + 1) y0 y1 y2 y3))
  | 0 => ⟨fun _ _ _ r h => by simp [ref05_texts.l0] at h, fun _ _ _ _ r h => by simp [ref05_texts.j1] at h⟩
  | k + 1 => by
    obtain ⟨ih0, ih1⟩ := ref05_texts.mono_l k
    refine ⟨?_, ?_⟩
    · intro y0 y1 y2
      unfold ref05_texts.l0
      repeat' first
      | (with_reducible exact ih0 _ _ _)
      | (with_reducible exact ih1 _ _ _ _)
      | (with_reducible exact LeO.refl _)
      | (with_reducible exact LeO.none _)
      | (with_reducible refine LeO.ite ?_ ?_)
      | (with_reducible refine LeO.bind ?_ (fun _ => ?_))
      | exact ih0 _ _ _
      | exact ih1 _ _ _ _
      | exact LeO.none _
      | refine LeO.ite ?_ ?_
      | refine LeO.bind ?_ (fun _ => ?_)
    · intro y0 y1 y2 y3
      unfold ref05_texts.j1
      repeat' first
      | (with_reducible exact ih0 _ _ _)
      | (with_reducible exact ih1 _ _ _ _)
      | (with_reducible exact LeO.refl _)
      | (with_reducible exact LeO.none _)
      | (with_reducible refine LeO.ite ?_ ?_)
      | (with_reducible refine LeO.bind ?_ (fun _ => ?_))
      | exact ih0 _ _ _
      | exact ih1 _ _ _ _
      | exact LeO.none _
      | refine LeO.ite ?_ ?_
      | refine LeO.bind ?_ (fun _ => ?_)
theorem ref05_texts.mono : ∀ a0 a1 k, LeO (ref05_texts.f k a0 a1) (ref05_texts.f (k + 1) a0 a1) := by
  intro a0 a1 k
  obtain ⟨ih0, ih1⟩ := ref05_texts.mono_l k
  unfold ref05_texts.f
  repeat' first
      | (with_reducible exact ih0 _ _ _)
      | (with_reducible exact ih1 _ _ _ _)
      | (with_reducible exact LeO.refl _)
      | (with_reducible exact LeO.none _)
      | (with_reducible refine LeO.ite ?_ ?_)
      | (with_reducible refine LeO.bind ?_ (fun _ => ?_))
      | exact ih0 _ _ _
      | exact ih1 _ _ _ _
      | exact LeO.none _
      | refine LeO.ite ?_ ?_
      | refine LeO.bind ?_ (fun _ => ?_)
set_option maxHeartbeats 8000000 in
set_option maxRecDepth 100000 in
theorem ref05_texts.calls (k : Nat) (a0 : ByteArray) (a1 : ByteArray) (r : Int) (w : World) (h : ref05_texts.f k a0 a1 = some r) :
    Calls Try.prog 25 #[.string a0, .string a1] w fun e w' => e = .returned (.int .i64 r) ∧ Drawn0 w w' := by
  have H : (ref05_texts.l0 k a0 a1 0) = some r := h
  clear h
  have H' := Aside0.mk H
  clear H
  go_enter Try.func25, Try.ntmps25
  go_wp2
  repeat (go_quiet (fail); try go_wp2)
  go_loopg [5] k (fun kq v5 w' => ∃ (x5_1 : Int), v5 = .int .i64 x5_1 ∧ Aside0 (ref05_texts.l0 kq a0 a1 x5_1 = some r) ∧ Aside0 (kq ≤ k) ∧ Drawn0 w w')
  case atStart => exact ⟨(0), (by first | rfl | (simp; done) | (simp [*]; done)), H', ⟨Nat.le_refl _⟩, by repeat (first | exact Drawn0.refl _ | apply Drawn0.step)⟩
  case round =>
    clear H'
    try clear c2
    try clear p2
    obtain ⟨x5_1, rfl, HA, HK1, ⟨m1, rfl⟩⟩ := hrel
    cases gk with
    | zero => exact absurd HA.out (by simp [ref05_texts.l0])
    | succ k1 =>
      have H := HA.out
      clear HA
      simp only [ref05_texts.l0] at H
      have HC3 := Aside0.mk H
      clear H
      go_upto_region 2 with (fail)
      repeat (go_quiet (fail); go_upto_region 2 with (fail))
      go_cut [15] (fun v15 wc => ∃ (kq : Nat) (x15_2 : Bool), v15 = .bool x15_2 ∧ Aside0 (ref05_texts.j1 kq a0 a1 x5_1 x15_2 = some r) ∧ Aside0 (kq ≤ k1) ∧ Drawn0 w wc)
      case first =>
        have H := HC3.out
        clear HC3
        by_cases c4 : x5_1 < (a0.size : Int)
        · rw [if_pos c4] at H
          have c4b0 : decide (x5_1 < (a0.size : Int)) = true := decide_eq_true c4
          clear c4
          (first | rw [c4b0] | (simp only [i64_w, i32_w]; rw [c4b0]) | skip)
          have H' := Aside0.mk H
          clear H
          go_wp2
          repeat (go_quiet (fail); try go_wp2)
          go_meet
          case rel => exact ⟨_, (decide (x5_1 < (a1.size : Int))), (by first | rfl | (simp; done) | (simp [*]; done)), H', ⟨by have := HK1.out; first | omega | exact Nat.le_refl _⟩, by repeat (first | exact Drawn0.refl _ | apply Drawn0.step)⟩
        · rw [if_neg c4] at H
          have c4b0 : decide (x5_1 < (a0.size : Int)) = false := decide_eq_false c4
          clear c4
          (first | rw [c4b0] | (simp only [i64_w, i32_w]; rw [c4b0]) | skip)
          have H' := Aside0.mk H
          clear H
          go_wp2
          repeat (go_quiet (fail); try go_wp2)
          go_meet
          case rel => exact ⟨_, (false), (by first | rfl | (simp; done) | (simp [*]; done)), H', ⟨by have := HK1.out; first | omega | exact Nat.le_refl _⟩, by repeat (first | exact Drawn0.refl _ | apply Drawn0.step)⟩
      case rest =>
        clear HC3
        try clear c2
        try clear p2
        try clear c4
        try clear c4b0
        try clear p2
        obtain ⟨kq, x15_2, rfl, HA, HJ2, ⟨mc2, rfl⟩⟩ := hcut
        cases kq with
        | zero => exact absurd HA.out (by simp [ref05_texts.j1])
        | succ kj2 =>
          have H := HA.out
          clear HA
          simp only [ref05_texts.j1] at H
          by_cases c5 : x15_2 = true
          · subst c5
            have H1 : (if 0 ≤ x5_1 then (if x5_1 < (a0.size : Int) then (if x5_1 < (a1.size : Int) then (if (bt a0 x5_1) < (bt a1 x5_1) then (some (-1)) else (if (bt a0 x5_1) > (bt a1 x5_1) then (some 1) else (ref05_texts.l0 kj2 a0 a1 (wrap64 (x5_1 + 1))))) else (none)) else (none)) else (none)) = some r := by rw [if_pos rfl] at H; exact H
            clear H
            have H := H1
            clear H1
            by_cases c6 : 0 ≤ x5_1
            · rw [if_pos c6] at H
              have c6b0 : decide (0 ≤ x5_1) = true := decide_eq_true c6
              clear c6
              by_cases c7 : x5_1 < (a0.size : Int)
              · rw [if_pos c7] at H
                have c7b0 : decide (x5_1 < (a0.size : Int)) = true := decide_eq_true c7
                clear c7
                by_cases c9 : x5_1 < (a1.size : Int)
                · rw [if_pos c9] at H
                  have c9b0 : decide (x5_1 < (a1.size : Int)) = true := decide_eq_true c9
                  clear c9
                  by_cases c11 : (bt a0 x5_1) < (bt a1 x5_1)
                  · rw [if_pos c11] at H
                    have c11b0 : decide ((bt a0 x5_1) < (bt a1 x5_1)) = true := decide_eq_true c11
                    clear c11
                    obtain rfl := Option.some.inj H
                    have p8 : 0 ≤ (x5_1 : Int) := of_decide_eq_true (by first | (with_reducible assumption) | assumption)
                    have q8 : x5_1 < (a0.size : Int) := of_decide_eq_true (by first | (with_reducible assumption) | assumption)
                    have hx8 := bt_at a0 x5_1
                    replace p8 := eq_true p8
                    replace q8 := eq_true q8
                    have p10 : 0 ≤ (x5_1 : Int) := of_decide_eq_true (by first | (with_reducible assumption) | assumption)
                    have q10 : x5_1 < (a1.size : Int) := of_decide_eq_true (by first | (with_reducible assumption) | assumption)
                    have hx10 := bt_at a1 x5_1
                    replace p10 := eq_true p10
                    replace q10 := eq_true q10
                    go_wp2
                    repeat (go_quiet (fail); try go_wp2)
                    go_ret
                    exact ⟨by first | rfl | (simp; done) | (simp [*]; done), by repeat (first | exact Drawn0.refl _ | apply Drawn0.step)⟩
                  · rw [if_neg c11] at H
                    have c11b0 : decide ((bt a0 x5_1) < (bt a1 x5_1)) = false := decide_eq_false c11
                    clear c11
                    by_cases c14 : (bt a0 x5_1) > (bt a1 x5_1)
                    · rw [if_pos c14] at H
                      have c14b0 : decide ((bt a1 x5_1) < (bt a0 x5_1)) = true := decide_eq_true c14
                      clear c14
                      obtain rfl := Option.some.inj H
                      have p8 : 0 ≤ (x5_1 : Int) := of_decide_eq_true (by first | (with_reducible assumption) | assumption)
                      have q8 : x5_1 < (a0.size : Int) := of_decide_eq_true (by first | (with_reducible assumption) | assumption)
                      have hx8 := bt_at a0 x5_1
                      replace p8 := eq_true p8
                      replace q8 := eq_true q8
                      have p10 : 0 ≤ (x5_1 : Int) := of_decide_eq_true (by first | (with_reducible assumption) | assumption)
                      have q10 : x5_1 < (a1.size : Int) := of_decide_eq_true (by first | (with_reducible assumption) | assumption)
                      have hx10 := bt_at a1 x5_1
                      replace p10 := eq_true p10
                      replace q10 := eq_true q10
                      have p12 : 0 ≤ (x5_1 : Int) := of_decide_eq_true (by first | (with_reducible assumption) | assumption)
                      have q12 : x5_1 < (a0.size : Int) := of_decide_eq_true (by first | (with_reducible assumption) | assumption)
                      have hx12 := bt_at a0 x5_1
                      replace p12 := eq_true p12
                      replace q12 := eq_true q12
                      have p13 : 0 ≤ (x5_1 : Int) := of_decide_eq_true (by first | (with_reducible assumption) | assumption)
                      have q13 : x5_1 < (a1.size : Int) := of_decide_eq_true (by first | (with_reducible assumption) | assumption)
                      have hx13 := bt_at a1 x5_1
                      replace p13 := eq_true p13
                      replace q13 := eq_true q13
                      go_wp2
                      repeat (go_quiet (fail); try go_wp2)
                      go_ret
                      exact ⟨by first | rfl | (simp; done) | (simp [*]; done), by repeat (first | exact Drawn0.refl _ | apply Drawn0.step)⟩
                    · rw [if_neg c14] at H
                      have c14b0 : decide ((bt a1 x5_1) < (bt a0 x5_1)) = false := decide_eq_false c14
                      clear c14
                      have H' := Aside0.mk H
                      clear H
                      have p8 : 0 ≤ (x5_1 : Int) := of_decide_eq_true (by first | (with_reducible assumption) | assumption)
                      have q8 : x5_1 < (a0.size : Int) := of_decide_eq_true (by first | (with_reducible assumption) | assumption)
                      have hx8 := bt_at a0 x5_1
                      replace p8 := eq_true p8
                      replace q8 := eq_true q8
                      have p10 : 0 ≤ (x5_1 : Int) := of_decide_eq_true (by first | (with_reducible assumption) | assumption)
                      have q10 : x5_1 < (a1.size : Int) := of_decide_eq_true (by first | (with_reducible assumption) | assumption)
                      have hx10 := bt_at a1 x5_1
                      replace p10 := eq_true p10
                      replace q10 := eq_true q10
                      have p12 : 0 ≤ (x5_1 : Int) := of_decide_eq_true (by first | (with_reducible assumption) | assumption)
                      have q12 : x5_1 < (a0.size : Int) := of_decide_eq_true (by first | (with_reducible assumption) | assumption)
                      have hx12 := bt_at a0 x5_1
                      replace p12 := eq_true p12
                      replace q12 := eq_true q12
                      have p13 : 0 ≤ (x5_1 : Int) := of_decide_eq_true (by first | (with_reducible assumption) | assumption)
                      have q13 : x5_1 < (a1.size : Int) := of_decide_eq_true (by first | (with_reducible assumption) | assumption)
                      have hx13 := bt_at a1 x5_1
                      replace p13 := eq_true p13
                      replace q13 := eq_true q13
                      go_wp2
                      repeat (go_quiet (fail); try go_wp2)
                      go_roundg kj2
                      case measure => have := HK1.out; have := HJ2.out; omega
                      case rel => exact ⟨(wrap64 (x5_1 + 1)), (by first | rfl | (simp; done) | (simp [*]; done)), H', ⟨by have := HK1.out; have := HJ2.out; omega⟩, by repeat (first | exact Drawn0.refl _ | apply Drawn0.step)⟩
                · rw [if_neg c9] at H
                  exact absurd H (by simp)
              · rw [if_neg c7] at H
                exact absurd H (by simp)
            · rw [if_neg c6] at H
              exact absurd H (by simp)
          · replace c5 := Bool.eq_false_iff.mpr c5
            subst c5
            have H1 : ((ref05_order.f (decide ((a0.size : Int) < (a1.size : Int))) (decide ((a0.size : Int) > (a1.size : Int)))).bind fun t164 => (some t164)) = some r := by rw [if_neg (show ¬ (false = true) by decide)] at H; exact H
            clear H
            have H := H1
            clear H1
            replace H := Option.bind_eq_some_iff.mp H
            obtain ⟨t164, A150, H⟩ := H
            replace H : (some t164) = some r := H
            have A15 := Aside0.mk A150
            clear A150
            obtain rfl := Option.some.inj H
            go_wp2_with (first | (go_at_call 23; (first | with_reducible refine (ref05_order.calls (decide ((a0.size : Int) < (a1.size : Int))) (decide ((a0.size : Int) > (a1.size : Int))) t164 _ A15.out).mono ?_ | with_reducible refine (ref05_order.calls (decide (a0.size < a1.size)) (decide (a1.size < a0.size)) t164 _ (by have q_ := A15.out; simpa only [Int.ofNat_lt, Int.ofNat_le, gt_iff_lt, ge_iff_le] using q_)).mono ?_); rintro e w' ⟨rfl, ⟨nd, rfl⟩⟩; (try first | exact ⟨rfl, _, World.drewN_drewN _ _ _⟩ | exact ⟨rfl, _, Eq.trans (World.drewN_drewN _ _ _) (congrArg (World.drewN _) (Nat.add_assoc _ _ _))⟩)))
            repeat (go_quiet (first | (go_at_call 23; (first | with_reducible refine (ref05_order.calls (decide ((a0.size : Int) < (a1.size : Int))) (decide ((a0.size : Int) > (a1.size : Int))) t164 _ A15.out).mono ?_ | with_reducible refine (ref05_order.calls (decide (a0.size < a1.size)) (decide (a1.size < a0.size)) t164 _ (by have q_ := A15.out; simpa only [Int.ofNat_lt, Int.ofNat_le, gt_iff_lt, ge_iff_le] using q_)).mono ?_); rintro e w' ⟨rfl, ⟨nd, rfl⟩⟩; (try first | exact ⟨rfl, _, World.drewN_drewN _ _ _⟩ | exact ⟨rfl, _, Eq.trans (World.drewN_drewN _ _ _) (congrArg (World.drewN _) (Nat.add_assoc _ _ _))⟩))); try go_wp2_with (first | (go_at_call 23; (first | with_reducible refine (ref05_order.calls (decide ((a0.size : Int) < (a1.size : Int))) (decide ((a0.size : Int) > (a1.size : Int))) t164 _ A15.out).mono ?_ | with_reducible refine (ref05_order.calls (decide (a0.size < a1.size)) (decide (a1.size < a0.size)) t164 _ (by have q_ := A15.out; simpa only [Int.ofNat_lt, Int.ofNat_le, gt_iff_lt, ge_iff_le] using q_)).mono ?_); rintro e w' ⟨rfl, ⟨nd, rfl⟩⟩; (try first | exact ⟨rfl, _, World.drewN_drewN _ _ _⟩ | exact ⟨rfl, _, Eq.trans (World.drewN_drewN _ _ _) (congrArg (World.drewN _) (Nat.add_assoc _ _ _))⟩))))
            go_ret
            exact ⟨by first | rfl | (simp; done) | (simp [*]; done), by repeat (first | exact Drawn0.refl _ | apply Drawn0.step)⟩

end Go.Proofs.Ytnpfanmkjhpmlaa.PZoj
