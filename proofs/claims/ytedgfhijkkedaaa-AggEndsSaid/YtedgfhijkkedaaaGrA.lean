/-
  By hand, for agg.Group: the small closures, slices.IndexFunc and ContainsFunc over them, slices.Clone.
-/
import Derived.Test.YtedgfhijkkedaaaPAggx3

import Derived.Test.YtedgfhijkkedaaaPAggx7
namespace Go.Proofs.Ytedgfhijkkedaaa.PAgg
open Go.RowKit Go.Proofs.YtedgfhijkkedaaaW.PrintWords Go.Proofs.YtedgfhijkkedaaaW.PrintLast Go.Proofs.YtedgfhijkkedaaaW.PrintMore
attribute [local go_sem] max2_int min2_int max_two min_two max_three min_three max_four min_four
set_option linter.unusedVariables false
set_option linter.unusedSimpArgs false

/-- Two values are the same. -/
def eqV (x y : S39) : Bool := x.f0 == y.f0 && (x.f1 == y.f1 && (x.f2.toList == y.f2.toList))
def eqRow : List S39 → List S39 → Bool
  | [], [] => true
  | x :: a, y :: b => eqV x y && eqRow a b
  | _, _ => false
theorem eqRow_len : ∀ a b, eqRow a b = true → a.length = b.length
  | [], [], _ => rfl
  | [], _ :: _, h => by simp [eqRow] at h
  | _ :: _, [], h => by simp [eqRow] at h
  | x :: a, y :: b, h => by
    simp only [eqRow, Bool.and_eq_true] at h
    rw [List.length_cons, List.length_cons, eqRow_len a b h.2]
theorem rd39 (x : List S39) (i : Nat) (h : i < x.length) : rd_T39 x (i : Int) = x[i] := by
  unfold rd_T39; rw [List.getD_eq_getElem?_getD, Int.toNat_natCast, List.getElem?_eq_getElem h]; rfl
theorem rdL3 (x : List (List S39)) (i : Nat) (h : i < x.length) : rd_L3 x (i : Int) = x[i] := by
  unfold rd_L3; rw [List.getD_eq_getElem?_getD, Int.toNat_natCast, List.getElem?_eq_getElem h]; rfl
theorem rdL6 (x : List (List (List S39))) (i : Nat) (h : i < x.length) : rd_L6 x (i : Int) = x[i] := by
  unfold rd_L6; rw [List.getD_eq_getElem?_getD, Int.toNat_natCast, List.getElem?_eq_getElem h]; rfl
theorem neq_f (x y : S39) : (!(x.f0 == y.f0) || (!(x.f1 == y.f1) || !(x.f2.toList == y.f2.toList))) = !(eqV x y) := by
  unfold eqV
  cases (x.f0 == y.f0) <;> cases (x.f1 == y.f1) <;> cases (x.f2.toList == y.f2.toList) <;> rfl
theorem equal_l (x0 x1 : List S39) (hl : x0.length = x1.length) (h0 : x0.length ≤ 9223372036854775807) : ∀ (d k i : Nat), i + d = x0.length → d < k →
    api_Val.l0 k x0 x1 (x0.length : Int) (i : Int) = some (eqRow (x0.drop i) (x1.drop i)) := by
  intro d
  induction d with
  | zero =>
    intro k i hi hk
    obtain ⟨k, rfl⟩ : ∃ m, k = m + 1 := ⟨k - 1, by omega⟩
    simp only [api_Val.l0]
    rw [if_neg (by omega), List.drop_eq_nil_of_le (show x0.length ≤ i by omega), List.drop_eq_nil_of_le (show x1.length ≤ i by omega)]
    rfl
  | succ d ih =>
    intro k i hi hk
    obtain ⟨k, rfl⟩ : ∃ m, k = m + 1 := ⟨k - 1, by omega⟩
    have g0 : i < x0.length := by omega
    have g1 : i < x1.length := by omega
    simp only [api_Val.l0]
    rw [if_pos (by omega), if_pos (by omega), if_pos (by omega), if_pos (by omega), neq_f, rd39 _ _ g0, rd39 _ _ g1]
    rw [List.drop_eq_getElem_cons g0, List.drop_eq_getElem_cons g1]
    have hw : wrap64 ((i : Int) + 1) = ((i + 1 : Nat) : Int) := by unfold wrap64; omega
    unfold eqRow
    cases he : eqV x0[i] x1[i]
    · rfl
    · simp only [Bool.not_true, Bool.true_and, Bool.false_eq_true, if_false]
      rw [hw]
      exact ih k (i + 1) (by omega) (by omega)
theorem equal_f (k : Nat) (x0 x1 : List S39) (h0 : x0.length ≤ 9223372036854775807) (hk : x0.length < k) : api_Val.f k x0 x1 = some (eqRow x0 x1) := by
  unfold api_Val.f
  by_cases hl : x0.length = x1.length
  · rw [if_pos (by omega)]
    have := equal_l x0 x1 hl h0 x0.length k 0 (by omega) (by omega)
    simpa using this
  · rw [if_neg (by omega)]
    congr 1
    symm
    apply Bool.eq_false_iff.2
    intro h
    exact hl (eqRow_len _ _ h)

/-- The first place at which p holds, from i on; -1: there is none. -/
def firstAt {α : Type} (p : α → Bool) : List α → Int → Int
  | [], _ => -1
  | v :: t, i => if p v = true then i else firstAt p t (i + 1)
theorem firstAt_cons {α : Type} (p : α → Bool) (v : α) (t : List α) (i : Int) : firstAt p (v :: t) i = if p v = true then i else firstAt p t (i + 1) := rfl
theorem firstAt_any {α : Type} (p : α → Bool) : ∀ (l : List α) (i : Int), 0 ≤ i → decide (0 ≤ firstAt p l i) = l.any p
  | [], i, _ => rfl
  | v :: t, i, h => by
    rw [firstAt_cons, List.any_cons]
    by_cases c : p v = true
    · rw [if_pos c, c, decide_eq_true h]; rfl
    · rw [if_neg c, firstAt_any p t (i + 1) (by omega)]
      have : p v = false := by simpa using c
      rw [this]; rfl

/-! ## agg.Group's first closure, and slices.ContainsFunc over it -/
theorem grp1_calls (A : Option Addr) (c : Nat) (l : List S39) (n : Int) (b : Nat) (W : World) (h : W.cell? ⟨b, 0, none⟩ = some (.int .i64 n)) :
    Calls Try.prog 20 #[.slice A l.length c, .pointer (some ⟨b, 0, none⟩)] W fun e w' => e = .returned (.bool (decide ((l.length : Int) < n))) ∧ W = w' := by
  go_enter Try.func20, Try.ntmps20
  go_wp2
  go_ret
  exact ⟨rfl, rfl⟩

set_option maxHeartbeats 2000000 in
set_option maxRecDepth 100000 in
theorem idx1_calls (A0 : Option Addr) (c0 : Nat) (l0 : List (List S39)) (n : Int) (b : Nat) (w : World) (hr0 : Kd.C (Kd.slice 39 k39) w A0 l0.length l0) (hb : w.cell? ⟨b, 0, none⟩ = some (.int .i64 n)) :
    Calls Try.prog 28 #[.slice A0 l0.length c0, .func (.func 20) #[] #[.pointer (some ⟨b, 0, none⟩)]] w fun e w' => e = .returned (.int .i64 (firstAt (fun r => decide ((r.length : Int) < n)) l0 0)) ∧ w = w' := by
  have hl := hr0.2.1
  have HR0 := Aside0.mk hr0
  have Hb := Aside0.mk hb
  clear hr0 hb
  go_enter Try.func28, Try.ntmps28
  go_wp2
  go_loop [8] (fun v8 => ∃ i : Nat, v8 = .int .i64 i ∧ i ≤ l0.length ∧ Aside0 (firstAt (fun r => decide ((r.length : Int) < n)) l0 0 = firstAt (fun r => decide ((r.length : Int) < n)) (l0.drop i) i)) (fun v8 => l0.length - (intOf v8).toNat)
  case atStart => exact ⟨0, rfl, Nat.zero_le _, ⟨by rw [List.drop_zero]; rfl⟩⟩
  case round =>
    obtain ⟨i, rfl, hi, HF⟩ := hrel
    by_cases hlt : i < l0.length
    · obtain ⟨ad, A1, c1, rfl, hx0, hc1, hC1⟩ := at_L3 HR0.out (i : Int) (by omega) (by omega)
      have Hrd := Aside0.mk (rdL3 l0 i hlt)
      have HF2 := HF.out
      rw [List.drop_eq_getElem_cons hlt] at HF2
      have HF3 := Aside0.mk HF2
      clear HF HF2 hC1 hc1
      rw [Int.toNat_natCast] at hx0
      have p1 : (0 ≤ (i : Int)) = True := eq_true (by omega)
      have q1 : ((i : Int) < (l0.length : Int)) = True := eq_true (by omega)
      have q2 : decide ((i : Int) < (l0.length : Int)) = true := decide_eq_true (by omega)
      have q3 : decide (i < l0.length) = true := decide_eq_true hlt
      go_wp2_with fail
      refine (grp1_calls _ _ _ n b _ Hb.out).mono ?_
      rintro e w2 ⟨rfl, rfl⟩
      have HF := HF3.out
      rw [firstAt_cons, ← Hrd.out] at HF
      clear HF3
      by_cases hp : decide (((rd_L3 l0 (i : Int)).length : Int) < n) = true
      · rw [if_pos hp] at HF
        have HF4 := Aside0.mk HF
        clear HF
        go_wp2
        go_ret
        exact ⟨by rw [HF4.out]; rfl, rfl⟩
      · have hp2 : decide (((rd_L3 l0 (i : Int)).length : Int) < n) = false := by simpa using hp
        rw [if_neg hp] at HF
        have HF4 := Aside0.mk HF
        clear HF hp
        go_wp2
        go_round
        case rel => exact ⟨i + 1, by go_num, by omega, ⟨by rw [HF4.out]; rfl⟩⟩
        case measure => simp [intOf]; omega
    · have q2 : decide ((i : Int) < (l0.length : Int)) = false := decide_eq_false (by omega)
      have q3 : decide (i < l0.length) = false := decide_eq_false hlt
      have HF2 := HF.out
      rw [List.drop_eq_nil_of_le (by omega)] at HF2
      have HF3 := Aside0.mk HF2
      clear HF HF2
      go_wp2
      go_ret
      exact ⟨by rw [HF3.out]; rfl, rfl⟩

theorem contains_calls (A0 : Option Addr) (c0 : Nat) (l0 : List (List S39)) (n : Int) (b : Nat) (w : World) (hr0 : Kd.C (Kd.slice 39 k39) w A0 l0.length l0) (hb : w.cell? ⟨b, 0, none⟩ = some (.int .i64 n)) :
    Calls Try.prog 19 #[.slice A0 l0.length c0, .func (.func 20) #[] #[.pointer (some ⟨b, 0, none⟩)]] w fun e w' => e = .returned (.bool (l0.any fun r => decide ((r.length : Int) < n))) ∧ w = w' := by
  have HI := Aside0.mk (idx1_calls A0 c0 l0 n b w hr0 hb)
  have HA := Aside0.mk (firstAt_any (fun r => decide ((r.length : Int) < n)) l0 0 (by omega))
  generalize firstAt (fun r => decide ((r.length : Int) < n)) l0 0 = j at *
  clear hr0 hb
  go_enter Try.func19, Try.ntmps19
  go_wp2_with (go_at_call 28; refine HI.out.mono ?_; rintro e w' ⟨rfl, rfl⟩)
  go_ret
  exact ⟨by rw [← HA.out]; rfl, rfl⟩

/-! ## agg.groups' closure, and slices.IndexFunc over it -/
set_option maxHeartbeats 2000000 in
set_option maxRecDepth 100000 in
theorem grps1_calls (Ag : Option Addr) (cg : Nat) (g : List (List S39)) (Ar : Option Addr) (cr : Nat) (r : List S39) (n : Int) (bn br : Nat) (W : World)
    (hg : Kd.C (Kd.slice 39 k39) W Ag g.length g) (hg0 : 0 < g.length) (hn0 : 0 ≤ n) (hng : n ≤ ((rd_L3 g 0).length : Int)) (hnr : n ≤ (r.length : Int))
    (hcn : W.cell? ⟨bn, 0, none⟩ = some (.int .i64 n)) (hcr : W.cell? ⟨br, 0, none⟩ = some (.slice Ar r.length cr)) (hr : Kd.C k39 W Ar r.length r) (hrc : r.length ≤ cr) :
    Calls Try.prog 30 #[.slice Ag g.length cg, .pointer (some ⟨bn, 0, none⟩), .pointer (some ⟨br, 0, none⟩)] W fun e w' =>
      e = .returned (.bool (eqRow ((rd_L3 g 0).take n.toNat) (r.take n.toNat))) ∧ Drawn0 W w' := by
  obtain ⟨ad, A1, c1, rfl, hx0, hc1, hC1⟩ := at_L3 hg 0 (by omega) (by omega)
  have hx0 : W.cell? ad = some (.slice A1 (rd_L3 g 0).length c1) := hx0
  obtain ⟨i0, hi, hz0, hz1, hz2⟩ := info_parts info39
  have hcut1 := cut_to (P := Try.prog) 32 39 .i64 Try.underlying32 hi A1 (rd_L3 g 0).length c1 n hn0 hng hc1
  have hcut2 := cut_to (P := Try.prog) 32 39 .i64 Try.underlying32 hi Ar r.length cr n hn0 hnr hrc
  have hl1 : ((rd_L3 g 0).take n.toNat).length = n.toNat := by rw [List.length_take]; omega
  have hl2 : (r.take n.toNat).length = n.toNat := by rw [List.length_take]; omega
  have hT1 := Kd.C_take (m := n.toNat) hC1 (by omega)
  have hT2 := Kd.C_take (m := n.toNat) hr (by omega)
  have hm1 := hT1.2.1
  have HE := Aside0.mk (equal_f (n.toNat + 1) ((rd_L3 g 0).take n.toNat) (r.take n.toNat) (by omega) (by omega))
  rw [← hl1] at hcut1
  rw [← hl2] at hcut2
  have q1 : ∀ m, m = n.toNat → m ≤ c1 := fun m h => by omega
  have q2 : ∀ m, m = n.toNat → m ≤ cr := fun m h => by omega
  generalize hy1 : (rd_L3 g 0).take n.toNat = y1 at *
  generalize hy2 : r.take n.toNat = y2 at *
  have HT1 := Aside0.mk hT1
  have HT2 := Aside0.mk hT2
  have Q1 := Aside0.mk (q1 _ hl1)
  have Q2 := Aside0.mk (q2 _ hl2)
  have HQ : Aside0 (∀ W', (∃ m, W' = W.drewN m) → Calls Try.prog 31 #[.slice A1 y1.length c1, .slice Ar y2.length cr] W' fun e w' => e = .returned (.bool (eqRow y1 y2)) ∧ ∃ m, w' = W'.drewN m) := ⟨by
    rintro W' ⟨m, rfl⟩
    exact (api_Val.calls _ A1 c1 y1 Ar cr y2 _ (W.drewN m) (Kd.C_drewN HT1.out m) Q1.out (Kd.C_drewN HT2.out m) Q2.out HE.out).mono fun e w' ⟨he, hd⟩ => ⟨he, hd.out⟩⟩
  have p1 : (0 < (g.length : Int)) = True := eq_true (by omega)
  have p2 : decide ((0 : Int) < (g.length : Int)) = true := decide_eq_true (by omega)
  have p3 : (0 < g.length) = True := eq_true (by omega)
  clear hg hc1 hC1 hi hz0 hz1 hz2 hl1 hl2 hT1 hT2 HE q1 q2 hm1 hg0 hn0 hng hnr hr hrc hy1 hy2
  go_enter Try.func30, Try.ntmps30
  go_wp2
  go_quiet ((go_at_call 31; exact Calls.quiet_of (HQ.out _ ⟨_, rfl⟩)))
  go_wp2
  go_ret
  exact ⟨rfl, by repeat (first | exact Drawn0.refl _ | apply Drawn0.step)⟩
end Go.Proofs.Ytedgfhijkkedaaa.PAgg
