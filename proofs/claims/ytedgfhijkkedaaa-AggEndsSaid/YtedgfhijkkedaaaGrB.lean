/-
  By hand, for agg.groups: slices.IndexFunc over its closure; what is known of the groups' rows; slices.Clone.
-/
import Derived.Test.YtedgfhijkkedaaaGrA
namespace Go.Proofs.Ytedgfhijkkedaaa.PAgg
open Go.RowKit Go.Proofs.YtedgfhijkkedaaaW.PrintWords Go.Proofs.YtedgfhijkkedaaaW.PrintLast Go.Proofs.YtedgfhijkkedaaaW.PrintMore
attribute [local go_sem] max2_int min2_int max_two min_two max_three min_three max_four min_four
set_option linter.unusedVariables false
set_option linter.unusedSimpArgs false

/-- A group of r's first n values. -/
def like (n : Nat) (r : List S39) (g : List (List S39)) : Bool := eqRow ((rd_L3 g 0).take n) (r.take n)

set_option maxHeartbeats 4000000 in
set_option maxRecDepth 100000 in
theorem idx2_calls (Ao : Option Addr) (co : Nat) (gs : List (List (List S39))) (Ar : Option Addr) (cr : Nat) (r : List S39) (n : Int) (bn br : Nat) (w : World)
    (hr0 : Kd.C (Kd.slice 32 (Kd.slice 39 k39)) w Ao gs.length gs) (hall : ∀ g ∈ gs, 0 < g.length ∧ n ≤ ((rd_L3 g 0).length : Int)) (hn0 : 0 ≤ n) (hnr : n ≤ (r.length : Int))
    (hcn : w.cell? ⟨bn, 0, none⟩ = some (.int .i64 n)) (hcr : w.cell? ⟨br, 0, none⟩ = some (.slice Ar r.length cr)) (hr : Kd.C k39 w Ar r.length r) (hrc : r.length ≤ cr) :
    Calls Try.prog 29 #[.slice Ao gs.length co, .func (.func 30) #[] #[.pointer (some ⟨bn, 0, none⟩), .pointer (some ⟨br, 0, none⟩)]] w fun e w' =>
      e = .returned (.int .i64 (firstAt (like n.toNat r) gs 0)) ∧ Drawn0 w w' := by
  have hl := hr0.2.1
  have HR0 := Aside0.mk hr0
  have HALL := Aside0.mk hall
  have HN := Aside0.mk hcn
  have HR := Aside0.mk hcr
  have HRR := Aside0.mk hr
  have Hrc := Aside0.mk hrc
  have Hn0 := Aside0.mk hn0
  have Hnr := Aside0.mk hnr
  have HD := Aside0.mk (Drawn0.refl w)
  clear hr0 hall hcn hcr hr hrc hn0 hnr
  go_enter Try.func29, Try.ntmps29
  go_wp2
  go_loopw [8] (fun v8 wr => ∃ i : Nat, v8 = .int .i64 i ∧ i ≤ gs.length ∧ Aside0 (firstAt (like n.toNat r) gs 0 = firstAt (like n.toNat r) (gs.drop i) i) ∧ Aside0 (Drawn0 w wr)) (fun v8 _ => gs.length - (intOf v8).toNat)
  case atStart => exact ⟨0, rfl, Nat.zero_le _, ⟨by rw [List.drop_zero]; rfl⟩, HD⟩
  case round =>
    obtain ⟨i, rfl, hi, HF, ⟨⟨⟨m, rfl⟩⟩⟩⟩ := hrel
    by_cases hlt : i < gs.length
    · obtain ⟨ad, A1, c1, rfl, hx0, hc1, hC1⟩ := at_L6 (Kd.C_drewN HR0.out m) (i : Int) (by omega) (by omega)
      have hrd := rdL6 gs i hlt
      have hg := HALL.out gs[i] (List.getElem_mem hlt)
      rw [← hrd] at hg
      have Hrd := Aside0.mk hrd
      have HF2 := HF.out
      rw [List.drop_eq_getElem_cons hlt] at HF2
      have HF3 := Aside0.mk HF2
      rw [Int.toNat_natCast] at hx0
      have HCALL := Aside0.mk (grps1_calls A1 c1 (rd_L6 gs (i : Int)) Ar cr r n bn br (w.drewN m) hC1 hg.1 Hn0.out hg.2 Hnr.out (by rw [World.cell?_drewN]; exact HN.out) (by rw [World.cell?_drewN]; exact HR.out) (Kd.C_drewN HRR.out m) Hrc.out)
      clear HF HF2 hC1 hc1 hg hrd
      have p1 : (0 ≤ (i : Int)) = True := eq_true (by omega)
      have q1 : ((i : Int) < (gs.length : Int)) = True := eq_true (by omega)
      have q2 : decide ((i : Int) < (gs.length : Int)) = true := decide_eq_true (by omega)
      have q3 : decide (i < gs.length) = true := decide_eq_true hlt
      go_wp2_with fail
      refine HCALL.out.mono ?_
      rintro e w2 ⟨rfl, hd⟩
      obtain ⟨m2, rfl⟩ := hd.out
      have HD2 : Aside0 (Drawn0 w (w.drewN (m + m2))) := ⟨(Drawn0.refl w).step (m + m2)⟩
      have HF := HF3.out
      rw [firstAt_cons, ← Hrd.out] at HF
      clear HF3 hd HCALL
      change (firstAt (like n.toNat r) gs 0 = if eqRow ((rd_L3 (rd_L6 gs (i : Int)) 0).take n.toNat) (r.take n.toNat) = true then _ else _) at HF
      by_cases hp : eqRow ((rd_L3 (rd_L6 gs (i : Int)) 0).take n.toNat) (r.take n.toNat) = true
      · rw [if_pos hp] at HF
        have HF4 := Aside0.mk HF
        clear HF
        go_wp2
        go_ret
        exact ⟨by rw [HF4.out]; rfl, HD2.out⟩
      · have hp2 : eqRow ((rd_L3 (rd_L6 gs (i : Int)) 0).take n.toNat) (r.take n.toNat) = false := by simpa using hp
        rw [if_neg hp] at HF
        have HF4 := Aside0.mk HF
        clear HF hp
        go_wp2
        go_roundw
        case rel => exact ⟨i + 1, by go_num, by omega, ⟨by rw [HF4.out]; rfl⟩, HD2⟩
        case measure => simp [intOf]; omega
    · have q2 : decide ((i : Int) < (gs.length : Int)) = false := decide_eq_false (by omega)
      have q3 : decide (i < gs.length) = false := decide_eq_false hlt
      have HF2 := HF.out
      rw [List.drop_eq_nil_of_le (by omega)] at HF2
      have HF3 := Aside0.mk HF2
      have HD2 : Aside0 (Drawn0 w (w.drewN m)) := ⟨(Drawn0.refl w).step m⟩
      clear HF HF2
      go_wp2
      go_ret
      exact ⟨by rw [HF3.out]; rfl, HD2.out⟩

/-! ## What is known of the groups' rows -/
/-- Which blocks a group's row, and what it leads to, may be: its own, or one of before. -/
def gok (B : Nat) (u : Value) : Nat → Prop := fun k => k < B ∨ some k = u.ownBlock
structure GI (B : Nat) (W : World) (v : Value) (gs : List (List (List S39))) (vs : List Value) : Prop where
  own : W.ownsRow B 30 1 v gs.length vs
  len : vs.length = gs.length
  el : ∀ (j : Nat) (g : List (List S39)) (u : Value), gs[j]? = some g → vs[j]? = some u → Kd.N (Kd.slice 39 k39) 32 W B (gok B u) u g ∧ u.ownBlock ≠ none
  apart : ∀ (i j : Nat) (u u' : Value), i ≠ j → vs[i]? = some u → vs[j]? = some u' → u.ownBlock ≠ u'.ownBlock
def GInv (B : Nat) (W : World) (v : Value) (gs : List (List (List S39))) : Prop := ∃ vs, GI B W v gs vs

theorem GInv.nil (B : Nat) (W : World) : GInv B W (.slice none 0 0) [] :=
  ⟨[], ⟨World.ownsRow_nil W B 30 1, rfl, fun j g u h => by simp at h, fun i j u u' _ h => by simp at h⟩⟩
theorem GI.below {B : Nat} {W W' : World} {v : Value} {gs : List (List (List S39))} {vs : List Value} (h : GI B W v gs vs) (hb : Below W.heap.size W W') : GI B W' v gs vs :=
  ⟨own_move h.own (fun k hk => hb.block k (own_lt h.own k hk)), h.len, fun j g u hg hu => ⟨Kd.N_below (h.el j g u hg hu).1 hb, (h.el j g u hg hu).2⟩, h.apart⟩
theorem GInv.below {B : Nat} {W W' : World} {v : Value} {gs : List (List (List S39))} (h : GInv B W v gs) (hb : Below W.heap.size W W') : GInv B W' v gs :=
  h.imp fun _ h => h.below hb
theorem GI.ty {B : Nat} {W : World} {v : Value} {gs : List (List (List S39))} {vs : List Value} (h : GI B W v gs vs) {j : Nat} {g : List (List S39)} {u : Value} (hg : gs[j]? = some g) (hu : vs[j]? = some u) : u.ownBlock ≠ v.ownBlock := by
  intro he
  have h1 := h.el j g u hg hu
  cases hb : u.ownBlock with
  | none => exact h1.2 hb
  | some k =>
    obtain ⟨c1, e1⟩ := Kd.N_typed h1.1 k hb
    obtain ⟨c2, e2⟩ := own_typed h.own k (he ▸ hb)
    rw [e1] at e2
    injection e2 with e2
    injection e2 with _ e2
    exact absurd e2 (by decide)
theorem GI.step {B : Nat} {W W1 : World} {v : Value} {gs : List (List (List S39))} {vs : List Value} (h : GI B W v gs vs) {row : Option Nat} (hg : W.grownBy W1 row) (hrow : ∀ k, row = some k → B ≤ k) {j : Nat} {g : List (List S39)} {u : Value} (e1 : gs[j]? = some g) (e2 : vs[j]? = some u) (hne : u.ownBlock ≠ row) :
    Kd.N (Kd.slice 39 k39) 32 W1 B (gok B u) u g := by
  refine Kd.N_grown (h.el j g u e1 e2).1 hg (fun k hk e => ?_)
  rcases hk with hk | hk
  · have := hrow k e.symm; omega
  · exact hne (hk.symm.trans e)
/-- A new group behind all. -/
theorem GI.push {B : Nat} {W W1 : World} {v v1 u0 : Value} {gs : List (List (List S39))} {vs : List Value} {g0 : List (List S39)} (h : GI B W v gs vs) (hu0 : Kd.N (Kd.slice 39 k39) 32 W1 B (gok B u0) u0 g0) (hne : u0.ownBlock ≠ none)
    (hnew : ∀ (j : Nat) (u : Value), vs[j]? = some u → u.ownBlock ≠ u0.ownBlock) (hown : W1.ownsRow B 30 1 v1 (gs.length + 1) (vs ++ [u0])) (hg : W.grownBy W1 v.ownBlock) : GInv B W1 v1 (gs ++ [g0]) := by
  have hB : ∀ k, v.ownBlock = some k → B ≤ k := fun k hk => own_base h.own k hk
  refine ⟨vs ++ [u0], ⟨by rw [List.length_append, List.length_singleton]; exact hown, by simp [h.len], fun j g u e1 e2 => ?_, fun i j u u' hij e1 e2 => ?_⟩⟩
  · rcases Nat.lt_or_ge j gs.length with hj | hj
    · rw [List.getElem?_append_left hj] at e1
      rw [List.getElem?_append_left (by rw [h.len]; exact hj)] at e2
      exact ⟨h.step hg hB e1 e2 (h.ty e1 e2), (h.el j g u e1 e2).2⟩
    · have hjl := (List.getElem?_eq_some_iff.1 e1).1
      rw [List.length_append, List.length_singleton] at hjl
      obtain rfl : j = gs.length := by omega
      rw [List.getElem?_append_right (Nat.le_refl _), Nat.sub_self] at e1
      rw [List.getElem?_append_right (by rw [h.len]; exact Nat.le_refl _), h.len, Nat.sub_self] at e2
      simp only [List.getElem?_cons_zero, Option.some.injEq] at e1 e2
      subst e1 e2
      exact ⟨hu0, hne⟩
  · have get : ∀ (j : Nat) (u : Value), (vs ++ [u0])[j]? = some u → (j < vs.length ∧ vs[j]? = some u) ∨ (j = vs.length ∧ u = u0) := by
      intro j u e
      rcases Nat.lt_or_ge j vs.length with hj | hj
      · rw [List.getElem?_append_left hj] at e; exact .inl ⟨hj, e⟩
      · have hjl := (List.getElem?_eq_some_iff.1 e).1
        rw [List.length_append, List.length_singleton] at hjl
        have hje : j = vs.length := by omega
        subst hje
        rw [List.getElem?_append_right (Nat.le_refl _), Nat.sub_self] at e
        simp only [List.getElem?_cons_zero, Option.some.injEq] at e
        exact .inr ⟨rfl, e.symm⟩
    rcases get i u e1 with ⟨a1, a2⟩ | ⟨a1, a2⟩ <;> rcases get j u' e2 with ⟨b1, b2⟩ | ⟨b1, b2⟩
    · exact h.apart i j u u' hij a2 b2
    · rw [b2]; exact hnew i u a2
    · rw [a2]; exact fun he => hnew j u' b2 he.symm
    · omega
/-- A group that has grown, its row stored back. -/
theorem GI.put {B : Nat} {W W1 : World} {g cap : Nat} {gs : List (List (List S39))} {vs : List Value} (h : GI B W (.slice (some ⟨g, 0, none⟩) gs.length cap) gs vs) {i : Nat} (hi : i < gs.length) {u u1 : Value} (hu : vs[i]? = some u) {g1 : List (List S39)}
    (hN : Kd.N (Kd.slice 39 k39) 32 W1 B (gok B u1) u1 g1) (hne : u1.ownBlock ≠ none) (hg : W.grownBy W1 u.ownBlock) (hat : u1.ownBlock = u.ownBlock ∨ ∃ b, u1.ownBlock = some b ∧ W.heap.size ≤ b) :
    GInv B (W1.setCell ⟨g, i, none⟩ u1) (.slice (some ⟨g, 0, none⟩) gs.length cap) (gs.set i g1) := by
  have hgi : gs[i]? = some gs[i] := List.getElem?_eq_getElem hi
  have hel := h.el i _ u hgi hu
  have hty := h.ty hgi hu
  have hlt0 := own_lt h.own g (by simp [Value.ownBlock])
  have hBg := own_base h.own g (by simp [Value.ownBlock])
  have hown1 : W1.ownsRow B 30 1 (.slice (some ⟨g, 0, none⟩) gs.length cap) gs.length vs := own_move h.own (fun k hk => hg.block k (own_lt h.own k hk) (fun he => hty (he.symm.trans hk.symm)))
  have hown2 := own_put_of (enc := fun x : Value => x) (W := W1) (base := B) (g := g) (cap := cap) (e := 30) (xs := vs) (by rw [h.len]; unfold encs; rw [List.map_id']; exact hown1) (i : Int) u1
  rw [Int.toNat_natCast] at hown2
  unfold encs at hown2
  rw [List.map_id', List.length_set, h.len] at hown2
  have hu1g : u1.ownBlock ≠ some g := by
    rcases hat with he | ⟨b, he, hb⟩
    · rw [he]; intro e; exact hty e
    · rw [he]; intro e; injection e with e; omega
  have hgt : ∀ (x : Value), x.ownBlock ≠ some g → ∀ k, gok B x k → k ≠ g := by
    rintro x hx k (hk | hk) rfl
    · omega
    · exact hx hk.symm
  refine ⟨vs.set i u1, ⟨by rw [List.length_set]; exact hown2, by simp [h.len], fun j g' u' e1 e2 => ?_, fun a b x y hab e1 e2 => ?_⟩⟩
  · by_cases hij : i = j
    · subst hij
      rw [List.getElem?_set_self hi] at e1
      rw [List.getElem?_set_self (by rw [h.len]; exact hi)] at e2
      injection e1 with e1
      injection e2 with e2
      subst e1 e2
      exact ⟨Kd.N_far (p := ⟨g, i, none⟩) hN (hgt _ hu1g) u1, hne⟩
    · rw [List.getElem?_set_ne hij] at e1 e2
      have h1 := h.step hg (fun k hk => Kd.N_base hel.1 k hk) e1 e2 (h.apart j i u' u (Ne.symm hij) e2 hu)
      have h2 := h.ty e1 e2
      exact ⟨Kd.N_far (p := ⟨g, i, none⟩) h1 (hgt _ (fun e => h2 e)) u1, (h.el j g' u' e1 e2).2⟩
  · have key : ∀ (j : Nat) (y : Value), j ≠ i → vs[j]? = some y → y.ownBlock ≠ u1.ownBlock := by
      intro j y hj hy
      rcases hat with he | ⟨b, he, hb⟩
      · rw [he]; exact h.apart j i y u hj hy hu
      · rw [he]
        intro e
        have hjl : j < gs.length := by have := (List.getElem?_eq_some_iff.1 hy).1; rw [h.len] at this; exact this
        have := Kd.N_lt (h.el j _ y (List.getElem?_eq_getElem hjl) hy).1 b e
        omega
    have hil : i < vs.length := by rw [h.len]; exact hi
    by_cases ha : i = a
    · subst ha
      rw [List.getElem?_set_self hil] at e1
      rw [List.getElem?_set_ne hab] at e2
      injection e1 with e1
      subst e1
      exact fun e => key b y (Ne.symm hab) e2 e.symm
    · rw [List.getElem?_set_ne ha] at e1
      by_cases hb : i = b
      · subst hb
        rw [List.getElem?_set_self hil] at e2
        injection e2 with e2
        subst e2
        exact key a x (Ne.symm ha) e1
      · rw [List.getElem?_set_ne hb] at e2
        exact h.apart a b x y hab e1 e2
/-- The groups, as a row that is told. -/
theorem GI.N {B : Nat} {W : World} {v : Value} {gs : List (List (List S39))} {vs : List Value} (h : GI B W v gs vs) : Kd.N (Kd.slice 32 (Kd.slice 39 k39)) 30 W B (fun _ => True) v gs := by
  refine ⟨fun _ _ => trivial, vs.map (fun u => [u]), by simp [h.len], ⟨fun k hk => hk.symm, vs, by rw [List.length_map, h.len]; exact h.own, ?_⟩, fun j g c e1 e2 => ?_⟩
  · refine ⟨by show vs.length = (vs.map _).length * 1; simp, fun j p hj => ?_⟩
    rw [List.getElem?_map] at hj
    cases hv : vs[j]? with
    | none => rw [hv] at hj; cases hj
    | some u =>
      rw [hv] at hj
      simp only [Option.map_some, Option.some.injEq] at hj
      subst hj
      have hjl := (List.getElem?_eq_some_iff.1 hv).1
      have hgl : j < gs.length := by rw [← h.len]; exact hjl
      obtain ⟨h1, h2⟩ := Kd.N_val (h.el j _ u (List.getElem?_eq_getElem hgl) hv).1
      have hc : (vs.drop (j * 1)).take 1 = [u] := by
        rw [Nat.mul_one, List.drop_eq_getElem_cons hjl, List.take_succ_cons, List.take_zero, (List.getElem?_eq_some_iff.1 hv).2]
      show (Kd.raw 1).M W B _ [u] ((vs.drop (j * 1)).take 1)
      rw [hc]
      exact ⟨rfl, rfl, fun y hy => by rw [List.mem_singleton.1 hy]; exact h2⟩
  · rw [List.getElem?_map] at e2
    cases hv : vs[j]? with
    | none => rw [hv] at e2; cases e2
    | some u =>
      rw [hv] at e2
      simp only [Option.map_some, Option.some.injEq] at e2
      subst e2
      have hel := h.el j g u e1 hv
      obtain ⟨A, c, rfl⟩ := Kd.N_slice hel.1
      refine Kd.FK_mono (Kd.FK_slice_mk (Kd.N_reads' hel.1).2.1 (Kd.N_F hel.1)) (fun k hk => ⟨trivial, fun he => ?_⟩)
      rcases hk with hk | hk
      · have := own_base h.own k he.symm; omega
      · exact h.ty e1 hv (hk.symm.trans he)
end Go.Proofs.Ytedgfhijkkedaaa.PAgg
