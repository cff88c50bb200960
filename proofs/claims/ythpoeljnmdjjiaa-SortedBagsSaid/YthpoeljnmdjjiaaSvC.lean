/-
  Sorting, by hand: sorted.By.
-/
import Derived.Test.YthpoeljnmdjjiaaSvB
namespace Go.Proofs.Ythpoeljnmdjjiaa.PSrn
open Go.RowKit Go.Proofs.Ythpoeljnmdjjiaa.Hand Go.Proofs.Ythpoeljnmdjjiaa.Srt Go.Proofs.YthpoeljnmdjjiaaW.PrintWords Go.Proofs.YthpoeljnmdjjiaaW.PrintLast Go.Proofs.YthpoeljnmdjjiaaW.PrintMore
set_option linter.unusedVariables false
set_option linter.unusedSimpArgs false

/-- The headers of a row of rows. -/
structure HdOf (w : World) (rows : List (List S28)) (Hf : Nat → Hd) : Prop where
  len : ∀ i, (Hf i).2.1 = (rows.getD i []).length
  cap : ∀ i, (rows.getD i []).length ≤ (Hf i).2.2
  rd : ∀ i, Kd.C k28 w (Hf i).1 (rows.getD i []).length (rows.getD i [])
theorem HdOf.eq {w : World} {rows : List (List S28)} {Hf : Nat → Hd} (h : HdOf w rows Hf) (i : Nat) : hdr (Hf i) = .slice (Hf i).1 (rows.getD i []).length (Hf i).2.2 := by
  unfold hdr; rw [h.len i]
theorem HdOf.below {w w1 : World} {rows : List (List S28)} {Hf : Nat → Hd} (h : HdOf w rows Hf) (hb : Below w.heap.size w w1) : HdOf w1 rows Hf := ⟨h.len, h.cap, fun i => Kd.C_below (h.rd i) hb⟩
theorem rows_hd {w : World} {A : Option Addr} {rows : List (List S28)} (h : Kd.C (Kd.slice 28 k28) w A rows.length rows) :
    ∃ Hf : Nat → Hd, HdOf w rows Hf ∧ Kd.C (Kd.raw 1) w A rows.length ((List.range rows.length).map fun i => [hdr (Hf i)]) := by
  have hx : ∀ i : Nat, ∃ p : Hd, (p.2.1 = (rows.getD i []).length ∧ (rows.getD i []).length ≤ p.2.2 ∧ Kd.C k28 w p.1 (rows.getD i []).length (rows.getD i [])) ∧ (i < rows.length → ∀ ad, A = some ad → w.cell? (ad.add i) = some (hdr p)) := by
    intro i
    rcases Nat.lt_or_ge i rows.length with hi | hi
    · obtain ⟨ad, A0, c0, e, hc, hl, hC⟩ := at_L3 h (i : Int) (by omega) (by omega)
      have hr : rd_L3 rows (i : Int) = rows.getD i [] := by unfold rd_L3; rw [Int.toNat_natCast]
      rw [hr] at hc hl hC
      rw [Int.toNat_natCast] at hc
      exact ⟨(A0, (rows.getD i []).length, c0), ⟨rfl, hl, hC⟩, fun _ ad2 e2 => by rw [e] at e2; cases e2; exact hc⟩
    · have hn : rows.getD i [] = [] := by rw [List.getD_eq_getElem?_getD, List.getElem?_eq_none hi]; rfl
      rw [hn]
      exact ⟨(none, 0, 0), ⟨rfl, Nat.le_refl _, Kd.C_nil _ _⟩, fun h => absurd h (by omega)⟩
  refine ⟨fun i => Classical.choose (hx i), ⟨fun i => (Classical.choose_spec (hx i)).1.1, fun i => (Classical.choose_spec (hx i)).1.2.1, fun i => (Classical.choose_spec (hx i)).1.2.2⟩, ?_⟩
  refine ⟨by simp, h.2.1, fun h0 => ?_⟩
  obtain ⟨ad, e, _⟩ := h.2.2 h0
  refine ⟨ad, e, fun j p hj => ?_⟩
  rw [List.getElem?_map] at hj
  have hjl : j < rows.length := by
    rcases Nat.lt_or_ge j rows.length with h | h
    · exact h
    · rw [List.getElem?_eq_none (by simpa using h)] at hj; cases hj
  rw [List.getElem?_range hjl] at hj
  simp only [Option.map_some, Option.some.injEq] at hj
  subst hj
  refine ⟨_, rfl, ⟨rfl, rfl, fun u hu => by rw [List.mem_singleton.1 hu]; rfl⟩, fun i u hi => ?_⟩
  cases i with
  | succ i => simp at hi
  | zero =>
    simp only [List.getElem?_cons_zero, Option.some.injEq] at hi
    subst hi
    show w.cell? (ad.add (j * 1 + 0)) = _
    rw [Nat.mul_one, Nat.add_zero]
    exact (Classical.choose_spec (hx j)).2 hjl ad e
/-- A clone's block. -/
theorem clone_block {w : World} {B n : Nat} {v : Value} {Hf : Nat → Hd} (h : Kd.R (Kd.raw 1) 26 w B (fun _ => True) v ((List.range n).map fun i => [hdr (Hf i)])) :
    (n = 0 ∧ ∃ A c, v = .slice A 0 c) ∨ (0 < n ∧ ∃ g cap T, v = .slice (some ⟨g, 0, none⟩) n cap ∧ B ≤ g ∧ n ≤ cap ∧ cap ≤ maxLen ∧ T.length = cap - n ∧ w.heap[g]? = some (.cells ((List.range n).map (fun i => hdr (Hf i)) ++ T).toArray 26 (0, 0))) := by
  obtain ⟨_, inner, ho, hr1, hr2⟩ := h
  have hl : ((List.range n).map fun i => [hdr (Hf i)]).length = n := by simp
  rw [hl] at ho
  obtain ⟨o1, o2⟩ := ho
  change inner.length = n * 1 at o1
  have hin : inner = (List.range n).map fun i => hdr (Hf i) := by
    refine List.ext_getElem (by simpa using o1) (fun i h1 h2 => ?_)
    have hi : i < n := by simpa using h2
    have := hr2 i [hdr (Hf i)] (by rw [List.getElem?_map, List.getElem?_range hi]; rfl)
    have h3 := this.1
    change (inner.drop (i * 1)).take 1 = [hdr (Hf i)] at h3
    rw [Nat.mul_one, List.drop_eq_getElem_cons h1, List.take_succ_cons, List.take_zero] at h3
    simp only [List.cons.injEq, and_true] at h3
    rw [h3]
    simp
  rcases Nat.eq_zero_or_pos n with h0 | h0
  · left
    subst h0
    rcases o2 with ⟨rfl, _⟩ | ⟨g, cap, cur, rfl, _⟩
    · exact ⟨rfl, _, _, rfl⟩
    · exact ⟨rfl, _, _, rfl⟩
  · right
    rcases o2 with ⟨_, h1⟩ | ⟨g, cap, cur, rfl, hB, hh, hc1, hc2, hs, ht⟩
    · omega
    · change cur.size = cap * 1 at hs
      refine ⟨h0, g, cap, cur.toList.drop n, rfl, hB, hc1, hc2, by rw [List.length_drop, Array.length_toList]; omega, ?_⟩
      rw [← hin]
      have e : inner = cur.toList.take n := by rw [← ht]; show cur.toList.take (n * 1) = _; rw [Nat.mul_one]
      rw [e, List.take_append_drop]
      exact hh
/-- The loop of By: the first i headers are of rows of its own, each in blocks of its own. -/
def BI (B g : Nat) (T : List Value) (H : Nat → Hd) (Z : List Nat) (row : Nat → List S28) (i : Nat) (W : World) : Prop :=
  ∃ (vs : List Value) (f : Nat → Nat), vs.length = i ∧ W.heap[g]? = some (.cells (vs ++ ((Z.drop i).map (fun j => hdr (H j)) ++ T)).toArray 26 (0, 0)) ∧
    ∀ j u, vs[j]? = some u → Kd.R k28 28 W B (fun k => k ≠ g ∧ f k = j) u (row (Z.getD j 0))
theorem BI.lt {B g : Nat} {T : List Value} {H : Nat → Hd} {Z : List Nat} {row : Nat → List S28} {i : Nat} {W : World} (h : BI B g T H Z row i W) : g < W.heap.size := by
  obtain ⟨vs, f, hl, hb, hr⟩ := h
  exact blk_lt hb
theorem BI.below {B g : Nat} {T : List Value} {H : Nat → Hd} {Z : List Nat} {row : Nat → List S28} {i : Nat} {W W1 : World} (h : BI B g T H Z row i W) (hbl : Below W.heap.size W W1) : BI B g T H Z row i W1 := by
  obtain ⟨vs, f, hl, hb, hr⟩ := h
  exact ⟨vs, f, hl, blk_below hb hbl, fun j u hu => Kd.R_below (hr j u hu) hbl⟩
theorem BI.frozen {B g : Nat} {T : List Value} {H : Nat → Hd} {Z : List Nat} {row : Nat → List S28} {i : Nat} {W : World} (h : BI B g T H Z row i W) (j : Nat) : W.frozen? ⟨g, j, none⟩ = false := by
  obtain ⟨vs, f, hl, hb, hr⟩ := h
  exact blk_frozen hb j
theorem BI.cell {B g : Nat} {T : List Value} {H : Nat → Hd} {Z : List Nat} {row : Nat → List S28} {i : Nat} {W : World} (h : BI B g T H Z row i W) (hi : i < Z.length) : W.cell? ⟨g, i, none⟩ = some (hdr (H (Z.getD i 0))) := by
  obtain ⟨vs, f, hl, hb, hr⟩ := h
  rw [blk_cell hb i, List.getElem?_toArray, List.getElem?_append_right (by omega), hl, Nat.sub_self, List.drop_eq_getElem_cons hi, List.map_cons, List.cons_append, List.getElem?_cons_zero]
  rw [List.getD_eq_getElem?_getD, List.getElem?_eq_getElem hi]; rfl
theorem BI.step {B g : Nat} {T : List Value} {H : Nat → Hd} {Z : List Nat} {row : Nat → List S28} {i : Nat} {W W1 : World} {u : Value} (h : BI B g T H Z row i W) (hi : i < Z.length) (hbl : Below W.heap.size W W1) (hB : B ≤ W.heap.size)
    (hu : Kd.R k28 28 W1 W.heap.size (fun _ => True) u (row (Z.getD i 0))) : BI B g T H Z row (i + 1) (W1.setCell ⟨g, i, none⟩ u) := by
  have hg := h.lt
  obtain ⟨vs, f, hl, hb, hr⟩ := h
  refine ⟨vs ++ [u], fun k => if k < W.heap.size then f k else i, by simp [hl], ?_, fun j x hx => ?_⟩
  · refine blk_put (blk_below hb hbl) i u ?_
    rw [List.setIfInBounds_toArray, List.set_append_right _ _ (by omega), hl, Nat.sub_self, List.drop_eq_getElem_cons hi, List.map_cons, List.cons_append, List.set_cons_zero]
    simp
  · rcases Nat.lt_or_ge j i with hj | hj
    · rw [List.getElem?_append_left (by omega)] at hx
      have h1 := Kd.R_below (Kd.R_bound (hr j x hx)) hbl
      refine Kd.R_mono (Kd.R_far (p := ⟨g, i, none⟩) h1 (fun k hk => hk.1.1) u) (fun k hk => ⟨hk.1.1, ?_⟩)
      show (if k < W.heap.size then f k else i) = j
      rw [if_pos hk.2.2.1]
      exact hk.1.2
    · have hjl := (List.getElem?_eq_some_iff.1 hx).1
      rw [List.length_append, List.length_singleton, hl] at hjl
      obtain rfl : j = i := by omega
      rw [List.getElem?_append_right (by omega), hl, Nat.sub_self] at hx
      simp only [List.getElem?_cons_zero, Option.some.injEq] at hx
      subst hx
      have h1 := Kd.R_bound hu
      refine Kd.R_lower (Kd.R_mono (Kd.R_far (p := ⟨g, j, none⟩) h1 (fun k hk => by have := hk.2.1; show k ≠ g; omega) u) (fun k hk => ⟨by have := hk.2.1; omega, ?_⟩)) hB
      show (if k < W.heap.size then f k else j) = j
      rw [if_neg (by have := hk.2.1; omega)]
theorem BI.fin {B g cap : Nat} {T : List Value} {H : Nat → Hd} {Z : List Nat} {row : Nat → List S28} {i : Nat} {W : World} (h : BI B g T H Z row i W) (hi : i = Z.length) (hBg : B ≤ g) (hcap : Z.length ≤ cap) (hcm : cap ≤ maxLen) (hT : T.length = cap - Z.length) :
    Kd.S (Kd.slice 28 k28) 26 W B (fun _ => True) (.slice (some ⟨g, 0, none⟩) Z.length cap) (Z.map row) := by
  obtain ⟨vs, f, hl, hb, hr⟩ := h
  subst hi
  rw [List.drop_eq_nil_of_le (Nat.le_refl _), List.map_nil, List.nil_append] at hb
  refine ⟨f, fun _ _ => trivial, vs, ⟨by rw [List.length_zipIdx, List.length_map]; show vs.length = Z.length * 1; omega, .inr ⟨g, cap, _, by rw [List.length_zipIdx, List.length_map], hBg, hb, by rw [List.length_zipIdx, List.length_map]; exact hcap, hcm, by simp; show vs.length + T.length = cap * 1; omega, ?_⟩⟩, ?_⟩
  · rw [List.length_zipIdx, List.length_map]
    show (vs ++ T).take (Z.length * 1) = vs
    rw [Nat.mul_one, ← hl, List.take_left']
    rfl
  · refine ⟨by rw [List.length_zipIdx, List.length_map]; show vs.length = Z.length * 1; omega, fun j p hp => ?_⟩
    have hjl : j < vs.length := by
      have := (List.getElem?_eq_some_iff.1 hp).1
      rw [List.length_zipIdx, List.length_map] at this
      omega
    rw [List.getElem?_zipIdx, List.getElem?_map, List.getElem?_eq_getElem (by omega : j < Z.length)] at hp
    simp only [Option.map_some, Option.some.injEq, Nat.zero_add] at hp
    subst hp
    show (Kd.tag f (Kd.slice 28 k28)).M W B _ (row Z[j], j) ((vs.drop (j * 1)).take 1)
    rw [Nat.mul_one, List.drop_eq_getElem_cons hjl, List.take_succ_cons, List.take_zero]
    have h1 := hr j vs[j] (List.getElem?_eq_getElem hjl)
    have e : Z.getD j 0 = Z[j]'(by omega) := by rw [List.getD_eq_getElem?_getD, List.getElem?_eq_getElem (by omega : j < Z.length)]; rfl
    rw [e] at h1
    exact ⟨vs[j], rfl, Kd.R_mono h1 (fun k hk => ⟨⟨trivial, fun he => hk.1 (by simpa [Value.ownBlock] using he)⟩, hk.2⟩)⟩
end Go.Proofs.Ythpoeljnmdjjiaa.PSrn
