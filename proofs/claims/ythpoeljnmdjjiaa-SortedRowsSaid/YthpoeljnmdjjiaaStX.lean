/-
  Several texts in one (by wip/gprint/mergeh.py), in their order.
-/
import Derived.Test.YthpoeljnmdjjiaaProg
import Derived.Test.YthpoeljnmdjjiaaTw
import Derived.BigRegion
import Derived.BigQuiet
import Derived.RegionTactic
import Derived.Deep.RegionLaw
import Derived.WalkKit
import Derived.Tactics
import Derived.Shelf.RegionOpenPlain
section
/-
  Sorting, by hand: a row of slices that is sorted in place; the exchange of two ranges.
-/
namespace Go.Proofs.Ythpoeljnmdjjiaa.Srt
open Go.RowKit Go.Proofs.YthpoeljnmdjjiaaW.PrintWords Go.Proofs.YthpoeljnmdjjiaaW.PrintLast Go.Proofs.YthpoeljnmdjjiaaW.PrintMore
set_option linter.unusedVariables false
set_option linter.unusedSimpArgs false

/-- A slice's three parts. -/
abbrev Hd := Option Addr × Nat × Nat
def hdr (p : Hd) : Value := .slice p.1 p.2.1 p.2.2
/-- A world of a sort: block g holds the elements' values, told by numbers (and behind them what stood there); all else is as it was. -/
structure SR (w0 : World) (g : Nat) (H : Nat → Hd) (l : List Nat) (w : World) : Prop where
  blk : ∃ L0 T : List Value, L0.length = l.length ∧ w0.heap[g]? = some (.cells (L0 ++ T).toArray 26 (0, 0)) ∧ w.heap[g]? = some (.cells (l.map (fun i => hdr (H i)) ++ T).toArray 26 (0, 0))
  below : Below g w0 w
  keep : KeepBut w0 w g none
def swl (l : List Nat) (i j : Nat) : List Nat := (l.set i (l.getD j 0)).set j (l.getD i 0)
theorem swl_len (l : List Nat) (i j : Nat) : (swl l i j).length = l.length := by simp [swl]
theorem SR.cell {w0 w : World} {g : Nat} {H : Nat → Hd} {l : List Nat} (h : SR w0 g H l w) (i : Nat) (hi : i < l.length) : w.cell? ⟨g, i, none⟩ = some (hdr (H (l.getD i 0))) := by
  obtain ⟨L0, T, _, _, hb⟩ := h.blk
  rw [blk_cell hb i, List.getElem?_toArray, List.getElem?_append_left (by rw [List.length_map]; exact hi)]
  simp [hi]
theorem SR.frozen {w0 w : World} {g : Nat} {H : Nat → Hd} {l : List Nat} (h : SR w0 g H l w) (i : Nat) : w.frozen? ⟨g, i, none⟩ = false := by
  obtain ⟨L0, T, _, _, hb⟩ := h.blk
  exact blk_frozen hb i
theorem SR.lt {w0 w : World} {g : Nat} {H : Nat → Hd} {l : List Nat} (h : SR w0 g H l w) : g < w.heap.size := by
  obtain ⟨L0, T, _, _, hb⟩ := h.blk
  exact blk_lt hb
theorem SR.drew {w0 w : World} {g : Nat} {H : Nat → Hd} {l : List Nat} (h : SR w0 g H l w) : SR w0 g H l w.drew := ⟨h.blk, ⟨h.below.os, h.below.tape, h.below.output, h.below.size, h.below.block⟩, keep_drewN h.keep 1⟩
theorem below_put {B : Nat} {w0 w : World} (h : Below B w0 w) {p : Addr} (hp : B ≤ p.block) {u : Value} : Below B w0 (w.setCell p u) :=
  ⟨h.os, h.tape, h.output, by have := h.size; simpa [World.setCell] using this, fun k hk => (Below.heap_setCell w p u k (by omega)).trans (h.block k hk)⟩
theorem SR.swap {w0 w : World} {g : Nat} {H : Nat → Hd} {l : List Nat} (h : SR w0 g H l w) (i j : Nat) (hi : i < l.length) (hj : j < l.length) :
    SR w0 g H (swl l i j) ((w.setCell ⟨g, i, none⟩ (hdr (H (l.getD j 0)))).setCell ⟨g, j, none⟩ (hdr (H (l.getD i 0)))) := by
  obtain ⟨L0, T, hl, h0, hb⟩ := h.blk
  refine ⟨⟨L0, T, by rw [hl, swl_len], h0, blk_put (blk_put hb i _ rfl) j _ ?_⟩, below_put (below_put h.below (Nat.le_refl _)) (Nat.le_refl _), (h.keep.set_ i _).set_ j _⟩
  rw [List.setIfInBounds_toArray, List.setIfInBounds_toArray, List.set_append_left _ _ (by rw [List.length_map]; exact hi), List.set_append_left _ _ (by rw [List.length_set, List.length_map]; exact hj)]
  unfold swl
  simp [List.map_set]
theorem SR.behind {w0 w : World} {g : Nat} {H : Nat → Hd} {l : List Nat} (h : SR w0 g H l w) (i j : Nat) (hj : j < l.length) (v : Value) : ∃ u, (w.setCell ⟨g, i, none⟩ v).cell? ⟨g, j, none⟩ = some u := by
  obtain ⟨L0, T, hl, h0, hb⟩ := h.blk
  rw [blk_cell (blk_put hb i v rfl) j]
  refine ⟨_, Array.getElem?_eq_getElem (by simp; omega)⟩
/-- Two ranges exchanged, one element after the other. -/
def swr (l : List Nat) (a b : Nat) : Nat → List Nat
  | 0 => l
  | n + 1 => swl (swr l a b n) (a + n) (b + n)
theorem swr_len (l : List Nat) (a b : Nat) : ∀ n, (swr l a b n).length = l.length
  | 0 => rfl
  | n + 1 => by rw [swr, swl_len, swr_len l a b n]

theorem follows_mixed : Try.prog.follows Departure.mixedOrders = true := by kernel_rfl
set_option maxHeartbeats 8000000 in
set_option maxRecDepth 100000 in
theorem swapRange_calls (H : Nat → Hd) (w0 : World) (g cap : Nat) (l : List Nat) (a b n : Nat) (fv : Value) (w : World) (hl : l.length ≤ 1000000) (ha : a + n ≤ l.length) (hb : b + n ≤ l.length) (h : SR w0 g H l w) :
    Calls Try.prog 90 #[.slice (some ⟨g, 0, none⟩) l.length cap, .int .i64 a, .int .i64 b, .int .i64 n, fv] w fun e w' => e = .returned (.tuple #[]) ∧ SR w0 g H (swr l a b n) w' := by
  have H0 := Aside0.mk h
  have mixed := follows_mixed
  clear h
  go_enter Try.func90, Try.ntmps90
  go_wp2
  go_loopw [10] (fun v10 wr => ∃ i : Nat, v10 = .int .i64 i ∧ i ≤ n ∧ Aside0 (SR w0 g H (swr l a b i) wr)) (fun v10 _ => n - (intOf v10).toNat)
  case atStart => exact ⟨0, rfl, Nat.zero_le _, H0⟩
  case round =>
    clear H0
    obtain ⟨i, rfl, hi, HS⟩ := hrel
    by_cases hlt : i < n
    · have q1 : decide ((i : Int) < (n : Int)) = true := decide_eq_true (by omega)
      have q2 : decide (i < n) = true := decide_eq_true hlt
      have hlen : (swr l a b i).length = l.length := swr_len l a b i
      have ca := HS.out.cell (a + i) (by omega)
      have cb := HS.out.cell (b + i) (by omega)
      have fa := HS.out.frozen (a + i)
      have fb := HS.out.frozen (b + i)
      obtain ⟨u, cu⟩ := HS.out.behind (a + i) (b + i) (by omega) (hdr (H ((swr l a b i).getD (b + i) 0)))
      have S2 := Aside0.mk (HS.out.swap (a + i) (b + i) (by omega) (by omega)).drew
      rw [show swl (swr l a b i) (a + i) (b + i) = swr l a b (i + 1) from rfl] at S2
      generalize H ((swr l a b i).getD (b + i) 0) = vb at *
      generalize H ((swr l a b i).getD (a + i) 0) = va at *
      have p1 : (0 : Int) ≤ (a : Int) + (i : Int) := by omega
      have p2 : (a : Int) + (i : Int) < (l.length : Int) := by omega
      have p3 : IntKind.i64.wrap ((a : Int) + (i : Int)) = (a : Int) + (i : Int) := by rw [IntKind.wrap_i64]; omega
      have p4 : (0 : Int) ≤ (b : Int) + (i : Int) := by omega
      have p5 : (b : Int) + (i : Int) < (l.length : Int) := by omega
      have p6 : IntKind.i64.wrap ((b : Int) + (i : Int)) = (b : Int) + (i : Int) := by rw [IntKind.wrap_i64]; omega
      have e1 : ((a : Int) + (i : Int)).toNat = a + i := by omega
      have e2 : ((b : Int) + (i : Int)).toNat = b + i := by omega
      obtain ⟨a1, a2, a3⟩ := va
      obtain ⟨b1, b2, b3⟩ := vb
      simp only [hdr] at ca cb cu S2
      clear hlen HS
      go_wp2_with fail
      go_big_region_o
      clear ca cb cu fa fb
      generalize ((wr.setCell ⟨g, a + i, none⟩ (.slice b1 b2 b3)).setCell ⟨g, b + i, none⟩ (.slice a1 a2 a3)).drew = w2 at S2 ⊢
      clear p1 p2 p3 p4 p5 p6 e1 e2
      go_wp2
      go_roundw
      case rel => exact ⟨i + 1, by go_num, by omega, S2⟩
      case measure => simp [intOf]; omega
    · have q1 : decide ((i : Int) < (n : Int)) = false := decide_eq_false (by omega)
      have q2 : decide (i < n) = false := decide_eq_false hlt
      obtain rfl : i = n := by omega
      go_wp2
      go_end0
      exact ⟨rfl, HS.out⟩
end Go.Proofs.Ythpoeljnmdjjiaa.Srt
end
section
/-
  Sorting, by hand: two neighbouring ranges rotated.
-/
namespace Go.Proofs.Ythpoeljnmdjjiaa.Srt
open Go.RowKit Go.Proofs.YthpoeljnmdjjiaaW.PrintWords Go.Proofs.YthpoeljnmdjjiaaW.PrintLast Go.Proofs.YthpoeljnmdjjiaaW.PrintMore
set_option linter.unusedVariables false
set_option linter.unusedSimpArgs false

theorem w64i {x : Int} (h0 : -1000000000 ≤ x) (h1 : x ≤ 1000000000) : wrap64 x = x := by unfold wrap64; omega
theorem w64s {a b c : Nat} (h : b + c = a) (h2 : a ≤ 1000000) : wrap64 ((a : Int) - (b : Int)) = (c : Int) := by rw [w64i (by omega) (by omega)]; omega
theorem w64as {m j i c : Nat} (h : m + j = i + c) (h2 : m ≤ 1000000) (h3 : j ≤ 1000000) (h4 : i ≤ 1000000) : wrap64 (wrap64 ((m : Int) + (j : Int)) - (i : Int)) = (c : Int) := by
  rw [w64i (x := (m : Int) + (j : Int)) (by omega) (by omega), w64i (by omega) (by omega)]; omega
theorem getD_mid (A : List Nat) (x : Nat) (R : List Nat) : (A ++ x :: R).getD A.length 0 = x := by
  rw [List.getD_eq_getElem?_getD, List.getElem?_append_right (Nat.le_refl _), Nat.sub_self]; rfl
theorem set_mid (A : List Nat) (x y : Nat) (R : List Nat) : (A ++ x :: R).set A.length y = A ++ y :: R := by
  rw [List.set_append_right _ _ (Nat.le_refl _), Nat.sub_self]; rfl
theorem swl_mid (A : List Nat) (x : Nat) (B : List Nat) (y : Nat) (C : List Nat) : swl (A ++ x :: (B ++ y :: C)) A.length (A.length + 1 + B.length) = A ++ y :: (B ++ x :: C) := by
  unfold swl
  have e1 : A ++ x :: (B ++ y :: C) = (A ++ x :: B) ++ y :: C := by simp
  have l1 : (A ++ x :: B).length = A.length + 1 + B.length := by simp; omega
  have e2 : A ++ y :: (B ++ y :: C) = (A ++ y :: B) ++ y :: C := by simp
  have l2 : (A ++ y :: B).length = A.length + 1 + B.length := by simp; omega
  have g2 : (A ++ x :: (B ++ y :: C)).getD (A.length + 1 + B.length) 0 = y := by rw [e1, ← l1]; exact getD_mid _ _ _
  rw [getD_mid, g2, set_mid, e2, ← l2, set_mid]
  simp
theorem swr_step (P M Q : List Nat) (U V : List Nat) (h : U.length = V.length) : ∀ n, n ≤ U.length → swr (P ++ U ++ M ++ V ++ Q) P.length (P.length + U.length + M.length) n = P ++ V.take n ++ U.drop n ++ M ++ U.take n ++ V.drop n ++ Q := by
  intro n
  induction n with
  | zero => intro _; simp [swr]
  | succ n ih =>
    intro hn
    have hu : n < U.length := by omega
    have hv : n < V.length := by omega
    rw [swr, ih (by omega), List.drop_eq_getElem_cons hu, List.drop_eq_getElem_cons hv, List.take_succ_eq_append_getElem hu, List.take_succ_eq_append_getElem hv]
    have := swl_mid (P ++ V.take n) U[n] (U.drop (n + 1) ++ M ++ U.take n) V[n] (V.drop (n + 1) ++ Q)
    have l1 : (P ++ V.take n).length = P.length + n := by rw [List.length_append, List.length_take]; omega
    have l2 : (U.drop (n + 1) ++ M ++ U.take n).length = (U.length - (n + 1)) + M.length + n := by rw [List.length_append, List.length_append, List.length_drop, List.length_take]; omega
    rw [l1, l2, show P.length + n + 1 + (U.length - (n + 1) + M.length + n) = P.length + U.length + M.length + n by omega] at this
    have e1 : P ++ V.take n ++ U[n] :: U.drop (n + 1) ++ M ++ U.take n ++ V[n] :: V.drop (n + 1) ++ Q = P ++ V.take n ++ U[n] :: (U.drop (n + 1) ++ M ++ U.take n ++ V[n] :: (V.drop (n + 1) ++ Q)) := by simp only [List.append_assoc, List.cons_append]
    rw [e1, this]
    simp only [List.append_assoc, List.cons_append, List.nil_append]
theorem swr_blocks (P M Q U V : List Nat) (h : U.length = V.length) : swr (P ++ U ++ M ++ V ++ Q) P.length (P.length + U.length + M.length) U.length = P ++ V ++ M ++ U ++ Q := by
  rw [swr_step P M Q U V h U.length (Nat.le_refl _)]
  rw [List.take_of_length_le (show V.length ≤ U.length by omega), List.drop_eq_nil_of_le (Nat.le_refl _), List.take_of_length_le (Nat.le_refl _), List.drop_eq_nil_of_le (show V.length ≤ U.length by omega)]
  simp

set_option maxHeartbeats 1000000 in
set_option maxRecDepth 100000 in
theorem rotate_calls (H : Nat → Hd) (w0 : World) (g cap : Nat) (P X Y Q : List Nat) (n a m b : Nat) (fv : Value) (w : World) (hn : (P ++ X ++ Y ++ Q).length = n) (hl : n ≤ 1000000) (ha : a = P.length) (hm : m = P.length + X.length) (hb : b = P.length + X.length + Y.length) (hX : 0 < X.length) (hY : 0 < Y.length)
    (h : SR w0 g H (P ++ X ++ Y ++ Q) w) :
    Calls Try.prog 78 #[.slice (some ⟨g, 0, none⟩) n cap, .int .i64 a, .int .i64 m, .int .i64 b, fv] w fun e w' => e = .returned (.tuple #[]) ∧ SR w0 g H (P ++ Y ++ X ++ Q) w' := by
  have hlen : P.length + X.length + Y.length + Q.length = n := by rw [← hn]; simp only [List.length_append]
  have H0 := Aside0.mk h
  have HT : Aside0 (∃ T, T = P ++ Y ++ X ++ Q) := ⟨_, rfl⟩
  obtain ⟨T, hT⟩ := HT.out
  have HXY : Aside0 (P.length + X.length = m ∧ X.length + Y.length ≤ n ∧ P.length + X.length + Y.length + Q.length = n) := ⟨by omega, by omega, by omega⟩
  have w1 : wrap64 ((m : Int) - (a : Int)) = (X.length : Int) := by rw [w64i (by omega) (by omega)]; omega
  have w2 : wrap64 ((b : Int) - (m : Int)) = (Y.length : Int) := by rw [w64i (by omega) (by omega)]; omega
  have HE : Aside0 (P ++ Y ++ X ++ Q = T) := ⟨hT.symm⟩
  rw [← hT]
  have HXP := Aside0.mk hX
  have HYP := Aside0.mk hY
  clear h HT hn hT hX hY ha hm hb hlen
  go_enter Try.func78, Try.ntmps78
  go_wp2
  go_loopw [10, 11] (fun v10 v11 wr => ∃ (P X Y Q : List Nat) (p i j : Nat), v10 = .int .i64 i ∧ v11 = .int .i64 j ∧ Aside0 (P.length = p ∧ X.length = i ∧ Y.length = j ∧ p + i + j + Q.length = n) ∧ p + i = m ∧ p + i + j ≤ n ∧ 0 < i ∧ 0 < j ∧ Aside0 (SR w0 g H (P ++ X ++ Y ++ Q) wr) ∧ Aside0 (P ++ Y ++ X ++ Q = T)) (fun v10 v11 _ => (intOf v10).toNat + (intOf v11).toNat)
  case atStart => exact ⟨P, X, Y, Q, P.length, X.length, Y.length, congrArg (Value.int .i64) w1, congrArg (Value.int .i64) w2, ⟨rfl, rfl, rfl, HXY.out.2.2⟩, HXY.out.1, by have := HXY.out.2.2; omega, HXP.out, HYP.out, H0, HE⟩
  case round =>
    clear H0 HE HXY HXP HYP w1 w2
    obtain ⟨P, X, Y, Q, p, i, j, rfl, rfl, HL, hpm, hpn, hi0, hj0, HS, HE⟩ := hrel
    obtain ⟨l1, l2, l3, l4⟩ := HL.out
    have hlen : (P ++ X ++ Y ++ Q).length = n := by simp only [List.length_append]; omega
    rcases Nat.lt_trichotomy i j with hij | hij | hij
    · have q1 : decide ((i : Int) ≠ (j : Int)) = true := decide_eq_true (by omega)
      have q2 : ((i : Int) == (j : Int)) = false := by rw [beq_eq_false_iff_ne]; omega
      have q3 : decide ((i : Int) > (j : Int)) = false := decide_eq_false (by omega)
      have q4 : decide ((j : Int) < (i : Int)) = false := decide_eq_false (by omega)
      have q5 : decide (j < i) = false := decide_eq_false (by omega)
      have q6 : (i == j) = false := by rw [beq_eq_false_iff_ne]; omega
      have E1 : Aside0 ((m : Int) - (i : Int) = (p : Int)) := ⟨by omega⟩
      have E2 : Aside0 ((m : Int) + (j : Int) - (i : Int) = ((p + i + (j - i) : Nat) : Int)) := ⟨by omega⟩
      have E3 : Aside0 ((j : Int) - (i : Int) = ((j - i : Nat) : Int)) := ⟨by omega⟩
      have hY : Y = Y.take (j - i) ++ Y.drop (j - i) := (List.take_append_drop _ _).symm
      obtain ⟨Y1, Y2, hY1, hY2, hYY⟩ : ∃ Y1 Y2, Y1.length = j - i ∧ Y2.length = i ∧ Y = Y1 ++ Y2 := ⟨_, _, by rw [List.length_take]; omega, by rw [List.length_drop]; omega, hY⟩
      have hb := swr_blocks P Y1 Q X Y2 (by omega)
      rw [l1, l2, hY1] at hb
      have hS := HS.out
      have eL : P ++ X ++ Y ++ Q = P ++ X ++ Y1 ++ Y2 ++ Q := by rw [hYY]; simp only [List.append_assoc]
      rw [eL] at hS hlen
      have hc := swapRange_calls H w0 g cap (P ++ X ++ Y1 ++ Y2 ++ Q) p (p + i + (j - i)) i fv wr (by omega) (by omega) (by omega) hS
      rw [hb, hlen, ← E1.out, ← E2.out] at hc
      have HC := Aside0.mk hc
      have HE2 : Aside0 (P ++ Y1 ++ Y2 ++ (X ++ Q) = T) := ⟨by rw [← HE.out, hYY]; simp only [List.append_assoc]⟩
      have HL2 : Aside0 (P.length = p ∧ Y2.length = i ∧ Y1.length = j - i ∧ p + i + (j - i) + (X ++ Q).length = n) := ⟨l1, hY2, hY1, by rw [List.length_append]; omega⟩
      clear hc hS eL hb hY hYY hY1 hY2 E1 E2 l1 l2 l3 l4 hlen HL HE HS
      go_wp2_with (go_at_call 90; refine HC.out.mono ?_; rintro e w5 ⟨rfl, hs5⟩; have HS5 := Aside0.mk hs5; clear hs5)
      go_roundw
      case rel => exact ⟨P, Y2, Y1, X ++ Q, p, i, j - i, by first | rfl | go_num, congrArg (Value.int .i64) E3.out, HL2, hpm, by omega, hi0, by omega, ⟨by have := HS5.out; simpa only [List.append_assoc] using this⟩, HE2⟩
      case measure => have e3 := E3.out; simp only [intOf, e3]; clear e3; omega
    · subst hij
      have q1 : decide ((i : Int) ≠ (i : Int)) = false := decide_eq_false (by omega)
      have E1 : Aside0 ((m : Int) - (i : Int) = (p : Int)) := ⟨by omega⟩
      have hb := swr_blocks P [] Q X Y (by omega)
      rw [l1, l2] at hb
      simp only [List.append_nil, List.length_nil, Nat.add_zero] at hb
      have hc := swapRange_calls H w0 g cap (P ++ X ++ Y ++ Q) p (p + i) i fv wr (by omega) (by omega) (by omega) HS.out
      rw [hb, hlen, HE.out, ← E1.out, hpm] at hc
      have HC := Aside0.mk hc
      clear hc hb l1 l2 l3 l4 hlen HL HE HS E1
      go_wp2_with (go_at_call 90; refine HC.out.mono ?_; rintro e w5 ⟨rfl, hs5⟩; have HS5 := Aside0.mk hs5; clear hs5)
      go_end0
      exact ⟨rfl, HS5.out⟩
    · have q1 : decide ((i : Int) ≠ (j : Int)) = true := decide_eq_true (by omega)
      have q2 : ((i : Int) == (j : Int)) = false := by rw [beq_eq_false_iff_ne]; omega
      have q3 : decide ((i : Int) > (j : Int)) = true := decide_eq_true (by omega)
      have q4 : decide ((j : Int) < (i : Int)) = true := decide_eq_true (by omega)
      have q5 : decide (j < i) = true := decide_eq_true (by omega)
      have q6 : (i == j) = false := by rw [beq_eq_false_iff_ne]; omega
      have E1 : Aside0 ((m : Int) - (i : Int) = (p : Int)) := ⟨by omega⟩
      have E3 : Aside0 ((i : Int) - (j : Int) = ((i - j : Nat) : Int)) := ⟨by omega⟩
      have hX : X = X.take j ++ X.drop j := (List.take_append_drop _ _).symm
      obtain ⟨X1, X2, hX1, hX2, hXX⟩ : ∃ X1 X2, X1.length = j ∧ X2.length = i - j ∧ X = X1 ++ X2 := ⟨_, _, by rw [List.length_take]; omega, by rw [List.length_drop]; omega, hX⟩
      have hb := swr_blocks P X2 Q X1 Y (by omega)
      rw [l1, hX1, hX2] at hb
      have hS := HS.out
      have eL : P ++ X ++ Y ++ Q = P ++ X1 ++ X2 ++ Y ++ Q := by rw [hXX]; simp only [List.append_assoc]
      rw [eL] at hS hlen
      have hc := swapRange_calls H w0 g cap (P ++ X1 ++ X2 ++ Y ++ Q) p (p + j + (i - j)) j fv wr (by omega) (by omega) (by omega) hS
      rw [hb, hlen, ← E1.out, show p + j + (i - j) = m by omega] at hc
      have HC := Aside0.mk hc
      have HE2 : Aside0 (P ++ Y ++ X1 ++ X2 ++ Q = T) := ⟨by rw [← HE.out, hXX]; simp only [List.append_assoc]⟩
      have HL2 : Aside0 ((P ++ Y).length = p + j ∧ X2.length = i - j ∧ X1.length = j ∧ p + j + (i - j) + j + Q.length = n) := ⟨by rw [List.length_append]; omega, hX2, hX1, by omega⟩
      clear hc hS eL hb hX hXX hX1 hX2 E1 l1 l2 l3 l4 hlen HL HE HS
      go_wp2_with (go_at_call 90; refine HC.out.mono ?_; rintro e w5 ⟨rfl, hs5⟩; have HS5 := Aside0.mk hs5; clear hs5)
      go_roundw
      case rel => exact ⟨P ++ Y, X2, X1, Q, p + j, i - j, j, congrArg (Value.int .i64) E3.out, by first | rfl | go_num, HL2, by omega, by omega, by omega, hj0, HS5, HE2⟩
      case measure => have e3 := E3.out; simp only [intOf, e3]; clear e3; omega
end Go.Proofs.Ythpoeljnmdjjiaa.Srt
end
section
/-
  Sorting, by hand: slices.insertionSortCmpFunc.
-/

namespace Go.Proofs.Ythpoeljnmdjjiaa.Srt
open Go.RowKit Go.Proofs.YthpoeljnmdjjiaaW.PrintWords Go.Proofs.YthpoeljnmdjjiaaW.PrintLast Go.Proofs.YthpoeljnmdjjiaaW.PrintMore
set_option linter.unusedVariables false
set_option linter.unusedSimpArgs false

/-- What is asked of a comparison, in any world of the sort. -/
def CmpOK (w0 : World) (g : Nat) (H : Nat → Hd) (f : Nat) (cb : Array Value) (cf : Nat → Nat → Int) : Prop :=
  ∀ (i j : Nat) (W : World), Below g w0 W → KeepBut w0 W g none → Calls Try.prog f (#[hdr (H i), hdr (H j)] ++ cb) W fun e w' => e = .returned (.int .i64 (cf i j)) ∧ Below W.heap.size W w'
theorem SR.later {w0 w w1 : World} {g : Nat} {H : Nat → Hd} {l : List Nat} (h : SR w0 g H l w) (hb : Below w.heap.size w w1) : SR w0 g H l w1 :=
  ⟨by obtain ⟨L0, T, hl, h0, hb2⟩ := h.blk; exact ⟨L0, T, hl, h0, blk_below hb2 hb⟩, h.below.trans (hb.mono (by have := h.lt; omega)), h.keep.trans (KeepBut.of_below hb g none) (.inl rfl)⟩
theorem SR.drewN {w0 w : World} {g : Nat} {H : Nat → Hd} {l : List Nat} (h : SR w0 g H l w) (m : Nat) : SR w0 g H l (w.drewN m) := ⟨h.blk, ⟨h.below.os, h.below.tape, h.below.output, h.below.size, h.below.block⟩, keep_drewN h.keep m⟩
theorem swl_comm (l : List Nat) {i j : Nat} (h : i ≠ j) : swl l i j = swl l j i := by unfold swl; rw [List.set_comm _ _ h]
theorem wrap_nat {j : Nat} (h : j ≤ 1000000) : IntKind.i64.wrap (j : Int) = (j : Int) := by rw [IntKind.wrap_i64]; omega
/-- An element put into a row from behind, over those that it is ahead of. -/
def insR (lt : Nat → Nat → Bool) (x : Nat) : List Nat → List Nat
  | [] => [x]
  | y :: t => if lt x y = true then y :: insR lt x t else x :: y :: t
def ins (lt : Nat → Nat → Bool) (S : List Nat) (x : Nat) : List Nat := (insR lt x S.reverse).reverse
theorem ins_nil (lt : Nat → Nat → Bool) (x : Nat) : ins lt [] x = [x] := rfl
theorem ins_go (lt : Nat → Nat → Bool) (S : List Nat) (y x : Nat) (h : lt x y = true) : ins lt (S ++ [y]) x = ins lt S x ++ [y] := by
  unfold ins; rw [List.reverse_append, List.reverse_singleton, List.singleton_append, insR, if_pos h, List.reverse_cons]
theorem ins_stop (lt : Nat → Nat → Bool) (S : List Nat) (y x : Nat) (h : lt x y = false) : ins lt (S ++ [y]) x = S ++ [y] ++ [x] := by
  unfold ins; rw [List.reverse_append, List.reverse_singleton, List.singleton_append, insR, if_neg (by simp [h])]; simp
def isort (lt : Nat → Nat → Bool) (S : List Nat) : List Nat → List Nat
  | [] => S
  | x :: t => isort lt (ins lt S x) t
theorem ins_len (lt : Nat → Nat → Bool) (S : List Nat) (x : Nat) : (ins lt S x).length = S.length + 1 := by
  have h : ∀ R : List Nat, (insR lt x R).length = R.length + 1 := by
    intro R
    induction R with
    | nil => rfl
    | cons y t ih => unfold insR; split <;> simp [ih]
  unfold ins; rw [List.length_reverse, h, List.length_reverse]
def ltc (cf : Nat → Nat → Int) (i j : Nat) : Bool := decide (cf i j < 0)

set_option maxHeartbeats 4000000 in
set_option maxRecDepth 100000 in
theorem insertion_calls (H : Nat → Hd) (w0 : World) (g cap : Nat) (f : Nat) (cb : Array Value) (cf : Nat → Nat → Int) (ef : ∀ args w, (callFunc f args).run Try.prog w = .ok (.enter f args) w) (hcmp : CmpOK w0 g H f cb cf)
    (P X Q : List Nat) (n a b : Nat) (w : World) (hn : (P ++ X ++ Q).length = n) (hl : n ≤ 1000000) (ha : a = P.length) (hb : b = P.length + X.length) (hX : 0 < X.length) (h : SR w0 g H (P ++ X ++ Q) w) :
    Calls Try.prog 59 #[.slice (some ⟨g, 0, none⟩) n cap, .int .i64 a, .int .i64 b, .func (.func f) #[] cb] w fun e w' => e = .returned (.tuple #[]) ∧ SR w0 g H (P ++ isort (ltc cf) [] X ++ Q) w' := by
  have hlen : P.length + X.length + Q.length = n := by rw [← hn]; simp only [List.length_append]
  have mixed := follows_mixed
  have HCMP := Aside0.mk hcmp
  have HPL : Aside0 (P.length = a) := ⟨ha.symm⟩
  obtain ⟨x0, X1, hX1⟩ : ∃ x t, X = x :: t := by
    cases X with
    | nil => cases hX
    | cons x t => exact ⟨x, t, rfl⟩
  have HT : Aside0 (isort (ltc cf) [x0] X1 = isort (ltc cf) [] X) := ⟨by rw [hX1]; rfl⟩
  have H0 : Aside0 (SR w0 g H (P ++ [x0] ++ X1 ++ Q) w) := ⟨by rw [hX1] at h; simpa using h⟩
  have hbn : a + 1 ≤ b ∧ b ≤ n := by omega
  have HBL : Aside0 (a + 1 + X1.length = b ∧ b + Q.length = n) := ⟨by rw [hX1, List.length_cons] at hb; rw [hX1, List.length_cons] at hlen; omega⟩
  generalize isort (ltc cf) [] X = T at *
  clear h hn hX hX1 ha hb hlen hcmp
  go_enter Try.func59, Try.ntmps59
  go_wp2
  go_loopw [8] (fun v8 wr => ∃ (S R : List Nat) (i : Nat), v8 = .int .i64 i ∧ a + 1 ≤ i ∧ i ≤ b ∧ Aside0 (a + S.length = i ∧ i + R.length = b) ∧ Aside0 (SR w0 g H (P ++ S ++ R ++ Q) wr) ∧ Aside0 (isort (ltc cf) S R = T)) (fun v8 _ => b - (intOf v8).toNat)
  case atStart => exact ⟨[x0], X1, a + 1, by first | rfl | go_num | (congr 1; omega), Nat.le_refl _, hbn.1, ⟨rfl, HBL.out.1⟩, H0, HT⟩
  case round =>
    clear H0 HT
    obtain ⟨S, R, i, rfl, hai, hib, HL, HS, HT⟩ := hrel
    by_cases hlt : i < b
    · have q1 : decide ((i : Int) < (b : Int)) = true := decide_eq_true (by omega)
      have q2 : decide (i < b) = true := decide_eq_true hlt
      obtain ⟨x, R', hR⟩ : ∃ x t, R = x :: t := by
        have := HL.out.2
        cases R with
        | nil => simp at this; omega
        | cons x t => exact ⟨x, t, rfl⟩
      have HT2 : Aside0 (isort (ltc cf) (ins (ltc cf) S x) R' = T) := ⟨by rw [← HT.out, hR]; rfl⟩
      have HL2 : Aside0 (a + S.length = i ∧ i + 1 + R'.length = b) := ⟨HL.out.1, by have := HL.out.2; rw [hR, List.length_cons] at this; omega⟩
      have HS2 : Aside0 (SR w0 g H (P ++ S ++ [x] ++ [] ++ (R' ++ Q)) wr) := ⟨by have := HS.out; rw [hR] at this; simpa using this⟩
      clear HT HL HS hR
      go_upto_region 4 with (fail)
      obtain ⟨wq, hwq⟩ : ∃ wq : World, wq = wr := ⟨wr, rfl⟩
      subst hwq
      have HI0 : Aside0 (ins (ltc cf) S x ++ [] = ins (ltc cf) S x) := ⟨List.append_nil _⟩
      have hSi : Aside0 (a + S.length = i ∧ i + ([] : List Nat).length = i) := ⟨HL2.out.1, rfl⟩
      go_loopw [9] (fun v9 wr => ∃ (S1 S2 : List Nat) (j : Nat), v9 = .int .i64 j ∧ a ≤ j ∧ j ≤ i ∧ Aside0 (a + S1.length = j ∧ j + S2.length = i) ∧ Aside0 (SR w0 g H (P ++ S1 ++ [x] ++ S2 ++ (R' ++ Q)) wr) ∧ Aside0 (ins (ltc cf) S1 x ++ S2 = ins (ltc cf) S x)) (fun v9 _ => (intOf v9).toNat)
      case atStart => exact ⟨S, [], i, rfl, by omega, Nat.le_refl _, hSi, HS2, HI0⟩
      case round =>
        clear HI0 hSi HS2
        obtain ⟨S1, S2, j, rfl, haj, hji, HJ, HS, HI⟩ := hrel
        rcases Nat.eq_or_lt_of_le haj with hja | hja
        · subst hja
          have q3 : decide ((a : Int) > (a : Int)) = false := decide_eq_false (by omega)
          have q4 : decide ((a : Int) < (a : Int)) = false := decide_eq_false (by omega)
          have hS1 : S1 = [] := List.length_eq_zero_iff.1 (by have := HJ.out.1; omega)
          have HS3 : Aside0 (SR w0 g H (P ++ ins (ltc cf) S x ++ R' ++ Q) wr) := ⟨by have h1 := HS.out; have h2 := HI.out; rw [hS1] at h1 h2; rw [← h2, ins_nil]; simpa using h1⟩
          have HL3 : Aside0 (a + (ins (ltc cf) S x).length = i + 1 ∧ i + 1 + R'.length = b) := ⟨by rw [ins_len]; have := HL2.out.1; omega, HL2.out.2⟩
          clear HS HI HJ HL2 hS1
          go_upto_region 4 with (fail)
          go_quiet (fail)
          go_wp2
          go_roundw
          case rel => exact ⟨ins (ltc cf) S x, R', i + 1, by first | rfl | go_num, by omega, by omega, HL3, ⟨by first | exact HS3.out | exact HS3.out.drew | exact HS3.out.drewN _⟩, HT2⟩
          case measure => simp [intOf]; omega
        · obtain ⟨jp, rfl⟩ : ∃ jp, j = jp + 1 := ⟨j - 1, by omega⟩
          obtain ⟨S3, y, hS3⟩ : ∃ S3 y, S1 = S3 ++ [y] := by
            have hne : S1 ≠ [] := by intro e; have := HJ.out.1; rw [e, List.length_nil] at this; omega
            exact ⟨S1.dropLast, S1.getLast hne, (List.dropLast_concat_getLast hne).symm⟩
          have HJ2 : Aside0 (a + S3.length = jp ∧ jp + 1 + S2.length = i) := ⟨by have := HJ.out; rw [hS3, List.length_append, List.length_singleton] at this; omega⟩
          have HS4 : Aside0 (SR w0 g H (P ++ S3 ++ y :: ([] ++ x :: (S2 ++ (R' ++ Q)))) wr) := ⟨by have := HS.out; rw [hS3] at this; simpa using this⟩
          have hl1 : (P ++ S3).length = jp := by rw [List.length_append, HPL.out]; exact HJ2.out.1
          have hin : jp + 1 < (P ++ S3 ++ y :: ([] ++ x :: (S2 ++ (R' ++ Q)))).length := by rw [List.length_append, hl1]; simp
          have gy : (P ++ S3 ++ y :: ([] ++ x :: (S2 ++ (R' ++ Q)))).getD jp 0 = y := by rw [← hl1]; exact getD_mid _ _ _
          have gx : (P ++ S3 ++ y :: ([] ++ x :: (S2 ++ (R' ++ Q)))).getD (jp + 1) 0 = x := by
            have e : P ++ S3 ++ y :: ([] ++ x :: (S2 ++ (R' ++ Q))) = (P ++ S3 ++ [y]) ++ x :: (S2 ++ (R' ++ Q)) := by simp
            have l : (P ++ S3 ++ [y]).length = jp + 1 := by rw [List.length_append, hl1]; rfl
            rw [e, ← l]; exact getD_mid _ _ _
          have hsw : swl (P ++ S3 ++ y :: ([] ++ x :: (S2 ++ (R' ++ Q)))) jp (jp + 1) = P ++ S3 ++ x :: ([] ++ y :: (S2 ++ (R' ++ Q))) := by
            have := swl_mid (P ++ S3) y [] x (S2 ++ (R' ++ Q))
            rwa [hl1] at this
          obtain ⟨x1, x2, x3, hHx⟩ : ∃ a b c, H x = (a, b, c) := ⟨_, _, _, rfl⟩
          obtain ⟨y1, y2, y3, hHy⟩ : ∃ a b c, H y = (a, b, c) := ⟨_, _, _, rfl⟩
          have hfacts : ∀ w1, Below wr.heap.size wr w1 → SR w0 g H (P ++ S3 ++ y :: ([] ++ x :: (S2 ++ (R' ++ Q)))) w1 ∧ w1.cell? ⟨g, jp + 1, none⟩ = some (.slice x1 x2 x3) ∧ w1.cell? ⟨g, jp, none⟩ = some (.slice y1 y2 y3) := fun w1 hb => by
            have h1 := HS4.out.later hb
            have c1 := h1.cell (jp + 1) hin
            have c2 := h1.cell jp (by omega)
            rw [gx, hHx] at c1
            rw [gy, hHy] at c2
            exact ⟨h1, c1, c2⟩
          have HF := Aside0.mk hfacts
          have HC : Aside0 (∀ w1, Below wr.heap.size wr w1 → Calls Try.prog f (#[.slice x1 x2 x3, .slice y1 y2 y3] ++ cb) w1 fun e w' => e = .returned (.int .i64 (cf x y)) ∧ Below w1.heap.size w1 w') := ⟨fun w1 hb => by
            have h1 := (hfacts w1 hb).1
            have := HCMP.out x y w1 h1.below h1.keep
            simpa only [hHx, hHy, hdr] using this⟩
          have HSW : Aside0 (∀ w1, Below wr.heap.size wr w1 → SR w0 g H (P ++ S3 ++ [x] ++ (y :: S2) ++ (R' ++ Q)) ((w1.setCell ⟨g, jp + 1, none⟩ (.slice y1 y2 y3)).setCell ⟨g, jp, none⟩ (.slice x1 x2 x3)).drew) := ⟨fun w1 hb => by
            have h1 := ((hfacts w1 hb).1.swap (jp + 1) jp hin (by omega)).drew
            rw [gx, gy, hHx, hHy, swl_comm _ (by omega), hsw] at h1
            simpa [hdr] using h1⟩
          have q3 : decide ((jp : Int) + 1 > (a : Int)) = true := decide_eq_true (by omega)
          have q4 : decide ((a : Int) < (jp : Int) + 1) = true := decide_eq_true (by omega)
          have hjn : jp + 1 < n := by omega
          have p1 : (0 ≤ (jp : Int) + 1) = True := eq_true (by omega)
          have p2 : ((jp : Int) + 1 < (n : Int)) = True := eq_true (by omega)
          have p3 : (0 ≤ (jp : Int)) = True := eq_true (by omega)
          have p4 : ((jp : Int) < (n : Int)) = True := eq_true (by omega)
          have p7 : IntKind.i64.wrap (jp : Int) = (jp : Int) := wrap_nat (by omega)
          have p5 : (jp + 1 < n) = True := eq_true (by omega)
          have p6 : (jp < n) = True := eq_true (by omega)
          have HIN := Aside0.mk hin
          clear hl1 hin gy gx hsw hfacts HS4 HS HJ
          have HD := Aside0.mk (below_drew (Below.refl wr.heap.size wr))
          go_upto_region 4 with (fail)
          refine start_ (n := 17) (S := fun w' => (w'.cell? ⟨g, jp + 1, none⟩ = some (.slice x1 x2 x3) ∧ w'.cell? ⟨g, jp, none⟩ = some (.slice y1 y2 y3))) (ds := []) #[false, false, false, false, false, false, false, false, false, false, false, false, false, false, false, false, false] (by kernel_rfl) rfl rfl ((HF.out wr.drew HD.out).2) (fun hHeld => ?_)
          refine pure_ (i := 0) (N := some 18) (v := ?_) (a' := ?_) #[true, false, false, false, false, false, false, false, false, false, false, false, false, false, false, false, false] rfl rfl (by kernel_rfl) (fun _ _ _ h => h) (Or.inl ⟨by rfl, ?_⟩) ?_ ?_
          rotate_left
          · intro w'
            go_simp
            with_reducible rfl
          rotate_left
          · simp only [Act.put, List.setIfInBounds_toArray, List.set_cons_zero, List.set_cons_succ]
            rfl
          refine pure_ (i := 1) (N := some 19) (v := ?_) (a' := ?_) #[true, true, false, false, false, false, false, false, false, false, false, false, false, false, false, false, false] rfl rfl (by kernel_rfl) (fun _ _ _ h => h) (Or.inl ⟨by rfl, ?_⟩) ?_ ?_
          rotate_left
          · intro w'
            go_simp
            with_reducible rfl
          rotate_left
          · simp only [Act.put, List.setIfInBounds_toArray, List.set_cons_zero, List.set_cons_succ]
            rfl
          refine pure_ (i := 2) (N := some 20) (v := ?_) (a' := ?_) #[true, true, true, false, false, false, false, false, false, false, false, false, false, false, false, false, false] rfl rfl (by kernel_rfl) (fun _ _ _ h => h) (Or.inl ⟨by rfl, ?_⟩) ?_ ?_
          rotate_left
          · intro w'
            go_simp
            with_reducible rfl
          rotate_left
          · simp only [Act.put, List.setIfInBounds_toArray, List.set_cons_zero, List.set_cons_succ]
            rfl
          refine pure_ (i := 3) (N := some 21) (v := ?_) (a' := ?_) #[true, true, true, true, false, false, false, false, false, false, false, false, false, false, false, false, false] rfl rfl (by kernel_rfl) (fun _ _ _ h => h) (Or.inl ⟨by rfl, ?_⟩) ?_ ?_
          rotate_left
          · intro w'
            go_simp
            with_reducible rfl
          rotate_left
          · simp only [Act.put, List.setIfInBounds_toArray, List.set_cons_zero, List.set_cons_succ]
            rfl
          refine pure_ (i := 4) (N := some 22) (v := ?_) (a' := ?_) #[true, true, true, true, true, false, false, false, false, false, false, false, false, false, false, false, false] rfl rfl (by kernel_rfl) (fun _ _ _ h => h) (Or.inl ⟨by rfl, ?_⟩) ?_ ?_
          rotate_left
          · intro w'
            go_simp
            with_reducible rfl
          rotate_left
          · simp only [Act.put, List.setIfInBounds_toArray, List.set_cons_zero, List.set_cons_succ]
            rfl
          refine pure_ (i := 5) (N := some 23) (v := ?_) (a' := ?_) #[true, true, true, true, true, true, false, false, false, false, false, false, false, false, false, false, false] rfl rfl (by kernel_rfl) (fun _ _ _ h => h) (Or.inl ⟨by rfl, ?_⟩) ?_ ?_
          rotate_left
          · intro w'
            go_simp
            with_reducible rfl
          rotate_left
          · simp only [Act.put, List.setIfInBounds_toArray, List.set_cons_zero, List.set_cons_succ]
            rfl
          refine pure_ (i := 6) (N := some 24) (v := ?_) (a' := ?_) #[true, true, true, true, true, true, true, false, false, false, false, false, false, false, false, false, false] rfl rfl (by kernel_rfl) (fun _ _ _ h => h) (Or.inl ⟨by rfl, ?_⟩) ?_ ?_
          rotate_left
          · intro w'
            go_simp
            with_reducible rfl
          rotate_left
          · simp only [Act.put, List.setIfInBounds_toArray, List.set_cons_zero, List.set_cons_succ]
            rfl
          refine pure_ (i := 7) (N := some 25) (v := ?_) (a' := ?_) #[true, true, true, true, true, true, true, true, false, false, false, false, false, false, false, false, false] rfl rfl (by kernel_rfl) (fun _ _ _ h => h) (Or.inl ⟨by rfl, ?_⟩) ?_ ?_
          rotate_left
          · intro w'
            go_simp
            with_reducible rfl
          rotate_left
          · simp only [Act.put, List.setIfInBounds_toArray, List.set_cons_zero, List.set_cons_succ]
            rfl
          refine take_ (i := 8) (N := some 26) (v := ?_) (a' := ?_) #[true, true, true, true, true, true, true, true, true, false, false, false, false, false, false, false, false] rfl rfl (by kernel_rfl) (fun _ _ _ h => h) (Or.inl ⟨by rfl, ?_⟩) hHeld ?_ ?_
          rotate_left
          · rintro w' ⟨s0, s1⟩
            go_simp
            with_reducible rfl
          rotate_left
          · simp only [Act.put, List.setIfInBounds_toArray, List.set_cons_zero, List.set_cons_succ]
            rfl
          refine pure_ (i := 9) (N := some 27) (v := ?_) (a' := ?_) #[true, true, true, true, true, true, true, true, true, true, false, false, false, false, false, false, false] rfl rfl (by kernel_rfl) (fun _ _ _ h => h) (Or.inl ⟨by rfl, ?_⟩) ?_ ?_
          rotate_left
          · intro w'
            go_simp
            with_reducible rfl
          rotate_left
          · simp only [Act.put, List.setIfInBounds_toArray, List.set_cons_zero, List.set_cons_succ]
            rfl
          refine pure_ (i := 10) (N := some 28) (v := ?_) (a' := ?_) #[true, true, true, true, true, true, true, true, true, true, true, false, false, false, false, false, false] rfl rfl (by kernel_rfl) (fun _ _ _ h => h) (Or.inl ⟨by rfl, ?_⟩) ?_ ?_
          rotate_left
          · intro w'
            go_simp
            with_reducible rfl
          rotate_left
          · simp only [Act.put, List.setIfInBounds_toArray, List.set_cons_zero, List.set_cons_succ]
            rfl
          refine pure_ (i := 11) (N := some 29) (v := ?_) (a' := ?_) #[true, true, true, true, true, true, true, true, true, true, true, true, false, false, false, false, false] rfl rfl (by kernel_rfl) (fun _ _ _ h => h) (Or.inl ⟨by rfl, ?_⟩) ?_ ?_
          rotate_left
          · intro w'
            go_simp
            with_reducible rfl
          rotate_left
          · simp only [Act.put, List.setIfInBounds_toArray, List.set_cons_zero, List.set_cons_succ]
            rfl
          refine pure_ (i := 12) (N := some 30) (v := ?_) (a' := ?_) #[true, true, true, true, true, true, true, true, true, true, true, true, true, false, false, false, false] rfl rfl (by kernel_rfl) (fun _ _ _ h => h) (Or.inl ⟨by rfl, ?_⟩) ?_ ?_
          rotate_left
          · intro w'
            go_simp
            with_reducible rfl
          rotate_left
          · simp only [Act.put, List.setIfInBounds_toArray, List.set_cons_zero, List.set_cons_succ]
            rfl
          refine take_ (i := 13) (N := some 31) (v := ?_) (a' := ?_) #[true, true, true, true, true, true, true, true, true, true, true, true, true, true, false, false, false] rfl rfl (by kernel_rfl) (fun _ _ _ h => h) (Or.inl ⟨by rfl, ?_⟩) hHeld ?_ ?_
          rotate_left
          · rintro w' ⟨s0, s1⟩
            go_simp
            with_reducible rfl
          rotate_left
          · simp only [Act.put, List.setIfInBounds_toArray, List.set_cons_zero, List.set_cons_succ]
            rfl
          refine one_ (i := 14) (N := some 32) #[true, true, true, true, true, true, true, true, true, true, true, true, true, true, true, false, false] rfl rfl (by kernel_rfl) (by decide) (fun K hK => ?_)
          refine call_ f (#[.slice x1 x2 x3, .slice y1 y2 y3] ++ cb) (by rfl) rfl ?hrun ?_
          case hrun => have he := ef; unfold execOp; simp [resolve, Deferred.ofValue, invoke, Act.eval, he]
          (with_reducible refine (HC.out _ HD.out).mono ?_)
          rintro e w4 ⟨rfl, hb4⟩
          have HB4 := Aside0.mk hb4
          clear hb4
          refine ⟨_, rfl, ?_⟩
          refine hK.out _ _ (HF.out w4 (HD.out.trans (HB4.out.mono (Nat.le_refl _)))).2 (fun hHeld => ?_)
          clear hK K
          refine norm_ (a' := ?_) ?_ ?_
          rotate_left
          · show Act.put _ (some 32) _ = _
            simp only [Act.put, List.setIfInBounds_toArray, List.set_cons_zero, List.set_cons_succ]
            rfl
          refine pure_ (i := 15) (N := some 33) (v := ?_) (a' := ?_) #[true, true, true, true, true, true, true, true, true, true, true, true, true, true, true, true, false] rfl rfl (by kernel_rfl) (fun _ _ _ h => h) (Or.inl ⟨by rfl, ?_⟩) ?_ ?_
          rotate_left
          · intro w'
            go_simp
            with_reducible rfl
          rotate_left
          · simp only [Act.put, List.setIfInBounds_toArray, List.set_cons_zero, List.set_cons_succ]
            rfl
          refine pure_ (i := 16) (N := some 34) (v := ?_) (a' := ?_) #[true, true, true, true, true, true, true, true, true, true, true, true, true, true, true, true, true] rfl rfl (by kernel_rfl) (fun _ _ _ h => h) (Or.inl ⟨by rfl, ?_⟩) ?_ ?_
          rotate_left
          · intro w'
            go_simp
            with_reducible rfl
          rotate_left
          · simp only [Act.put, List.setIfInBounds_toArray, List.set_cons_zero, List.set_cons_succ]
            rfl
          refine done_ (by kernel_rfl) ?_
          have HD4 : Aside0 (Below wr.heap.size wr w4) := ⟨HD.out.trans (HB4.out.mono (Nat.le_refl _))⟩
          clear HB4 HD HC hHeld
          by_cases hlt2 : cf x y < 0
          · have q5 : decide (cf x y < 0) = true := decide_eq_true hlt2
            have HI2 : Aside0 (ins (ltc cf) S3 x ++ y :: S2 = ins (ltc cf) S x) := ⟨by rw [← HI.out, hS3, ins_go _ _ _ _ (by unfold ltc; exact decide_eq_true hlt2)]; simp⟩
            have HJ3 : Aside0 (a + S3.length = jp ∧ jp + (y :: S2).length = i) := ⟨HJ2.out.1, by have := HJ2.out.2; rw [List.length_cons]; omega⟩
            obtain ⟨hs4, ca, cb2⟩ := HF.out w4 HD4.out
            have fa := hs4.frozen (jp + 1)
            have fb := hs4.frozen jp
            obtain ⟨u, cu⟩ := hs4.behind (jp + 1) jp (Nat.lt_of_succ_lt HIN.out) (.slice y1 y2 y3)
            have HS5 := Aside0.mk (HSW.out w4 HD4.out)
            clear hs4 HF HSW HD4 HJ2 HI
            rw [q5]
            have q6 : (cf x y < 0) = True := eq_true hlt2
            clear hlt2
            go_wp2_with fail
            go_big_region_o
            clear ca cb2 fa fb cu
            generalize ((w4.setCell ⟨g, jp + 1, none⟩ (.slice y1 y2 y3)).setCell ⟨g, jp, none⟩ (.slice x1 x2 x3)).drew = w5 at HS5 ⊢
            go_wp2
            go_roundw
            case rel => exact ⟨S3, y :: S2, jp, by first | rfl | go_num, by omega, by omega, HJ3, HS5, HI2⟩
            case measure => simp [intOf]
          · have q5 : decide (cf x y < 0) = false := decide_eq_false hlt2
            have hin2 : ins (ltc cf) S x = S3 ++ [y] ++ [x] ++ S2 := by rw [← HI.out, hS3, ins_stop _ _ _ _ (by unfold ltc; exact decide_eq_false hlt2)]
            have HS6 : Aside0 (SR w0 g H (P ++ ins (ltc cf) S x ++ R' ++ Q) w4) := ⟨by have := (HF.out w4 HD4.out).1; rw [hin2]; simpa using this⟩
            have HL3 : Aside0 (a + (ins (ltc cf) S x).length = i + 1 ∧ i + 1 + R'.length = b) := ⟨by rw [ins_len]; have := HL2.out.1; omega, HL2.out.2⟩
            clear HF HSW HD4 HJ2 HI hin2 HL2
            rw [q5]
            have q6 : (cf x y < 0) = False := eq_false hlt2
            clear hlt2
            go_wp2
            go_roundw
            case rel => exact ⟨ins (ltc cf) S x, R', i + 1, by first | rfl | go_num, by omega, by omega, HL3, HS6, HT2⟩
            case measure => simp [intOf]; omega
    · have q1 : decide ((i : Int) < (b : Int)) = false := decide_eq_false (by omega)
      have q2 : decide (i < b) = false := decide_eq_false hlt
      have hR : R = [] := List.length_eq_zero_iff.1 (by have := HL.out.2; omega)
      have HE : Aside0 (SR w0 g H (P ++ T ++ Q) wr) := ⟨by have h1 := HS.out; have h2 := HT.out; rw [hR] at h1 h2; rw [← h2]; simpa [isort] using h1⟩
      clear HS HT HL hR
      go_wp2
      go_end0
      exact ⟨rfl, HE.out⟩
end Go.Proofs.Ythpoeljnmdjjiaa.Srt
end
section
/-
  Sorting, plain: places in order, by a comparison and, where it tells nothing, by the place itself; rows that are put together.
-/
namespace Go.Proofs.Ythpoeljnmdjjiaa.Srt
set_option linter.unusedVariables false
set_option linter.unusedSimpArgs false

/-- A comparison that is an order of its elements, some of which may be alike. -/
structure Cf (cf : Nat → Nat → Int) : Prop where
  anti : ∀ i j, cf j i = - cf i j
  trans : ∀ i j k, cf i j ≤ 0 → cf j k ≤ 0 → cf i k ≤ 0
/-- Ahead: by the comparison; of two that are alike the one of the lesser place. -/
def Ah (cf : Nat → Nat → Int) (i j : Nat) : Prop := cf i j < 0 ∨ (cf i j = 0 ∧ i < j)
variable {cf : Nat → Nat → Int}
theorem Ah.le {i j : Nat} (h : Ah cf i j) : cf i j ≤ 0 := by rcases h with h | ⟨h, _⟩ <;> omega
theorem Ah.trans (C : Cf cf) {i j k : Nat} (h1 : Ah cf i j) (h2 : Ah cf j k) : Ah cf i k := by
  have h := C.trans i j k h1.le h2.le
  rcases Int.lt_or_eq_of_le h with h | h
  · exact .inl h
  · right
    have a1 := C.trans k i j (by rw [C.anti]; omega) h1.le
    have a2 := C.trans j k i h2.le (by rw [C.anti]; omega)
    have b1 : cf j k = 0 := by have := C.anti j k; have := h2.le; omega
    have b2 : cf i j = 0 := by have := C.anti i j; have := h1.le; omega
    rcases h1 with h1 | ⟨_, h1⟩
    · omega
    · rcases h2 with h2 | ⟨_, h2⟩
      · omega
      · exact ⟨h, by omega⟩
theorem Ah.irrefl (C : Cf cf) (i : Nat) : ¬ Ah cf i i := by
  have := C.anti i i
  rintro (h | ⟨_, h⟩) <;> omega
theorem Ah.asymm (C : Cf cf) {i j : Nat} (h : Ah cf i j) : ¬ Ah cf j i := fun h2 => Ah.irrefl C i (h.trans C h2)
theorem Ah.total (C : Cf cf) {i j : Nat} (h : i ≠ j) : Ah cf i j ∨ Ah cf j i := by
  have := C.anti i j
  unfold Ah
  omega
/-- What the code asks: is a right one (of a greater place) ahead of a left one? -/
theorem ahead_right (C : Cf cf) {i j : Nat} (h : i < j) : ltc cf j i = true ↔ Ah cf j i := by
  unfold ltc Ah
  rw [decide_eq_true_eq]
  omega
theorem not_ahead_right (C : Cf cf) {i j : Nat} (h : i < j) : ltc cf j i = false ↔ Ah cf i j := by
  have := C.anti i j
  unfold ltc Ah
  rw [decide_eq_false_iff_not]
  omega
/-- In order. -/
def Srd (cf : Nat → Nat → Int) (l : List Nat) : Prop := l.Pairwise (Ah cf)
theorem Srd.unique (C : Cf cf) : ∀ {l m : List Nat}, Srd cf l → Srd cf m → l.Perm m → l = m
  | [], m, _, _, hp => (List.Perm.nil_eq hp)
  | x :: l, [], _, _, hp => by have := hp.length_eq; simp at this
  | x :: l, y :: m, h1, h2, hp => by
    obtain ⟨a1, a2⟩ := List.pairwise_cons.1 h1
    obtain ⟨b1, b2⟩ := List.pairwise_cons.1 h2
    have hxy : x = y := by
      rcases List.mem_cons.1 (hp.mem_iff.1 (List.mem_cons_self ..) : x ∈ y :: m) with e | hx
      · exact e
      · rcases List.mem_cons.1 (hp.mem_iff.2 (List.mem_cons_self ..) : y ∈ x :: l) with e | hy
        · exact e.symm
        · exact absurd (b1 x hx) (Ah.asymm C (a1 y hy))
    subst hxy
    rw [Srd.unique C a2 b2 ((List.perm_cons x).1 hp)]
/-- Two rows in order, the second behind the first in its places: what a merge of them is asked to be. -/
def Mrg (cf : Nat → Nat → Int) (X Y Z : List Nat) : Prop := Z.Perm (X ++ Y) ∧ Srd cf Z
theorem Mrg.parts {X1 X2 Y1 Y2 Z1 Z2 : List Nat} (h1 : Mrg cf X1 Y1 Z1) (h2 : Mrg cf X2 Y2 Z2) (hx : ∀ x ∈ X1 ++ Y1, ∀ y ∈ X2 ++ Y2, Ah cf x y) : Mrg cf (X1 ++ X2) (Y1 ++ Y2) (Z1 ++ Z2) := by
  refine ⟨?_, List.pairwise_append.2 ⟨h1.2, h2.2, fun x hxz y hyz => hx x (h1.1.mem_iff.1 hxz) y (h2.1.mem_iff.1 hyz)⟩⟩
  refine (h1.1.append h2.1).trans ?_
  have e : X1 ++ Y1 ++ (X2 ++ Y2) = X1 ++ (Y1 ++ X2) ++ Y2 := by simp only [List.append_assoc]
  have e2 : X1 ++ X2 ++ (Y1 ++ Y2) = X1 ++ (X2 ++ Y1) ++ Y2 := by simp only [List.append_assoc]
  rw [e, e2]
  exact (List.perm_append_comm.append_left X1).append_right Y2
theorem Mrg.nil_left {Y : List Nat} (h : Srd cf Y) : Mrg cf [] Y Y := ⟨List.Perm.refl _, h⟩
theorem Mrg.nil_right {X : List Nat} (h : Srd cf X) : Mrg cf X [] X := ⟨by rw [List.append_nil], h⟩
/-! ## The insertion sort of a row that stands in its places -/
theorem ins_perm (lt : Nat → Nat → Bool) (S : List Nat) (x : Nat) : (ins lt S x).Perm (S ++ [x]) := by
  have h : ∀ R : List Nat, (insR lt x R).Perm (x :: R) := by
    intro R
    induction R with
    | nil => exact List.Perm.refl _
    | cons y t ih =>
      unfold insR
      split
      · exact (ih.cons y).trans (List.Perm.swap _ _ _)
      · exact List.Perm.refl _
  unfold ins
  refine (List.reverse_perm _).trans ((h _).trans ?_)
  exact ((List.reverse_perm S).cons x).trans (List.perm_append_comm (l₁ := [x]) (l₂ := S))
theorem ins_srd (C : Cf cf) (x : Nat) : ∀ S : List Nat, Srd cf S → (∀ y ∈ S, y < x) → Srd cf (ins (ltc cf) S x) := by
  have h : ∀ R : List Nat, R.Pairwise (fun a b => Ah cf b a) → (∀ y ∈ R, y < x) → (insR (ltc cf) x R).Pairwise (fun a b => Ah cf b a) := by
    intro R
    induction R with
    | nil => intro _ _; simp [insR]
    | cons y t ih =>
      intro h1 h2
      obtain ⟨a1, a2⟩ := List.pairwise_cons.1 h1
      have hyx := h2 y (List.mem_cons_self ..)
      unfold insR
      split
      · rename_i hl
        refine List.pairwise_cons.2 ⟨fun z hz => ?_, ih a2 (fun z hz => h2 z (List.mem_cons_of_mem _ hz))⟩
        have hz2 : z ∈ x :: t := by
          have hp : ∀ R : List Nat, ∀ z, z ∈ insR (ltc cf) x R → z ∈ x :: R := by
            intro R
            induction R with
            | nil => intro z hz; exact hz
            | cons w r ih2 =>
              intro z hz
              unfold insR at hz
              split at hz
              · rcases List.mem_cons.1 hz with rfl | hz
                · simp
                · have := ih2 z hz
                  simp at this ⊢
                  rcases this with h | h <;> simp [h]
              · exact hz
          exact hp t z hz
        rcases List.mem_cons.1 hz2 with rfl | hz3
        · exact (ahead_right C hyx).1 hl
        · exact a1 z hz3
      · rename_i hl
        have hxy := (not_ahead_right C hyx).1 (Bool.eq_false_iff.2 hl)
        exact List.pairwise_cons.2 ⟨fun z hz => by
          rcases List.mem_cons.1 hz with rfl | hz
          · exact hxy
          · exact (a1 z hz).trans C hxy, h1⟩
  intro S hS hx
  unfold ins Srd
  rw [List.pairwise_reverse]
  exact h S.reverse (by rw [List.pairwise_reverse]; exact hS) (fun y hy => hx y (List.mem_reverse.1 hy))
theorem isort_srd (C : Cf cf) : ∀ (X S : List Nat), Srd cf S → X.Pairwise (· < ·) → (∀ s ∈ S, ∀ x ∈ X, s < x) → Srd cf (isort (ltc cf) S X) ∧ (isort (ltc cf) S X).Perm (S ++ X)
  | [], S, hS, _, _ => ⟨hS, by unfold isort; rw [List.append_nil]⟩
  | x :: t, S, hS, hX, hx => by
    obtain ⟨a1, a2⟩ := List.pairwise_cons.1 hX
    have hp := ins_perm (ltc cf) S x
    obtain ⟨b1, b2⟩ := isort_srd C t (ins (ltc cf) S x) (ins_srd C x S hS (fun y hy => hx y hy x (List.mem_cons_self ..))) a2 (fun s hs z hz => by
      rcases List.mem_append.1 (hp.mem_iff.1 hs) with h | h
      · exact hx s h z (List.mem_cons_of_mem _ hz)
      · rw [List.mem_singleton.1 h]; exact a1 z hz)
    unfold isort
    refine ⟨b1, b2.trans ?_⟩
    have := hp.append_right t
    simpa using this
end Go.Proofs.Ythpoeljnmdjjiaa.Srt
end
section
/-
  Sorting, by hand: slices.symMergeCmpFunc with one element on the left.
-/
namespace Go.Proofs.Ythpoeljnmdjjiaa.Srt
open Go.RowKit Go.Proofs.YthpoeljnmdjjiaaW.PrintWords Go.Proofs.YthpoeljnmdjjiaaW.PrintLast Go.Proofs.YthpoeljnmdjjiaaW.PrintMore
set_option linter.unusedVariables false
set_option linter.unusedSimpArgs false
variable {cf : Nat → Nat → Int}

theorem getD_Y (P : List Nat) (x : Nat) (Y Q : List Nat) (a c : Nat) (ha : P.length = a) (hc : c < Y.length) : (P ++ [x] ++ Y ++ Q).getD (a + 1 + c) 0 = Y.getD c 0 := by
  have l1 : (P ++ [x]).length = a + 1 := by rw [List.length_append, ha]; rfl
  rw [List.getD_eq_getElem?_getD, List.getD_eq_getElem?_getD, List.getElem?_append_left (by rw [List.length_append, l1]; omega), List.getElem?_append_right (by omega), l1, Nat.add_sub_cancel_left]
theorem srd_at {Y : List Nat} (hs : Srd cf Y) {c : Nat} (hc : c < Y.length) : (∀ d, d < c → Ah cf (Y.getD d 0) (Y.getD c 0)) ∧ (∀ d, c < d → d < Y.length → Ah cf (Y.getD c 0) (Y.getD d 0)):= by
  have g : ∀ i, (hi : i < Y.length) → Y.getD i 0 = Y[i] := fun i hi => by rw [List.getD_eq_getElem?_getD, List.getElem?_eq_getElem hi]; rfl
  refine ⟨fun d hd => ?_, fun d hd hdl => ?_⟩
  · rw [g d (by omega), g c hc]; exact List.pairwise_iff_getElem.1 hs d c (by omega) hc hd
  · rw [g d hdl, g c hc]; exact List.pairwise_iff_getElem.1 hs c d hc hdl hd

/-- One element put into a row that is in order. -/
theorem mrg_one {x : Nat} {Y : List Nat} (hs : Srd cf Y) (t : Nat) (ht : t ≤ Y.length) (h1 : ∀ c, c < Y.length → c < t → Ah cf (Y.getD c 0) x) (h2 : ∀ c, c < Y.length → t ≤ c → Ah cf x (Y.getD c 0)) : Mrg cf [x] Y (Y.take t ++ x :: Y.drop t) := by
  have g : ∀ i, (hi : i < Y.length) → Y.getD i 0 = Y[i] := fun i hi => by rw [List.getD_eq_getElem?_getD, List.getElem?_eq_getElem hi]; rfl
  have ha : ∀ y ∈ Y.take t, Ah cf y x := fun y hy => by
    obtain ⟨i, hi, e⟩ := List.mem_iff_getElem.1 hy
    rw [List.length_take] at hi
    rw [List.getElem_take] at e
    have := h1 i (by omega) (by omega)
    rw [g i (by omega), e] at this
    exact this
  have hb : ∀ y ∈ Y.drop t, Ah cf x y := fun y hy => by
    obtain ⟨i, hi, e⟩ := List.mem_iff_getElem.1 hy
    rw [List.length_drop] at hi
    rw [List.getElem_drop] at e
    have := h2 (t + i) (by omega) (by omega)
    rw [g (t + i) (by omega), e] at this
    exact this
  have hp : Srd cf (Y.take t ++ Y.drop t) := by rw [List.take_append_drop]; exact hs
  obtain ⟨p1, p2, p3⟩ := List.pairwise_append.1 hp
  refine ⟨?_, List.pairwise_append.2 ⟨p1, List.pairwise_cons.2 ⟨hb, p2⟩, fun y hy z hz => ?_⟩⟩
  · have := (List.perm_middle (a := x) (l₁ := Y.take t) (l₂ := Y.drop t))
    rw [List.take_append_drop] at this
    exact this
  · rcases List.mem_cons.1 hz with rfl | hz
    · exact ha y hy
    · exact p3 y hy z hz

set_option maxHeartbeats 1000000 in
set_option maxRecDepth 100000 in
theorem symMerge_left (C : Cf cf) (H : Nat → Hd) (w0 : World) (g cap : Nat) (f : Nat) (cb : Array Value) (ef : ∀ args w, (callFunc f args).run Try.prog w = .ok (.enter f args) w) (hcmp : CmpOK w0 g H f cb cf)
    (P : List Nat) (x : Nat) (Y Q : List Nat) (n a m b : Nat) (w : World) (hn : (P ++ [x] ++ Y ++ Q).length = n) (hl : n ≤ 1000000) (ha : a = P.length) (hm : m = P.length + 1) (hb : b = P.length + 1 + Y.length) (hY : 0 < Y.length) (hs : Srd cf Y) (hx : ∀ y ∈ Y, x < y)
    (h : SR w0 g H (P ++ [x] ++ Y ++ Q) w) :
    Calls Try.prog 60 #[.slice (some ⟨g, 0, none⟩) n cap, .int .i64 a, .int .i64 m, .int .i64 b, .func (.func f) #[] cb] w fun e w' => e = .returned (.tuple #[]) ∧ ∃ Z, Mrg cf [x] Y Z ∧ SR w0 g H (P ++ Z ++ Q) w' := by
  have hlen : P.length + 1 + Y.length + Q.length = n := by rw [← hn]; simp only [List.length_append, List.length_singleton]
  have hma : m = a + 1 := by omega
  have hbn : a + 1 < b ∧ b ≤ n := by omega
  have HPL : Aside0 (P.length = a) := ⟨ha.symm⟩
  have HBL : Aside0 (a + 1 + Y.length = b) := ⟨by omega⟩
  have H0 := Aside0.mk h
  have HCMP := Aside0.mk hcmp
  have mixed := follows_mixed
  have q1 : ((a : Int) + 1 - (a : Int) == 1) = true := by rw [beq_iff_eq]; omega
  clear h hn hcmp hlen hb
  subst hma
  clear hm ha
  have HI0 : Aside0 (∀ c, c < Y.length → a + 1 + c < a + 1 → Ah cf (Y.getD c 0) x) := ⟨fun c _ h => by omega⟩
  have HJ0 : Aside0 (∀ c, c < Y.length → b ≤ a + 1 + c → Ah cf x (Y.getD c 0)) := ⟨fun c hc h => by have := HBL.out; omega⟩
  go_enter Try.func60, Try.ntmps60
  go_wp2
  go_loopw [10, 11] (fun v10 v11 wr => ∃ (i j : Nat), v10 = .int .i64 i ∧ v11 = .int .i64 j ∧ a + 1 ≤ i ∧ i ≤ j ∧ j ≤ b ∧ Aside0 (SR w0 g H (P ++ [x] ++ Y ++ Q) wr) ∧ Aside0 (∀ c, c < Y.length → a + 1 + c < i → Ah cf (Y.getD c 0) x) ∧ Aside0 (∀ c, c < Y.length → j ≤ a + 1 + c → Ah cf x (Y.getD c 0))) (fun v10 v11 _ => (intOf v11).toNat - (intOf v10).toNat)
  case atStart => exact ⟨a + 1, b, rfl, rfl, Nat.le_refl _, by omega, Nat.le_refl _, H0, HI0, HJ0⟩
  case round =>
    clear H0 HI0 HJ0
    obtain ⟨i, j, rfl, rfl, hai, hij, hjb, HS, HI, HJ⟩ := hrel
    by_cases hlt : i < j
    · have q2 : decide ((i : Int) < (j : Int)) = true := decide_eq_true (by omega)
      have q3 : decide (i < j) = true := decide_eq_true hlt
      obtain ⟨h, hh⟩ : ∃ h : Nat, ((i : Int) + (j : Int)) / 2 = (h : Int) := ⟨(i + j) / 2, by omega⟩
      have hih : i ≤ h ∧ h < j := by omega
      obtain ⟨c, hc⟩ : ∃ c, h = a + 1 + c := ⟨h - (a + 1), by omega⟩
      have hcY : c < Y.length := by have := HBL.out; omega
      have gy : (P ++ [x] ++ Y ++ Q).getD h 0 = Y.getD c 0 := by rw [hc]; exact getD_Y P x Y Q a c HPL.out hcY
      have gx : (P ++ [x] ++ Y ++ Q).getD a 0 = x := by
        have e : P ++ [x] ++ Y ++ Q = P ++ x :: (Y ++ Q) := by simp
        rw [e, ← HPL.out]; exact getD_mid _ _ _
      have hyx : x < Y.getD c 0 := hx _ (by rw [List.getD_eq_getElem?_getD, List.getElem?_eq_getElem hcY]; exact List.getElem_mem _)
      have hlen2 : h < (P ++ [x] ++ Y ++ Q).length ∧ a < (P ++ [x] ++ Y ++ Q).length := by
        have e1 := HPL.out
        simp only [List.length_append, List.length_singleton]
        omega
      have hYs := srd_at hs hcY
      obtain ⟨y, hyc⟩ : ∃ y, Y.getD c 0 = y := ⟨_, rfl⟩
      have HYC := Aside0.mk hyc
      rw [hyc] at gy hyx hYs
      clear hyc
      obtain ⟨x1, x2, x3, hHx⟩ : ∃ a b c, H x = (a, b, c) := ⟨_, _, _, rfl⟩
      obtain ⟨y1, y2, y3, hHy⟩ : ∃ a b c, H y = (a, b, c) := ⟨_, _, _, rfl⟩
      have hfacts : ∀ w1, Below wr.heap.size wr w1 → SR w0 g H (P ++ [x] ++ Y ++ Q) w1 ∧ w1.cell? ⟨g, h, none⟩ = some (.slice y1 y2 y3) ∧ w1.cell? ⟨g, a, none⟩ = some (.slice x1 x2 x3) := fun w1 hb => by
        have h1 := HS.out.later hb
        have c1 := h1.cell h hlen2.1
        have c2 := h1.cell a hlen2.2
        rw [gy, hHy] at c1
        rw [gx, hHx] at c2
        exact ⟨h1, c1, c2⟩
      have HF := Aside0.mk hfacts
      have HC : Aside0 (∀ w1, Below wr.heap.size wr w1 → Calls Try.prog f (#[.slice y1 y2 y3, .slice x1 x2 x3] ++ cb) w1 fun e w' => e = .returned (.int .i64 (cf y x)) ∧ Below w1.heap.size w1 w') := ⟨fun w1 hb => by
        have h1 := (hfacts w1 hb).1
        have := HCMP.out y x w1 h1.below h1.keep
        simpa only [hHx, hHy, hdr] using this⟩
      have p1 : (0 ≤ (h : Int)) = True := eq_true (by omega)
      have p2 : ((h : Int) < (n : Int)) = True := eq_true (by omega)
      have p3 : (0 ≤ (a : Int)) = True := eq_true (by omega)
      have p4 : ((a : Int) < (n : Int)) = True := eq_true (by omega)
      have p5 : (h < n) = True := eq_true (by omega)
      have p6 : (a < n) = True := eq_true (by omega)
      have HYS := Aside0.mk hYs
      have Hc := Aside0.mk hc
      have Hyx := Aside0.mk hyx
      have HD := Aside0.mk (below_drew (Below.refl wr.heap.size wr))
      clear gy gx hlen2 hYs hfacts HS hc hyx hcY
      go_upto_region 5 with (fail)
      clear hh
      refine start_ (n := 11) (S := fun w' => (w'.cell? ⟨g, h, none⟩ = some (.slice y1 y2 y3) ∧ w'.cell? ⟨g, a, none⟩ = some (.slice x1 x2 x3))) (ds := []) #[false, false, false, false, false, false, false, false, false, false, false] (by kernel_rfl) rfl rfl ((HF.out wr.drew HD.out).2) (fun hHeld => ?_)
      refine pure_ (i := 0) (N := some 40) (v := ?_) (a' := ?_) #[true, false, false, false, false, false, false, false, false, false, false] rfl rfl (by kernel_rfl) (fun _ _ _ h => h) (Or.inl ⟨by rfl, ?_⟩) ?_ ?_
      rotate_left
      · intro w'
        go_simp
        with_reducible rfl
      rotate_left
      · simp only [Act.put, List.setIfInBounds_toArray, List.set_cons_zero, List.set_cons_succ]
        rfl
      refine pure_ (i := 1) (N := some 41) (v := ?_) (a' := ?_) #[true, true, false, false, false, false, false, false, false, false, false] rfl rfl (by kernel_rfl) (fun _ _ _ h => h) (Or.inl ⟨by rfl, ?_⟩) ?_ ?_
      rotate_left
      · intro w'
        go_simp
        with_reducible rfl
      rotate_left
      · simp only [Act.put, List.setIfInBounds_toArray, List.set_cons_zero, List.set_cons_succ]
        rfl
      refine pure_ (i := 2) (N := some 42) (v := ?_) (a' := ?_) #[true, true, true, false, false, false, false, false, false, false, false] rfl rfl (by kernel_rfl) (fun _ _ _ h => h) (Or.inl ⟨by rfl, ?_⟩) ?_ ?_
      rotate_left
      · intro w'
        go_simp
        with_reducible rfl
      rotate_left
      · simp only [Act.put, List.setIfInBounds_toArray, List.set_cons_zero, List.set_cons_succ]
        rfl
      refine pure_ (i := 3) (N := some 43) (v := ?_) (a' := ?_) #[true, true, true, true, false, false, false, false, false, false, false] rfl rfl (by kernel_rfl) (fun _ _ _ h => h) (Or.inl ⟨by rfl, ?_⟩) ?_ ?_
      rotate_left
      · intro w'
        go_simp
        with_reducible rfl
      rotate_left
      · simp only [Act.put, List.setIfInBounds_toArray, List.set_cons_zero, List.set_cons_succ]
        rfl
      refine take_ (i := 4) (N := some 44) (v := ?_) (a' := ?_) #[true, true, true, true, true, false, false, false, false, false, false] rfl rfl (by kernel_rfl) (fun _ _ _ h => h) (Or.inl ⟨by rfl, ?_⟩) hHeld ?_ ?_
      rotate_left
      · rintro w' ⟨s0, s1⟩
        go_simp
        with_reducible rfl
      rotate_left
      · simp only [Act.put, List.setIfInBounds_toArray, List.set_cons_zero, List.set_cons_succ]
        rfl
      refine pure_ (i := 5) (N := some 45) (v := ?_) (a' := ?_) #[true, true, true, true, true, true, false, false, false, false, false] rfl rfl (by kernel_rfl) (fun _ _ _ h => h) (Or.inl ⟨by rfl, ?_⟩) ?_ ?_
      rotate_left
      · intro w'
        go_simp
        with_reducible rfl
      rotate_left
      · simp only [Act.put, List.setIfInBounds_toArray, List.set_cons_zero, List.set_cons_succ]
        rfl
      refine pure_ (i := 6) (N := some 46) (v := ?_) (a' := ?_) #[true, true, true, true, true, true, true, false, false, false, false] rfl rfl (by kernel_rfl) (fun _ _ _ h => h) (Or.inl ⟨by rfl, ?_⟩) ?_ ?_
      rotate_left
      · intro w'
        go_simp
        with_reducible rfl
      rotate_left
      · simp only [Act.put, List.setIfInBounds_toArray, List.set_cons_zero, List.set_cons_succ]
        rfl
      refine pure_ (i := 7) (N := some 47) (v := ?_) (a' := ?_) #[true, true, true, true, true, true, true, true, false, false, false] rfl rfl (by kernel_rfl) (fun _ _ _ h => h) (Or.inl ⟨by rfl, ?_⟩) ?_ ?_
      rotate_left
      · intro w'
        go_simp
        with_reducible rfl
      rotate_left
      · simp only [Act.put, List.setIfInBounds_toArray, List.set_cons_zero, List.set_cons_succ]
        rfl
      refine take_ (i := 8) (N := some 48) (v := ?_) (a' := ?_) #[true, true, true, true, true, true, true, true, true, false, false] rfl rfl (by kernel_rfl) (fun _ _ _ h => h) (Or.inl ⟨by rfl, ?_⟩) hHeld ?_ ?_
      rotate_left
      · rintro w' ⟨s0, s1⟩
        go_simp
        with_reducible rfl
      rotate_left
      · simp only [Act.put, List.setIfInBounds_toArray, List.set_cons_zero, List.set_cons_succ]
        rfl
      refine one_ (i := 9) (N := some 49) #[true, true, true, true, true, true, true, true, true, true, false] rfl rfl (by kernel_rfl) (by decide) (fun K hK => ?_)
      refine call_ f (#[.slice y1 y2 y3, .slice x1 x2 x3] ++ cb) (by rfl) rfl ?hrun ?_
      case hrun => have he := ef; unfold execOp; simp [resolve, Deferred.ofValue, invoke, Act.eval, he]
      (with_reducible refine (HC.out _ HD.out).mono ?_)
      rintro e w4 ⟨rfl, hb4⟩
      have HB4 := Aside0.mk hb4
      clear hb4
      refine ⟨_, rfl, ?_⟩
      refine hK.out _ _ (HF.out w4 (HD.out.trans (HB4.out.mono (Nat.le_refl _)))).2 (fun hHeld => ?_)
      clear hK K
      refine norm_ (a' := ?_) ?_ ?_
      rotate_left
      · show Act.put _ (some 49) _ = _
        simp only [Act.put, List.setIfInBounds_toArray, List.set_cons_zero, List.set_cons_succ]
        rfl
      refine pure_ (i := 10) (N := some 50) (v := ?_) (a' := ?_) #[true, true, true, true, true, true, true, true, true, true, true] rfl rfl (by kernel_rfl) (fun _ _ _ h => h) (Or.inl ⟨by rfl, ?_⟩) ?_ ?_
      rotate_left
      · intro w'
        go_simp
        with_reducible rfl
      rotate_left
      · simp only [Act.put, List.setIfInBounds_toArray, List.set_cons_zero, List.set_cons_succ]
        rfl
      refine done_ (by kernel_rfl) ?_
      have HD4 : Aside0 (Below wr.heap.size wr w4) := ⟨HD.out.trans (HB4.out.mono (Nat.le_refl _))⟩
      have HS4 := Aside0.mk (HF.out w4 HD4.out).1
      clear HB4 HD HC hHeld HF HD4
      by_cases hlt2 : cf y x < 0
      · have q5 : decide (cf y x < 0) = true := decide_eq_true hlt2
        have HI2 : Aside0 (∀ c, c < Y.length → a + 1 + c < h + 1 → Ah cf (Y.getD c 0) x) := ⟨fun d hd hlt => by
          have hyx := (ahead_right C Hyx.out).1 (decide_eq_true hlt2)
          rcases Nat.lt_or_ge d c with h1 | h1
          · exact (HYS.out.1 d h1).trans C hyx
          · have : d = c := by have := Hc.out; omega
            rw [this, HYC.out]; exact hyx⟩
        rw [q5]
        have q6 : (cf y x < 0) = True := eq_true hlt2
        clear hlt2 HI
        go_wp2
        go_roundw
        case rel => exact ⟨h + 1, j, by first | rfl | go_num, rfl, by omega, by omega, hjb, HS4, HI2, HJ⟩
        case measure => simp [intOf]; omega
      · have q5 : decide (cf y x < 0) = false := decide_eq_false hlt2
        have HJ2 : Aside0 (∀ c, c < Y.length → h ≤ a + 1 + c → Ah cf x (Y.getD c 0)) := ⟨fun d hd hle => by
          have hxy := (not_ahead_right C Hyx.out).1 (decide_eq_false hlt2)
          rcases Nat.lt_or_ge c d with h1 | h1
          · exact hxy.trans C (HYS.out.2 d h1 hd)
          · have : d = c := by have := Hc.out; omega
            rw [this, HYC.out]; exact hxy⟩
        rw [q5]
        have q6 : (cf y x < 0) = False := eq_false hlt2
        clear hlt2 HJ
        go_wp2
        go_roundw
        case rel => exact ⟨i, h, rfl, by first | rfl | go_num, hai, by omega, by omega, HS4, HI, HJ2⟩
        case measure => simp [intOf]; omega
    · have q2 : decide ((i : Int) < (j : Int)) = false := decide_eq_false (by omega)
      have q3 : decide (i < j) = false := decide_eq_false hlt
      obtain rfl : i = j := by omega
      obtain ⟨t, ht⟩ : ∃ t, a + 1 + t = i := ⟨i - (a + 1), by omega⟩
      have htY : t ≤ Y.length := by have := HBL.out; omega
      have HM : Aside0 (Mrg cf [x] Y (Y.take t ++ x :: Y.drop t)) := ⟨mrg_one hs t htY (fun c h1 h2 => HI.out c h1 (by omega)) (fun c h1 h2 => HJ.out c h1 (by omega))⟩
      have HT := Aside0.mk ht
      have HTY := Aside0.mk htY
      have HS0 : Aside0 (SR w0 g H (P ++ Y.take 0 ++ x :: (Y.drop 0 ++ Q)) wr) := ⟨by have := HS.out; simpa using this⟩
      have hA0 : Aside0 (a + 0 = a) := ⟨rfl⟩
      clear HI HJ ht htY HS
      go_wp2
      go_loopw [13] (fun v13 wr => ∃ (k c : Nat), v13 = .int .i64 k ∧ Aside0 (a + c = k) ∧ a ≤ k ∧ k + 1 ≤ i ∧ Aside0 (SR w0 g H (P ++ Y.take c ++ x :: (Y.drop c ++ Q)) wr)) (fun v13 _ => i - (intOf v13).toNat)
      case atStart => exact ⟨a, 0, rfl, hA0, Nat.le_refl _, by omega, HS0⟩
      case round =>
        clear HS0 hA0 q2 q3
        obtain ⟨k, c, rfl, HK, hak, hki, HS⟩ := hrel
        by_cases hlt3 : k + 1 < i
        · have q4 : decide ((k : Int) < (i : Int) - 1) = true := decide_eq_true (by omega)
          have q5 : ((k : Int) < (i : Int) - 1) = True := eq_true (by omega)
          have hcY : c < Y.length := by have h1 := HK.out; have h2 := HT.out; have h3 := HTY.out; omega
          have hl1 : (P ++ Y.take c).length = k := by rw [List.length_append, List.length_take, HPL.out]; have := HK.out; omega
          have hd : Y.drop c = Y[c] :: Y.drop (c + 1) := List.drop_eq_getElem_cons hcY
          have hsw := swl_mid (P ++ Y.take c) x [] Y[c] (Y.drop (c + 1) ++ Q)
          have hn2 : P ++ Y.take c ++ Y[c] :: ([] ++ x :: (Y.drop (c + 1) ++ Q)) = P ++ Y.take (c + 1) ++ x :: (Y.drop (c + 1) ++ Q) := by rw [List.take_succ_eq_append_getElem hcY]; simp only [List.append_assoc, List.cons_append, List.nil_append]
          have hS := HS.out
          rw [hd] at hS
          have hS : SR w0 g H (P ++ Y.take c ++ x :: ([] ++ Y[c] :: (Y.drop (c + 1) ++ Q))) wr := hS
          rw [hl1, hn2, List.length_nil, Nat.add_zero] at hsw
          have gx : (P ++ Y.take c ++ x :: ([] ++ Y[c] :: (Y.drop (c + 1) ++ Q))).getD k 0 = x := by rw [← hl1]; exact getD_mid _ _ _
          have gy : (P ++ Y.take c ++ x :: ([] ++ Y[c] :: (Y.drop (c + 1) ++ Q))).getD (k + 1) 0 = Y[c] := by
            have e : P ++ Y.take c ++ x :: ([] ++ Y[c] :: (Y.drop (c + 1) ++ Q)) = (P ++ Y.take c ++ [x]) ++ Y[c] :: (Y.drop (c + 1) ++ Q) := by simp only [List.append_assoc, List.cons_append, List.nil_append]
            have l : (P ++ Y.take c ++ [x]).length = k + 1 := by rw [List.length_append, hl1]; rfl
            rw [e, ← l]; exact getD_mid _ _ _
          have hin : k + 1 < (P ++ Y.take c ++ x :: ([] ++ Y[c] :: (Y.drop (c + 1) ++ Q))).length := by rw [List.length_append, hl1]; simp
          have ck := hS.cell k (by omega)
          have ck1 := hS.cell (k + 1) hin
          have fk := hS.frozen k
          have fk1 := hS.frozen (k + 1)
          have hS2 := (hS.swap k (k + 1) (by omega) hin).drew
          rw [gx, gy, hsw] at hS2
          rw [gx] at ck
          rw [gy] at ck1
          obtain ⟨x1, x2, x3, hHx⟩ : ∃ a b c, H x = (a, b, c) := ⟨_, _, _, rfl⟩
          obtain ⟨y1, y2, y3, hHy⟩ : ∃ u1 u2 u3, H Y[c] = (u1, u2, u3) := ⟨_, _, _, rfl⟩
          rw [hHx] at ck
          rw [hHy] at ck1
          rw [hHx, hHy] at hS2
          simp only [hdr] at ck ck1 hS2
          obtain ⟨u, cu⟩ := hS.behind k (k + 1) hin (.slice y1 y2 y3)
          have HS5 := Aside0.mk hS2
          have HK2 : Aside0 (a + (c + 1) = k + 1) := ⟨by have := HK.out; omega⟩
          have p1 : (0 ≤ (k : Int) + 1) = True := eq_true (by omega)
          have p2 : ((k : Int) + 1 < (n : Int)) = True := eq_true (by omega)
          have p3 : (0 ≤ (k : Int)) = True := eq_true (by omega)
          have p4 : ((k : Int) < (n : Int)) = True := eq_true (by omega)
          have p5 : (k + 1 < n) = True := eq_true (by omega)
          have p6 : (k < n) = True := eq_true (by omega)
          clear hS2 hin gx gy hsw hn2 hS hd hl1 HS hHx hHy HK
          go_wp2_with fail
          go_big_region_o
          clear ck ck1 fk fk1 cu
          generalize ((wr.setCell ⟨g, k, none⟩ (.slice y1 y2 y3)).setCell ⟨g, k + 1, none⟩ (.slice x1 x2 x3)).drew = w5 at HS5 ⊢
          go_wp2
          go_roundw
          case rel => exact ⟨k + 1, c + 1, by first | rfl | go_num, HK2, by omega, by omega, HS5⟩
          case measure => simp [intOf]; omega
        · have q4 : decide ((k : Int) < (i : Int) - 1) = false := decide_eq_false (by omega)
          have q5 : ((k : Int) < (i : Int) - 1) = False := eq_false (by omega)
          have hct : c = t := by have h1 := HK.out; have h2 := HT.out; omega
          have HE : Aside0 (SR w0 g H (P ++ (Y.take t ++ x :: Y.drop t) ++ Q) wr) := ⟨by have := HS.out; rw [hct] at this; simpa using this⟩
          clear HS hct HK
          go_wp2
          refine bodyPost_ret (results_none rfl _ _ _) rfl ?_
          exact ⟨rfl, _, HM.out, HE.out⟩
end Go.Proofs.Ythpoeljnmdjjiaa.Srt
end
section
/-
  Sorting, by hand: slices.symMergeCmpFunc with one element on the right.
-/
namespace Go.Proofs.Ythpoeljnmdjjiaa.Srt
open Go.RowKit Go.Proofs.YthpoeljnmdjjiaaW.PrintWords Go.Proofs.YthpoeljnmdjjiaaW.PrintLast Go.Proofs.YthpoeljnmdjjiaaW.PrintMore
set_option linter.unusedVariables false
set_option linter.unusedSimpArgs false
variable {cf : Nat → Nat → Int}

theorem getD_X (P X : List Nat) (R : List Nat) (a c : Nat) (ha : P.length = a) (hc : c < X.length) : (P ++ X ++ R).getD (a + c) 0 = X.getD c 0 := by
  rw [List.getD_eq_getElem?_getD, List.getD_eq_getElem?_getD, List.getElem?_append_left (by rw [List.length_append]; omega), List.getElem?_append_right (by omega), ha, Nat.add_sub_cancel_left]
theorem mrg_last {y : Nat} {X : List Nat} (hs : Srd cf X) (t : Nat) (ht : t ≤ X.length) (h1 : ∀ c, c < X.length → c < t → Ah cf (X.getD c 0) y) (h2 : ∀ c, c < X.length → t ≤ c → Ah cf y (X.getD c 0)) : Mrg cf X [y] (X.take t ++ y :: X.drop t) := by
  have h := mrg_one hs t ht h1 h2
  exact ⟨h.1.trans (List.perm_append_comm (l₁ := [y]) (l₂ := X)), h.2⟩

set_option maxHeartbeats 1000000 in
set_option maxRecDepth 100000 in
theorem symMerge_right (C : Cf cf) (H : Nat → Hd) (w0 : World) (g cap : Nat) (f : Nat) (cb : Array Value) (ef : ∀ args w, (callFunc f args).run Try.prog w = .ok (.enter f args) w) (hcmp : CmpOK w0 g H f cb cf)
    (P X : List Nat) (y : Nat) (Q : List Nat) (n a m b : Nat) (w : World) (hn : (P ++ X ++ [y] ++ Q).length = n) (hl : n ≤ 1000000) (ha : a = P.length) (hm : m = P.length + X.length) (hb : b = P.length + X.length + 1) (hX : 1 < X.length) (hs : Srd cf X) (hx : ∀ x ∈ X, x < y)
    (h : SR w0 g H (P ++ X ++ [y] ++ Q) w) :
    Calls Try.prog 60 #[.slice (some ⟨g, 0, none⟩) n cap, .int .i64 a, .int .i64 m, .int .i64 b, .func (.func f) #[] cb] w fun e w' => e = .returned (.tuple #[]) ∧ ∃ Z, Mrg cf X [y] Z ∧ SR w0 g H (P ++ Z ++ Q) w' := by
  have hlen : P.length + X.length + 1 + Q.length = n := by rw [← hn]; simp only [List.length_append, List.length_singleton]
  have hmb : b = m + 1 := by omega
  have hbn : a + 1 < m ∧ m + 1 ≤ n := by omega
  have HPL : Aside0 (P.length = a) := ⟨ha.symm⟩
  have HBL : Aside0 (a + X.length = m) := ⟨by omega⟩
  have H0 := Aside0.mk h
  have HCMP := Aside0.mk hcmp
  have mixed := follows_mixed
  have q0 : ((m : Int) - (a : Int) == 1) = false := by rw [beq_eq_false_iff_ne]; omega
  have q1 : ((m : Int) + 1 - (m : Int) == 1) = true := by rw [beq_iff_eq]; omega
  clear h hn hcmp hlen hb
  subst hmb
  clear hm ha
  have HI0 : Aside0 (∀ c, c < X.length → a + c < a → Ah cf (X.getD c 0) y) := ⟨fun c _ h => by omega⟩
  have HJ0 : Aside0 (∀ c, c < X.length → m ≤ a + c → Ah cf y (X.getD c 0)) := ⟨fun c hc h => by have := HBL.out; omega⟩
  go_enter Try.func60, Try.ntmps60
  go_wp2
  go_loopw [14, 15] (fun v14 v15 wr => ∃ (i j : Nat), v14 = .int .i64 i ∧ v15 = .int .i64 j ∧ a ≤ i ∧ i ≤ j ∧ j ≤ m ∧ Aside0 (SR w0 g H (P ++ X ++ [y] ++ Q) wr) ∧ Aside0 (∀ c, c < X.length → a + c < i → Ah cf (X.getD c 0) y) ∧ Aside0 (∀ c, c < X.length → j ≤ a + c → Ah cf y (X.getD c 0))) (fun v14 v15 _ => (intOf v15).toNat - (intOf v14).toNat)
  case atStart => exact ⟨a, m, rfl, rfl, Nat.le_refl _, by omega, Nat.le_refl _, H0, HI0, HJ0⟩
  case round =>
    clear H0 HI0 HJ0
    obtain ⟨i, j, rfl, rfl, hai, hij, hjb, HS, HI, HJ⟩ := hrel
    by_cases hlt : i < j
    · have q2 : decide ((i : Int) < (j : Int)) = true := decide_eq_true (by omega)
      have q3 : decide (i < j) = true := decide_eq_true hlt
      obtain ⟨h, hh⟩ : ∃ h : Nat, ((i : Int) + (j : Int)) / 2 = (h : Int) := ⟨(i + j) / 2, by omega⟩
      have hih : i ≤ h ∧ h < j := by omega
      obtain ⟨c, hc⟩ : ∃ c, h = a + c := ⟨h - a, by omega⟩
      have hcX : c < X.length := by have := HBL.out; omega
      have gx : (P ++ X ++ [y] ++ Q).getD h 0 = X.getD c 0 := by
        have e : P ++ X ++ [y] ++ Q = P ++ X ++ ([y] ++ Q) := by simp only [List.append_assoc]
        rw [hc, e]; exact getD_X P X _ a c HPL.out hcX
      have gy : (P ++ X ++ [y] ++ Q).getD m 0 = y := by
        have e : P ++ X ++ [y] ++ Q = (P ++ X) ++ y :: Q := by simp
        have l : (P ++ X).length = m := by rw [List.length_append, HPL.out]; exact HBL.out
        rw [e, ← l]; exact getD_mid _ _ _
      have hxy : X.getD c 0 < y := hx _ (by rw [List.getD_eq_getElem?_getD, List.getElem?_eq_getElem hcX]; exact List.getElem_mem _)
      have hlen2 : h < (P ++ X ++ [y] ++ Q).length ∧ m < (P ++ X ++ [y] ++ Q).length := by
        have e1 := HPL.out
        have e2 := HBL.out
        simp only [List.length_append, List.length_singleton]
        omega
      have hXs := srd_at hs hcX
      obtain ⟨x, hxc⟩ : ∃ x, X.getD c 0 = x := ⟨_, rfl⟩
      have HXC := Aside0.mk hxc
      rw [hxc] at gx hxy hXs
      clear hxc
      obtain ⟨x1, x2, x3, hHx⟩ : ∃ a b c, H x = (a, b, c) := ⟨_, _, _, rfl⟩
      obtain ⟨y1, y2, y3, hHy⟩ : ∃ a b c, H y = (a, b, c) := ⟨_, _, _, rfl⟩
      have hfacts : ∀ w1, Below wr.heap.size wr w1 → SR w0 g H (P ++ X ++ [y] ++ Q) w1 ∧ w1.cell? ⟨g, m, none⟩ = some (.slice y1 y2 y3) ∧ w1.cell? ⟨g, h, none⟩ = some (.slice x1 x2 x3) := fun w1 hb => by
        have h1 := HS.out.later hb
        have c1 := h1.cell m hlen2.2
        have c2 := h1.cell h hlen2.1
        rw [gy, hHy] at c1
        rw [gx, hHx] at c2
        exact ⟨h1, c1, c2⟩
      have HF := Aside0.mk hfacts
      have HC : Aside0 (∀ w1, Below wr.heap.size wr w1 → Calls Try.prog f (#[.slice y1 y2 y3, .slice x1 x2 x3] ++ cb) w1 fun e w' => e = .returned (.int .i64 (cf y x)) ∧ Below w1.heap.size w1 w') := ⟨fun w1 hb => by
        have h1 := (hfacts w1 hb).1
        have := HCMP.out y x w1 h1.below h1.keep
        simpa only [hHx, hHy, hdr] using this⟩
      have p1 : (0 ≤ (h : Int)) = True := eq_true (by omega)
      have p2 : ((h : Int) < (n : Int)) = True := eq_true (by omega)
      have p3 : (0 ≤ (m : Int)) = True := eq_true (by omega)
      have p4 : ((m : Int) < (n : Int)) = True := eq_true (by omega)
      have p5 : (h < n) = True := eq_true (by omega)
      have p6 : (m < n) = True := eq_true (by omega)
      have HXS := Aside0.mk hXs
      have Hc := Aside0.mk hc
      have Hxy := Aside0.mk hxy
      have HD := Aside0.mk (below_drew (Below.refl wr.heap.size wr))
      clear gy gx hlen2 hXs hfacts HS hc hxy hcX
      go_upto_region 17 with (fail)
      clear hh
      refine start_ (n := 12) (S := fun w' => (w'.cell? ⟨g, m, none⟩ = some (.slice y1 y2 y3) ∧ w'.cell? ⟨g, h, none⟩ = some (.slice x1 x2 x3))) (ds := []) #[false, false, false, false, false, false, false, false, false, false, false, false] (by kernel_rfl) rfl rfl ((HF.out wr.drew HD.out).2) (fun hHeld => ?_)
      refine pure_ (i := 0) (N := some 92) (v := ?_) (a' := ?_) #[true, false, false, false, false, false, false, false, false, false, false, false] rfl rfl (by kernel_rfl) (fun _ _ _ h => h) (Or.inl ⟨by rfl, ?_⟩) ?_ ?_
      rotate_left
      · intro w'
        go_simp
        with_reducible rfl
      rotate_left
      · simp only [Act.put, List.setIfInBounds_toArray, List.set_cons_zero, List.set_cons_succ]
        rfl
      refine pure_ (i := 1) (N := some 93) (v := ?_) (a' := ?_) #[true, true, false, false, false, false, false, false, false, false, false, false] rfl rfl (by kernel_rfl) (fun _ _ _ h => h) (Or.inl ⟨by rfl, ?_⟩) ?_ ?_
      rotate_left
      · intro w'
        go_simp
        with_reducible rfl
      rotate_left
      · simp only [Act.put, List.setIfInBounds_toArray, List.set_cons_zero, List.set_cons_succ]
        rfl
      refine pure_ (i := 2) (N := some 94) (v := ?_) (a' := ?_) #[true, true, true, false, false, false, false, false, false, false, false, false] rfl rfl (by kernel_rfl) (fun _ _ _ h => h) (Or.inl ⟨by rfl, ?_⟩) ?_ ?_
      rotate_left
      · intro w'
        go_simp
        with_reducible rfl
      rotate_left
      · simp only [Act.put, List.setIfInBounds_toArray, List.set_cons_zero, List.set_cons_succ]
        rfl
      refine pure_ (i := 3) (N := some 95) (v := ?_) (a' := ?_) #[true, true, true, true, false, false, false, false, false, false, false, false] rfl rfl (by kernel_rfl) (fun _ _ _ h => h) (Or.inl ⟨by rfl, ?_⟩) ?_ ?_
      rotate_left
      · intro w'
        go_simp
        with_reducible rfl
      rotate_left
      · simp only [Act.put, List.setIfInBounds_toArray, List.set_cons_zero, List.set_cons_succ]
        rfl
      refine take_ (i := 4) (N := some 96) (v := ?_) (a' := ?_) #[true, true, true, true, true, false, false, false, false, false, false, false] rfl rfl (by kernel_rfl) (fun _ _ _ h => h) (Or.inl ⟨by rfl, ?_⟩) hHeld ?_ ?_
      rotate_left
      · rintro w' ⟨s0, s1⟩
        go_simp
        with_reducible rfl
      rotate_left
      · simp only [Act.put, List.setIfInBounds_toArray, List.set_cons_zero, List.set_cons_succ]
        rfl
      refine pure_ (i := 5) (N := some 97) (v := ?_) (a' := ?_) #[true, true, true, true, true, true, false, false, false, false, false, false] rfl rfl (by kernel_rfl) (fun _ _ _ h => h) (Or.inl ⟨by rfl, ?_⟩) ?_ ?_
      rotate_left
      · intro w'
        go_simp
        with_reducible rfl
      rotate_left
      · simp only [Act.put, List.setIfInBounds_toArray, List.set_cons_zero, List.set_cons_succ]
        rfl
      refine pure_ (i := 6) (N := some 98) (v := ?_) (a' := ?_) #[true, true, true, true, true, true, true, false, false, false, false, false] rfl rfl (by kernel_rfl) (fun _ _ _ h => h) (Or.inl ⟨by rfl, ?_⟩) ?_ ?_
      rotate_left
      · intro w'
        go_simp
        with_reducible rfl
      rotate_left
      · simp only [Act.put, List.setIfInBounds_toArray, List.set_cons_zero, List.set_cons_succ]
        rfl
      refine pure_ (i := 7) (N := some 99) (v := ?_) (a' := ?_) #[true, true, true, true, true, true, true, true, false, false, false, false] rfl rfl (by kernel_rfl) (fun _ _ _ h => h) (Or.inl ⟨by rfl, ?_⟩) ?_ ?_
      rotate_left
      · intro w'
        go_simp
        with_reducible rfl
      rotate_left
      · simp only [Act.put, List.setIfInBounds_toArray, List.set_cons_zero, List.set_cons_succ]
        rfl
      refine take_ (i := 8) (N := some 100) (v := ?_) (a' := ?_) #[true, true, true, true, true, true, true, true, true, false, false, false] rfl rfl (by kernel_rfl) (fun _ _ _ h => h) (Or.inl ⟨by rfl, ?_⟩) hHeld ?_ ?_
      rotate_left
      · rintro w' ⟨s0, s1⟩
        go_simp
        with_reducible rfl
      rotate_left
      · simp only [Act.put, List.setIfInBounds_toArray, List.set_cons_zero, List.set_cons_succ]
        rfl
      refine one_ (i := 9) (N := some 101) #[true, true, true, true, true, true, true, true, true, true, false, false] rfl rfl (by kernel_rfl) (by decide) (fun K hK => ?_)
      refine call_ f (#[.slice y1 y2 y3, .slice x1 x2 x3] ++ cb) (by rfl) rfl ?hrun ?_
      case hrun => have he := ef; unfold execOp; simp [resolve, Deferred.ofValue, invoke, Act.eval, he]
      (with_reducible refine (HC.out _ HD.out).mono ?_)
      rintro e w4 ⟨rfl, hb4⟩
      have HB4 := Aside0.mk hb4
      clear hb4
      refine ⟨_, rfl, ?_⟩
      refine hK.out _ _ (HF.out w4 (HD.out.trans (HB4.out.mono (Nat.le_refl _)))).2 (fun hHeld => ?_)
      clear hK K
      refine norm_ (a' := ?_) ?_ ?_
      rotate_left
      · show Act.put _ (some 101) _ = _
        simp only [Act.put, List.setIfInBounds_toArray, List.set_cons_zero, List.set_cons_succ]
        rfl
      refine pure_ (i := 10) (N := some 102) (v := ?_) (a' := ?_) #[true, true, true, true, true, true, true, true, true, true, true, false] rfl rfl (by kernel_rfl) (fun _ _ _ h => h) (Or.inl ⟨by rfl, ?_⟩) ?_ ?_
      rotate_left
      · intro w'
        go_simp
        with_reducible rfl
      rotate_left
      · simp only [Act.put, List.setIfInBounds_toArray, List.set_cons_zero, List.set_cons_succ]
        rfl
      refine pure_ (i := 11) (N := some 103) (v := ?_) (a' := ?_) #[true, true, true, true, true, true, true, true, true, true, true, true] rfl rfl (by kernel_rfl) (fun _ _ _ h => h) (Or.inl ⟨by rfl, ?_⟩) ?_ ?_
      rotate_left
      · intro w'
        go_simp
        with_reducible rfl
      rotate_left
      · simp only [Act.put, List.setIfInBounds_toArray, List.set_cons_zero, List.set_cons_succ]
        rfl
      refine done_ (by kernel_rfl) ?_
      have HD4 : Aside0 (Below wr.heap.size wr w4) := ⟨HD.out.trans (HB4.out.mono (Nat.le_refl _))⟩
      have HS4 := Aside0.mk (HF.out w4 HD4.out).1
      clear HB4 HD HC hHeld HF HD4
      by_cases hlt2 : cf y x < 0
      · have q5 : decide (cf y x < 0) = true := decide_eq_true hlt2
        have HJ2 : Aside0 (∀ c, c < X.length → h ≤ a + c → Ah cf y (X.getD c 0)) := ⟨fun d hd hle => by
          have hyx := (ahead_right C Hxy.out).1 (decide_eq_true hlt2)
          rcases Nat.lt_or_ge c d with h1 | h1
          · exact hyx.trans C (HXS.out.2 d h1 hd)
          · have : d = c := by have := Hc.out; omega
            rw [this, HXC.out]; exact hyx⟩
        rw [q5]
        have q6 : (cf y x < 0) = True := eq_true hlt2
        clear hlt2 HJ
        go_wp2
        go_roundw
        case rel => exact ⟨i, h, rfl, by first | rfl | go_num, hai, by omega, by omega, HS4, HI, HJ2⟩
        case measure => simp [intOf]; omega
      · have q5 : decide (cf y x < 0) = false := decide_eq_false hlt2
        have HI2 : Aside0 (∀ c, c < X.length → a + c < h + 1 → Ah cf (X.getD c 0) y) := ⟨fun d hd hlt => by
          have hxy := (not_ahead_right C Hxy.out).1 (decide_eq_false hlt2)
          rcases Nat.lt_or_ge d c with h1 | h1
          · exact (HXS.out.1 d h1).trans C hxy
          · have : d = c := by have := Hc.out; omega
            rw [this, HXC.out]; exact hxy⟩
        rw [q5]
        have q6 : (cf y x < 0) = False := eq_false hlt2
        clear hlt2 HI
        go_wp2
        go_roundw
        case rel => exact ⟨h + 1, j, by first | rfl | go_num, rfl, by omega, by omega, hjb, HS4, HI2, HJ⟩
        case measure => simp [intOf]; omega
    · have q2 : decide ((i : Int) < (j : Int)) = false := decide_eq_false (by omega)
      have q3 : decide (i < j) = false := decide_eq_false hlt
      obtain rfl : i = j := by omega
      obtain ⟨t, ht⟩ : ∃ t, a + t = i := ⟨i - a, by omega⟩
      have htX : t ≤ X.length := by have := HBL.out; omega
      have HM : Aside0 (Mrg cf X [y] (X.take t ++ y :: X.drop t)) := ⟨mrg_last hs t htX (fun c h1 h2 => HI.out c h1 (by omega)) (fun c h1 h2 => HJ.out c h1 (by omega))⟩
      have HT := Aside0.mk ht
      have HTX := Aside0.mk htX
      have HS0 : Aside0 (SR w0 g H (P ++ X.take X.length ++ y :: (X.drop X.length ++ Q)) wr) := ⟨by have := HS.out; rw [List.take_length, List.drop_length]; simpa using this⟩
      have HDL : Aside0 (X.length ≤ X.length) := ⟨Nat.le_refl _⟩
      clear HI HJ ht htX HS
      go_wp2
      go_loopw [17] (fun v17 wr => ∃ (k d : Nat), v17 = .int .i64 k ∧ Aside0 (a + d = k) ∧ Aside0 (d ≤ X.length) ∧ i ≤ k ∧ k ≤ m ∧ Aside0 (SR w0 g H (P ++ X.take d ++ y :: (X.drop d ++ Q)) wr)) (fun v17 _ => (intOf v17).toNat)
      case atStart => exact ⟨m, X.length, rfl, HBL, HDL, by omega, Nat.le_refl _, HS0⟩
      case round =>
        clear HS0 HDL q2 q3
        obtain ⟨k, d, rfl, HK, HDX, hik, hkm, HS⟩ := hrel
        by_cases hlt3 : i < k
        · obtain ⟨kp, rfl⟩ : ∃ kp, k = kp + 1 := ⟨k - 1, by omega⟩
          obtain ⟨c, hdc⟩ : ∃ c, d = c + 1 := ⟨d - 1, by have h1 := HK.out; have h2 := HT.out; omega⟩
          have q4 : decide ((kp : Int) + 1 > (i : Int)) = true := decide_eq_true (by omega)
          have q5 : decide ((i : Int) < (kp : Int) + 1) = true := decide_eq_true (by omega)
          have hcX : c < X.length := by have := HDX.out; omega
          have hl1 : (P ++ X.take c).length = kp := by rw [List.length_append, List.length_take, HPL.out]; have := HK.out; omega
          have hd : X.take d = X.take c ++ [X[c]] := by rw [hdc]; exact List.take_succ_eq_append_getElem hcX
          obtain ⟨x, hxc⟩ : ∃ x, X[c] = x := ⟨_, rfl⟩
          have hdr2 : X.drop c = x :: X.drop d := by rw [hdc, ← hxc]; exact List.drop_eq_getElem_cons hcX
          rw [hxc] at hd
          clear hxc
          have hS : SR w0 g H (P ++ X.take c ++ x :: ([] ++ y :: (X.drop d ++ Q))) wr := by
            have := HS.out
            rw [hd] at this
            simpa only [List.append_assoc, List.cons_append, List.nil_append] using this
          have hsw := swl_mid (P ++ X.take c) x [] y (X.drop d ++ Q)
          have hn2 : P ++ X.take c ++ y :: ([] ++ x :: (X.drop d ++ Q)) = P ++ X.take c ++ y :: (X.drop c ++ Q) := by rw [hdr2]; rfl
          rw [hl1, hn2, List.length_nil, Nat.add_zero] at hsw
          have gx : (P ++ X.take c ++ x :: ([] ++ y :: (X.drop d ++ Q))).getD kp 0 = x := by rw [← hl1]; exact getD_mid _ _ _
          have gy : (P ++ X.take c ++ x :: ([] ++ y :: (X.drop d ++ Q))).getD (kp + 1) 0 = y := by
            have e : P ++ X.take c ++ x :: ([] ++ y :: (X.drop d ++ Q)) = (P ++ X.take c ++ [x]) ++ y :: (X.drop d ++ Q) := by simp only [List.append_assoc, List.cons_append, List.nil_append]
            have l : (P ++ X.take c ++ [x]).length = kp + 1 := by rw [List.length_append, hl1]; rfl
            rw [e, ← l]; exact getD_mid _ _ _
          have hin : kp + 1 < (P ++ X.take c ++ x :: ([] ++ y :: (X.drop d ++ Q))).length := by rw [List.length_append, hl1]; simp
          have ck := hS.cell kp (by omega)
          have ck1 := hS.cell (kp + 1) hin
          have fk := hS.frozen kp
          have fk1 := hS.frozen (kp + 1)
          have hS2 := (hS.swap (kp + 1) kp hin (by omega)).drew
          rw [gx, gy, swl_comm _ (by omega), hsw] at hS2
          rw [gx] at ck
          rw [gy] at ck1
          obtain ⟨x1, x2, x3, hHx⟩ : ∃ u1 u2 u3, H x = (u1, u2, u3) := ⟨_, _, _, rfl⟩
          obtain ⟨y1, y2, y3, hHy⟩ : ∃ u1 u2 u3, H y = (u1, u2, u3) := ⟨_, _, _, rfl⟩
          rw [hHx] at ck
          rw [hHy] at ck1
          rw [hHx, hHy] at hS2
          simp only [hdr] at ck ck1 hS2
          obtain ⟨u, cu⟩ := hS.behind (kp + 1) kp (by omega) (.slice x1 x2 x3)
          have HS5 := Aside0.mk hS2
          have HK2 : Aside0 (a + c = kp) := ⟨by have := HK.out; omega⟩
          have HC2 : Aside0 (c ≤ X.length) := ⟨by omega⟩
          have p1 : (0 ≤ (kp : Int) + 1) = True := eq_true (by omega)
          have p2 : ((kp : Int) + 1 < (n : Int)) = True := eq_true (by omega)
          have p3 : (0 ≤ (kp : Int)) = True := eq_true (by omega)
          have p4 : ((kp : Int) < (n : Int)) = True := eq_true (by omega)
          have p5 : (kp + 1 < n) = True := eq_true (by omega)
          have p6 : (kp < n) = True := eq_true (by omega)
          have p7 : IntKind.i64.wrap (kp : Int) = (kp : Int) := wrap_nat (by omega)
          clear hS2 hin gx gy hsw hn2 hS hd hdr2 hl1 HS hHx hHy HK HDX hdc
          go_wp2_with fail
          go_big_region_o
          clear ck ck1 fk fk1 cu
          generalize ((wr.setCell ⟨g, kp + 1, none⟩ (.slice x1 x2 x3)).setCell ⟨g, kp, none⟩ (.slice y1 y2 y3)).drew = w5 at HS5 ⊢
          go_wp2
          go_roundw
          case rel => exact ⟨kp, c, by first | rfl | go_num, HK2, HC2, by omega, by omega, HS5⟩
          case measure => simp [intOf]
        · have q4 : decide ((k : Int) > (i : Int)) = false := decide_eq_false (by omega)
          have q5 : decide ((i : Int) < (k : Int)) = false := decide_eq_false (by omega)
          have hct : d = t := by have h1 := HK.out; have h2 := HT.out; omega
          have HE : Aside0 (SR w0 g H (P ++ (X.take t ++ y :: X.drop t) ++ Q) wr) := ⟨by have := HS.out; rw [hct] at this; simpa using this⟩
          clear HS hct HK
          go_wp2
          refine bodyPost_ret (results_none rfl _ _ _) rfl ?_
          exact ⟨rfl, _, HM.out, HE.out⟩
end Go.Proofs.Ythpoeljnmdjjiaa.Srt
end
section
/-
  Sorting, plain: two halves of a merge, each of a left and a right part.
-/
namespace Go.Proofs.Ythpoeljnmdjjiaa.Srt
set_option linter.unusedVariables false
set_option linter.unusedSimpArgs false
variable {cf : Nat → Nat → Int}

theorem cross {X1 X2 Y1 Y2 : List Nat} (hs : Srd cf (X1 ++ X2)) (hs2 : Srd cf (Y1 ++ Y2)) (h1 : ∀ x ∈ X1, ∀ y ∈ Y2, Ah cf x y) (h2 : ∀ y ∈ Y1, ∀ x ∈ X2, Ah cf y x) : ∀ x ∈ X1 ++ Y1, ∀ y ∈ X2 ++ Y2, Ah cf x y := by
  obtain ⟨_, _, a⟩ := List.pairwise_append.1 hs
  obtain ⟨_, _, b⟩ := List.pairwise_append.1 hs2
  intro x hx y hy
  rcases List.mem_append.1 hx with hx | hx
  · rcases List.mem_append.1 hy with hy | hy
    · exact a x hx y hy
    · exact h1 x hx y hy
  · rcases List.mem_append.1 hy with hy | hy
    · exact h2 x hx y hy
    · exact b x hx y hy
/-- From one place of each: all of the first part are ahead of all of the second. -/
theorem cross_at (C : Cf cf) {X Y : List Nat} (hs : Srd cf X) (hs2 : Srd cf Y) (s t : Nat) (hsX : s ≤ X.length) (htY : t ≤ Y.length) (h : 0 < s → t < Y.length → Ah cf (X.getD (s - 1) 0) (Y.getD t 0)) : ∀ x ∈ X.take s, ∀ y ∈ Y.drop t, Ah cf x y := by
  have gX : ∀ i, (hi : i < X.length) → X.getD i 0 = X[i] := fun i hi => by rw [List.getD_eq_getElem?_getD, List.getElem?_eq_getElem hi]; rfl
  have gY : ∀ i, (hi : i < Y.length) → Y.getD i 0 = Y[i] := fun i hi => by rw [List.getD_eq_getElem?_getD, List.getElem?_eq_getElem hi]; rfl
  intro x hx y hy
  obtain ⟨i, hi, e⟩ := List.mem_iff_getElem.1 hx
  obtain ⟨j, hj, e2⟩ := List.mem_iff_getElem.1 hy
  rw [List.length_take] at hi
  rw [List.length_drop] at hj
  rw [List.getElem_take] at e
  rw [List.getElem_drop] at e2
  have hm := h (by omega) (by omega)
  have hx1 : x = X.getD (s - 1) 0 ∨ Ah cf x (X.getD (s - 1) 0) := by
    rcases Nat.lt_or_ge i (s - 1) with h1 | h1
    · right
      rw [gX (s - 1) (by omega), ← e]
      exact List.pairwise_iff_getElem.1 hs i (s - 1) (by omega) (by omega) h1
    · left
      have : i = s - 1 := by omega
      subst this
      rw [gX _ (by omega), e]
  have hy1 : y = Y.getD t 0 ∨ Ah cf (Y.getD t 0) y := by
    rcases Nat.eq_zero_or_pos j with h1 | h1
    · left
      subst h1
      rw [gY t (by omega), ← e2]
      rfl
    · right
      rw [gY t (by omega), ← e2]
      exact List.pairwise_iff_getElem.1 hs2 t (t + j) (by omega) (by omega) (by omega)
  have h2 : Ah cf x (Y.getD t 0) := by
    rcases hx1 with h3 | h3
    · rw [h3]; exact hm
    · exact h3.trans C hm
  rcases hy1 with h3 | h3
  · rw [h3]; exact h2
  · exact h2.trans C h3
theorem Srd.split {X : List Nat} (h : Srd cf X) (s : Nat) : Srd cf (X.take s) ∧ Srd cf (X.drop s) := by
  have : Srd cf (X.take s ++ X.drop s) := by rw [List.take_append_drop]; exact h
  obtain ⟨a, b, _⟩ := List.pairwise_append.1 this
  exact ⟨a, b⟩
end Go.Proofs.Ythpoeljnmdjjiaa.Srt
end
