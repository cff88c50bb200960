/-
  Sorting, by hand: a row of slices that is sorted in place; the exchange of two ranges.
-/
import Derived.Test.YthpoeljnmdjjiaaProg
import Derived.Test.YthpoeljnmdjjiaaTw
import Derived.BigRegion
import Derived.BigQuiet
import Derived.RegionTactic
import Derived.Deep.RegionLaw
import Derived.WalkKit
import Derived.Tactics
import Derived.Shelf.RegionOpenPlain
namespace Go.Proofs.Ythpoeljnmdjjiaa.Srt
open Go.RowKit Go.Proofs.YthpoeljnmdjjiaaW.PrintWords Go.Proofs.YthpoeljnmdjjiaaW.PrintLast Go.Proofs.YthpoeljnmdjjiaaW.PrintMore
set_option linter.unusedVariables false
set_option linter.unusedSimpArgs false

/-- A slice's three parts. -/
abbrev Hd := Option Addr × Nat × Nat
def hdr (p : Hd) : Value := .slice p.1 p.2.1 p.2.2
/-- A world of a sort: block g holds the elements' values, told by numbers (and behind them what stood there); all else is as it was. -/
structure SR (w0 : World) (g : Nat) (H : Nat → Hd) (l : List Nat) (w : World) : Prop where
  blk : ∃ L0 T : List Value, L0.length = l.length ∧ w0.heap[g]? = some (.cells (L0 ++ T).toArray 26 (0, 0)) ∧ w.heap[g]? = some (.cells (l.map (fun i => hdr (H i)) ++ T).toArray 26 (0, 0))
  below : Below g w0 w
  keep : KeepBut w0 w g none
def swl (l : List Nat) (i j : Nat) : List Nat := (l.set i (l.getD j 0)).set j (l.getD i 0)
theorem swl_len (l : List Nat) (i j : Nat) : (swl l i j).length = l.length := by simp [swl]
theorem SR.cell {w0 w : World} {g : Nat} {H : Nat → Hd} {l : List Nat} (h : SR w0 g H l w) (i : Nat) (hi : i < l.length) : w.cell? ⟨g, i, none⟩ = some (hdr (H (l.getD i 0))) := by
  obtain ⟨L0, T, _, _, hb⟩ := h.blk
  rw [blk_cell hb i, List.getElem?_toArray, List.getElem?_append_left (by rw [List.length_map]; exact hi)]
  simp [hi]
theorem SR.frozen {w0 w : World} {g : Nat} {H : Nat → Hd} {l : List Nat} (h : SR w0 g H l w) (i : Nat) : w.frozen? ⟨g, i, none⟩ = false := by
  obtain ⟨L0, T, _, _, hb⟩ := h.blk
  exact blk_frozen hb i
theorem SR.lt {w0 w : World} {g : Nat} {H : Nat → Hd} {l : List Nat} (h : SR w0 g H l w) : g < w.heap.size := by
  obtain ⟨L0, T, _, _, hb⟩ := h.blk
  exact blk_lt hb
theorem SR.drew {w0 w : World} {g : Nat} {H : Nat → Hd} {l : List Nat} (h : SR w0 g H l w) : SR w0 g H l w.drew := ⟨h.blk, ⟨h.below.os, h.below.tape, h.below.output, h.below.size, h.below.block⟩, keep_drewN h.keep 1⟩
theorem below_put {B : Nat} {w0 w : World} (h : Below B w0 w) {p : Addr} (hp : B ≤ p.block) {u : Value} : Below B w0 (w.setCell p u) :=
  ⟨h.os, h.tape, h.output, by have := h.size; simpa [World.setCell] using this, fun k hk => (Below.heap_setCell w p u k (by omega)).trans (h.block k hk)⟩
theorem SR.swap {w0 w : World} {g : Nat} {H : Nat → Hd} {l : List Nat} (h : SR w0 g H l w) (i j : Nat) (hi : i < l.length) (hj : j < l.length) :
    SR w0 g H (swl l i j) ((w.setCell ⟨g, i, none⟩ (hdr (H (l.getD j 0)))).setCell ⟨g, j, none⟩ (hdr (H (l.getD i 0)))) := by
  obtain ⟨L0, T, hl, h0, hb⟩ := h.blk
  refine ⟨⟨L0, T, by rw [hl, swl_len], h0, blk_put (blk_put hb i _ rfl) j _ ?_⟩, below_put (below_put h.below (Nat.le_refl _)) (Nat.le_refl _), (h.keep.set_ i _).set_ j _⟩
  rw [List.setIfInBounds_toArray, List.setIfInBounds_toArray, List.set_append_left _ _ (by rw [List.length_map]; exact hi), List.set_append_left _ _ (by rw [List.length_set, List.length_map]; exact hj)]
  unfold swl
  simp [List.map_set]
theorem SR.behind {w0 w : World} {g : Nat} {H : Nat → Hd} {l : List Nat} (h : SR w0 g H l w) (i j : Nat) (hj : j < l.length) (v : Value) : ∃ u, (w.setCell ⟨g, i, none⟩ v).cell? ⟨g, j, none⟩ = some u := by
  obtain ⟨L0, T, hl, h0, hb⟩ := h.blk
  rw [blk_cell (blk_put hb i v rfl) j]
  refine ⟨_, Array.getElem?_eq_getElem (by simp; omega)⟩
/-- Two ranges exchanged, one element after the other. -/
def swr (l : List Nat) (a b : Nat) : Nat → List Nat
  | 0 => l
  | n + 1 => swl (swr l a b n) (a + n) (b + n)
theorem swr_len (l : List Nat) (a b : Nat) : ∀ n, (swr l a b n).length = l.length
  | 0 => rfl
  | n + 1 => by rw [swr, swl_len, swr_len l a b n]

theorem follows_mixed : Try.prog.follows Departure.mixedOrders = true := by kernel_rfl
set_option maxHeartbeats 8000000 in
set_option maxRecDepth 100000 in
theorem swapRange_calls (H : Nat → Hd) (w0 : World) (g cap : Nat) (l : List Nat) (a b n : Nat) (fv : Value) (w : World) (hl : l.length ≤ 1000000) (ha : a + n ≤ l.length) (hb : b + n ≤ l.length) (h : SR w0 g H l w) :
    Calls Try.prog 90 #[.slice (some ⟨g, 0, none⟩) l.length cap, .int .i64 a, .int .i64 b, .int .i64 n, fv] w fun e w' => e = .returned (.tuple #[]) ∧ SR w0 g H (swr l a b n) w' := by
  have H0 := Aside0.mk h
  have mixed := follows_mixed
  clear h
  go_enter Try.func90, Try.ntmps90
  go_wp2
  go_loopw [10] (fun v10 wr => ∃ i : Nat, v10 = .int .i64 i ∧ i ≤ n ∧ Aside0 (SR w0 g H (swr l a b i) wr)) (fun v10 _ => n - (intOf v10).toNat)
  case atStart => exact ⟨0, rfl, Nat.zero_le _, H0⟩
  case round =>
    clear H0
    obtain ⟨i, rfl, hi, HS⟩ := hrel
    by_cases hlt : i < n
    · have q1 : decide ((i : Int) < (n : Int)) = true := decide_eq_true (by omega)
      have q2 : decide (i < n) = true := decide_eq_true hlt
      have hlen : (swr l a b i).length = l.length := swr_len l a b i
      have ca := HS.out.cell (a + i) (by omega)
      have cb := HS.out.cell (b + i) (by omega)
      have fa := HS.out.frozen (a + i)
      have fb := HS.out.frozen (b + i)
      obtain ⟨u, cu⟩ := HS.out.behind (a + i) (b + i) (by omega) (hdr (H ((swr l a b i).getD (b + i) 0)))
      have S2 := Aside0.mk (HS.out.swap (a + i) (b + i) (by omega) (by omega)).drew
      rw [show swl (swr l a b i) (a + i) (b + i) = swr l a b (i + 1) from rfl] at S2
      generalize H ((swr l a b i).getD (b + i) 0) = vb at *
      generalize H ((swr l a b i).getD (a + i) 0) = va at *
      have p1 : (0 : Int) ≤ (a : Int) + (i : Int) := by omega
      have p2 : (a : Int) + (i : Int) < (l.length : Int) := by omega
      have p3 : IntKind.i64.wrap ((a : Int) + (i : Int)) = (a : Int) + (i : Int) := by rw [IntKind.wrap_i64]; omega
      have p4 : (0 : Int) ≤ (b : Int) + (i : Int) := by omega
      have p5 : (b : Int) + (i : Int) < (l.length : Int) := by omega
      have p6 : IntKind.i64.wrap ((b : Int) + (i : Int)) = (b : Int) + (i : Int) := by rw [IntKind.wrap_i64]; omega
      have e1 : ((a : Int) + (i : Int)).toNat = a + i := by omega
      have e2 : ((b : Int) + (i : Int)).toNat = b + i := by omega
      obtain ⟨a1, a2, a3⟩ := va
      obtain ⟨b1, b2, b3⟩ := vb
      simp only [hdr] at ca cb cu S2
      clear hlen HS
      go_wp2_with fail
      go_big_region_o
      clear ca cb cu fa fb
      generalize ((wr.setCell ⟨g, a + i, none⟩ (.slice b1 b2 b3)).setCell ⟨g, b + i, none⟩ (.slice a1 a2 a3)).drew = w2 at S2 ⊢
      clear p1 p2 p3 p4 p5 p6 e1 e2
      go_wp2
      go_roundw
      case rel => exact ⟨i + 1, by go_num, by omega, S2⟩
      case measure => simp [intOf]; omega
    · have q1 : decide ((i : Int) < (n : Int)) = false := decide_eq_false (by omega)
      have q2 : decide (i < n) = false := decide_eq_false hlt
      obtain rfl : i = n := by omega
      go_wp2
      go_end0
      exact ⟨rfl, HS.out⟩
end Go.Proofs.Ythpoeljnmdjjiaa.Srt
