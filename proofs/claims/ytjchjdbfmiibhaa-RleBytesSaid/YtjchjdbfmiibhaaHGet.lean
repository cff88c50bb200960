/-
  By hand: leb.Get's contract: the number that bytes begin with, or an error.
-/
import Derived.Test.YtjchjdbfmiibhaaHNum
namespace Go.Proofs.Ytjchjdbfmiibhaa.Hand
open Go.RowKit Go.Proofs.YtjchjdbfmiibhaaW.PrintWords

def getOut (l : List Int) : Int × Int × Int := match numGo l 0 0 with
  | .inl e => (0, 0, e)
  | .inr (n, t) => (n, (l.length : Int) - (t.length : Int), 0)
def lebGet (l : List Int) : Option (Int × Int × Int) := if ∀ x ∈ l, 0 ≤ x ∧ x < 256 then some (getOut l) else none

/-- The row's variable, just made: the second of two new blocks. -/
theorem row_made {w : World} {A : Option Addr} {l : List Int} {c : Nat} (hC : Kd.C (Kd.int .u8) w A l.length l) (hc : l.length ≤ c) (v : Value) (t t' : TypeId) :
    RowSt w ((w.alloc (.cells #[v] t)).alloc (.cells #[.slice A l.length c] t')) (w.heap.size + 1) l := by
  refine ⟨by omega, ⟨A, c, ?_, hc, hC⟩, ?_, ((Below.refl _ _).alloc (Nat.le_refl _) _).alloc (by simp) _⟩
  · simp
  · simp [go_sem]

theorem frozen_same {w w1 : World} {b o : Nat} (h : w1.heap[b]? = w.heap[b]?) : w1.frozen? ⟨b, o, none⟩ = w.frozen? ⟨b, o, none⟩ := by simp [World.frozen?, h]
/-- What is told of the error's variable (the first of the two) behind number. -/
theorem err_var {w w1 : World} {v x : Value} {t t' : TypeId} (hk : KeepBut ((w.alloc (.cells #[v] t)).alloc (.cells #[x] t')) w1 (w.heap.size + 1) none) :
    w1.cell? ⟨w.heap.size, 0, none⟩ = some v ∧ w1.frozen? ⟨w.heap.size, 0, none⟩ = false ∧ w.heap.size + 1 < w1.heap.size := by
  have h := hk.2 w.heap.size (by simp; omega) (by omega) (by simp)
  refine ⟨?_, ?_, ?_⟩
  · rw [World.cell?_of_block h]
    simp
  · rw [frozen_same h]
    simp [go_sem]
  · have := hk.1
    simp at this
    omega

set_option maxRecDepth 100000 in
theorem lebGet_calls (A0 : Option Addr) (c0 : Nat) (l0 : List Int) (r1 r2 r3 : Int) (w : World) (hr0 : Kd.C (Kd.int .u8) w A0 l0.length l0) (hc0 : l0.length ≤ c0) (hq : lebGet l0 = some (r1, r2, r3)) :
    Calls Try.prog 63 #[.slice A0 l0.length c0] w fun e w' => e = .returned (.tuple #[.int .u64 r1, .int .i64 r2, .int .i64 r3]) ∧ Below w.heap.size w w' := by
  unfold lebGet at hq
  split at hq
  · rename_i hb
    injection hq with hq
    have HQ := Lib.hid hq
    have HR := Lib.hid (row_made hr0 hc0 (.int .i64 0) 26 104)
    have hl := hr0.2.1
    clear hq
    go_enter_defers Try.func63, Try.ntmps63
    go_wp2_with fail
    refine (number_calls w _ (w.heap.size + 1) l0 hb HR.out).mono ?_
    clear HR
    rintro e w1 ⟨hk, hp⟩
    obtain ⟨hc, hz, hsz⟩ := err_var hk
    clear hk
    unfold getOut at HQ
    generalize numGo l0 0 0 = o at *
    cases o with
    | inl n =>
      obtain ⟨rfl, ys, hs⟩ := hp
      have hB := hs.below
      clear hs
      have HQ2 := HQ.out
      simp only [Prod.mk.injEq] at HQ2
      obtain ⟨rfl, rfl, rfl⟩ := HQ2
      go_wp2
      refine leaves_cons (f := 74) (args := #[.pointer (some ⟨w.heap.size, 0, none⟩)]) (by simp) (by simp [go_sem]) ?_
      refine (saved_panicking ⟨w.heap.size, 0, none⟩ 0 n [] _ hc hz).mono ?_
      rintro e u' w2 ⟨rfl, rfl, rfl⟩
      have hcc := World.cell?_setCell_same w1 ⟨w.heap.size, 0, none⟩ (.int .i64 n) hc
      simp [Leaves, settle, results, Try.results63, go_sem, hcc]
      exact hB.setCell (Nat.le_refl _) _
    | inr nt =>
      obtain ⟨n, t⟩ := nt
      obtain ⟨rfl, hs⟩ := hp
      have hB := hs.below
      obtain ⟨A, c, hrc, hl2, hC⟩ := hs.cell
      clear hs
      have HQ2 := HQ.out
      simp only [Prod.mk.injEq] at HQ2
      obtain ⟨rfl, rfl, rfl⟩ := HQ2
      go_wp2
      go_region
      go_wp2
      refine leaves_cons (f := 74) (args := #[.pointer (some ⟨w.heap.size, 0, none⟩)]) (by simp) (by simp [go_sem]) ?_
      refine (saved_idle ⟨w.heap.size, 0, none⟩ _).mono ?_
      rintro e u' w2 ⟨rfl, rfl, rfl⟩
      have hcc := World.cell?_setCell_same w1 ⟨w.heap.size, 0, none⟩ (.int .i64 0) hc
      have ht := hC.2.1
      simp [Leaves, settle, results, Try.results63, go_sem, hcc]
      exact ⟨by unfold wrap64; omega, (hB.setCell (Nat.le_refl _) _).drew⟩
  · cases hq
end Go.Proofs.Ytjchjdbfmiibhaa.Hand
