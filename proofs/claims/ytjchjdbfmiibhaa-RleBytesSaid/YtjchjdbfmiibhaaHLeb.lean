/-
  By hand: leb's reading of numbers (a panic is turned into an error by 'saved', which recovers): the contracts of saved, next, number, and Get.
-/
import Derived.Test.YtjchjdbfmiibhaaProg
import Derived.Test.YtjchjdbfmiibhaaTw
import Derived.Lib.Hide
import Derived.WalkLawsBesides
import Derived.Recover
import Derived.Defers
import Derived.RegionTactic
import Derived.ChangeAlike
import Derived.Laws.Pointers
namespace Go.Proofs.Ytjchjdbfmiibhaa.Hand
open Go.RowKit Go.Proofs.YtjchjdbfmiibhaaW.PrintWords

set_option maxRecDepth 1000000 in
theorem saved_panicking (p : Addr) (x n : Int) (older : List PanicEntry) (w : World) (hc : w.cell? p = some (.int .i64 x)) (hz : w.frozen? p = false) :
    CallsD Try.prog 74 #[.pointer (some p)] (.panicking ({ v := .iface 26 (.int .i64 n), recovered := false } :: older)) w fun e u' w' =>
      e = .returned (.tuple #[]) ∧ u' = .panicking ({ v := .iface 26 (.int .i64 n), recovered := true } :: older) ∧ w' = w.setCell p (.int .i64 n) := by
  have hne : ∀ w : World, (binOp .neq 20 (.iface 26 (.int .i64 n)) .nilIface).run Try.prog w = .ok (.bool true) w := fun _ => rfl
  have hta : ∀ w : World, (Instr.typeAssert (.iface 26 (.int .i64 n)) 20 26 false).run Try.prog w = .ok (.int .i64 n) w := fun _ => rfl
  refine callsD_of_wpS Try.func74 rfl fun c₀ cs hu => ?_
  apply wpS_seq
  apply wpS_region
  simp [wpOpsS, go_sem, recoverD, hu, Try.ntmps74, Exit.thenS]
  apply wpS_seq
  apply wpS_region
  simp [wpOpsS, go_sem, hne, Exit.thenS]
  refine wpS_cond (t := true) (by simp [Act.eval, Array.replicate]) ?_
  simp only [if_true]
  apply wpS_region
  simp [wpOpsS, go_sem, hta, hc, hz, bodyPostS, results, Try.results74]
set_option maxRecDepth 1000000 in
theorem saved_idle (p : Addr) (w : World) :
    CallsD Try.prog 74 #[.pointer (some p)] .returning w fun e u' w' => e = .returned (.tuple #[]) ∧ u' = .returning ∧ w' = w := by
  have hne : ∀ w : World, (binOp .neq 20 .nilIface .nilIface).run Try.prog w = .ok (.bool false) w := fun _ => rfl
  refine callsD_of_wpS Try.func74 rfl fun c₀ cs hu => ?_
  apply wpS_seq
  apply wpS_region
  simp [wpOpsS, go_sem, recoverD, hu, Try.ntmps74, Exit.thenS]
  apply wpS_seq
  apply wpS_region
  simp [wpOpsS, go_sem, hne, Exit.thenS]
  refine wpS_cond (t := false) (by simp [Act.eval, Array.replicate]) ?_
  simp only [Bool.false_eq_true, if_false]
  refine wpS_of_wp (wp_skip ?_)
  cases c₀
  simp_all [bodyPostS, results, Try.results74]

/-- A panic with one of the errors. -/
abbrev raise (n : Int) : Ending := .panicked [{ v := .iface 26 (.int .i64 n), recovered := false }]
theorem next_short (g c : Nat) (A : Option Addr) (w : World) (hc : w.cell? ⟨g, 0, none⟩ = some (.slice A 0 c)) :
    Calls Try.prog 80 #[.pointer (some ⟨g, 0, none⟩)] w fun e w' => e = raise 3 ∧ w = w' := by
  go_enter Try.func80, Try.ntmps80
  go_wp2
  exact ⟨rfl, rfl, rfl⟩

/-- The row of bytes in the variable at g: what is left of one that came in (it lies in w0). -/
structure RowSt (w0 w : World) (g : Nat) (xs : List Int) : Prop where
  low : w0.heap.size ≤ g
  cell : ∃ A c, w.cell? ⟨g, 0, none⟩ = some (.slice A xs.length c) ∧ xs.length ≤ c ∧ Kd.C (Kd.int .u8) w0 A xs.length xs
  free : w.frozen? ⟨g, 0, none⟩ = false
  below : Below w0.heap.size w0 w

theorem C_tail {w : World} {ad : Addr} {x : Int} {t : List Int} (h : Kd.C (Kd.int .u8) w (some ad) (x :: t).length (x :: t)) :
    Kd.C (Kd.int .u8) w (if t.length = 0 then some ad else some { block := ad.block, off := ad.off + 1 }) t.length t := by
  have h1 := Kd.C_drop (m := 1) (c := t.length + 1) h (by simp) (by simp)
  by_cases e : t.length = 0
  · rw [if_pos e]
    obtain rfl : t = [] := List.eq_nil_of_length_eq_zero e
    exact ⟨rfl, by simp, fun hp => absurd hp (by simp)⟩
  · rw [if_neg (by omega)] at h1
    rw [if_neg e]
    exact h1

theorem heap_setCell_ne (w : World) (p : Addr) (v : Value) (i : Nat) (h : i ≠ p.block) : (w.setCell p v).heap[i]? = w.heap[i]? := Below.heap_setCell w p v i h

theorem next_end {w0 w : World} {g : Nat} {old : Value} {A : Option Addr} {t : List Int} (hc : w.cell? ⟨g, 0, none⟩ = some old) (hz : w.frozen? ⟨g, 0, none⟩ = false) (hlow : w0.heap.size ≤ g)
    (hB : Below w0.heap.size w0 w) (hC : Kd.C (Kd.int .u8) w0 A t.length t) :
    RowSt w0 (w.setCell ⟨g, 0, none⟩ (.slice A t.length t.length)).drew g t ∧ KeepBut w (w.setCell ⟨g, 0, none⟩ (.slice A t.length t.length)).drew g none := by
  refine ⟨⟨hlow, ⟨A, t.length, ?_, Nat.le_refl _, hC⟩, ?_, ?_⟩, ?_, fun i hi hg _ => ?_⟩
  · exact World.cell?_setCell_same _ _ _ hc
  · simpa [go_sem] using hz
  · exact (hB.setCell hlow _).drew
  · simp
  · exact heap_setCell_ne w _ _ i hg
theorem next_some (w0 w : World) (g : Nat) (x : Int) (t : List Int) (hs : RowSt w0 w g (x :: t)) :
    Calls Try.prog 80 #[.pointer (some ⟨g, 0, none⟩)] w fun e w' => e = .returned (.int .u8 x) ∧ RowSt w0 w' g t ∧ KeepBut w w' g none := by
  obtain ⟨A, c, hc, hl, hC⟩ := hs.cell
  have hm := hC.2.1
  obtain ⟨ad, rfl, hcell⟩ := hC.2.2 (by simp)
  obtain ⟨cs, h1, h2, h3⟩ := hcell 0 x rfl
  obtain rfl : cs = [Value.int .u8 x] := h2
  have hx0 := h3 0 _ rfl
  have hx : w.cell? ad = some (.int .u8 x) := by
    have := pw_cell_below hs.below hx0
    simpa [Addr.add, Kd.int, Kd.scalar] using this
  have hz := hs.free
  have hCt := C_tail hC
  simp only [List.length_cons] at hc hl hm
  have hE := fun A (hA : Kd.C (Kd.int .u8) w0 A t.length t) => next_end hc hz hs.low hs.below hA
  have HE := Lib.hid hE
  have HC := Lib.hid hCt
  clear hC hcell h3 hx0 hs hCt h1 hE
  by_cases h0 : t.length = 0
  · have HC2 := HC.out
    rw [if_pos h0] at HC2
    have HF := Lib.hid (HE.out _ HC2)
    clear HE HC HC2
    rw [h0] at hc hl hm HF
    clear h0
    simp only [Nat.zero_add] at hc
    go_enter Try.func80, Try.ntmps80
    go_wp2
    go_region
    go_wp2
    go_ret
    exact ⟨rfl, HF.out⟩
  · have HC2 := HC.out
    rw [if_neg h0] at HC2
    have HF := Lib.hid (HE.out _ HC2)
    clear HE HC HC2
    generalize t.length = n at *
    go_enter Try.func80, Try.ntmps80
    go_wp2
    go_region
    go_wp2
    go_ret
    exact ⟨rfl, HF.out⟩
end Go.Proofs.Ytjchjdbfmiibhaa.Hand
