/-
  By hand: leb.ToInts' contract: so many numbers, one behind the other, or an error.
-/
import Derived.Test.YtkjlimmdgnahgaaHText
import Derived.Test.YtkjlimmdgnahgaaHZag
namespace Go.Proofs.Ytkjlimmdgnahgaa.Hand
open Go.RowKit Go.Proofs.YtkjlimmdgnahgaaW.PrintWords

def toIntsGo : Nat → List Int → List Int → Int ⊕ (List Int × List Int)
  | 0, out, l => .inr (out, l)
  | n + 1, out, l => match numGo l 0 0 with
    | .inl e => .inl e
    | .inr (x, t) => toIntsGo n (out ++ [zag x]) t
def toIntsOut (l : List Int) (n : Int) : List Int × List Int × Int := if n < 0 then ([], [], 1) else match toIntsGo n.toNat [] l with
  | .inl e => ([], [], e)
  | .inr (out, t) => (out, t, 0)
def lebToInts (l : List Int) (n : Int) : Option (List Int × List Int × Int) :=
  if (∀ x ∈ l, 0 ≤ x ∧ x < 256) ∧ l.length ≤ 17592186044000 ∧ -9223372036854775808 ≤ n ∧ n ≤ 9223372036854775807 then some (toIntsOut l n) else none

theorem numGo_mem : ∀ (l : List Int) (i : Nat) (m n : Int) (t : List Int), numGo l i m = .inr (n, t) → ∀ x ∈ t, x ∈ l
  | [], _, _, _, _, h => by cases h
  | c :: l, i, m, n, t, h => by
    unfold numGo at h
    split at h
    · cases h
    · split at h
      · injection h with h
        injection h with _ h
        subst h
        exact fun x hx => List.mem_cons_of_mem _ hx
      · exact fun x hx => List.mem_cons_of_mem _ (numGo_mem l _ _ _ _ h x hx)
theorem info_i64 : (Try.prog.info? 2).map (fun i => (i.zero, i.size, i.bytes)) = some (some (.int .i64 0), 1, 8) := by kernel_rfl

/-- What holds at the loop's head. -/
structure IntsSt (w wr : World) (v : Value) (outs ys : List Int) : Prop where
  row : RowSt w wr (w.heap.size + 1) ys
  own : Kd.R (Kd.int .i64) 2 wr w.heap.size (fun k => k ≠ w.heap.size ∧ k ≠ w.heap.size + 1) v outs
  err : wr.cell? ⟨w.heap.size, 0, none⟩ = some (.int .i64 0)
  free : wr.frozen? ⟨w.heap.size, 0, none⟩ = false
  big : w.heap.size + 1 < wr.heap.size
theorem IntsSt.num {w wr w2 : World} {v : Value} {outs ys t : List Int} (h : IntsSt w wr v outs ys) (hr : RowSt w w2 (w.heap.size + 1) t) (hk : KeepBut wr w2 (w.heap.size + 1) none) : IntsSt w w2 v outs t := by
  have hh := hk.2 w.heap.size (by have := h.big; omega) (by omega) (by simp)
  exact ⟨hr, Kd.R_keep h.own hk (fun k hk => hk.2), (World.cell?_of_block hh).trans h.err, (World.frozen?_of_block hh).trans h.free, by have := h.big; have := hk.1; omega⟩
theorem RowSt.drewN {w wr : World} {g : Nat} {ys : List Int} (h : RowSt w wr g ys) (n : Nat) : RowSt w (wr.drewN n) g ys := ⟨h.low, h.cell, h.free, pw_below_drewN h.below n⟩
theorem IntsSt.drewN {w wr : World} {v : Value} {outs ys : List Int} (h : IntsSt w wr v outs ys) (n : Nat) : IntsSt w (wr.drewN n) v outs ys :=
  ⟨h.row.drewN n, Kd.R_drewN h.own n, h.err, h.free, h.big⟩
theorem IntsSt.app {w W w1 : World} {v v1 : Value} {outs outs2 ys : List Int} (h : IntsSt w W v outs ys) (ho : Kd.R (Kd.int .i64) 2 w1 w.heap.size (fun k => k ≠ w.heap.size ∧ k ≠ w.heap.size + 1) v1 outs2)
    (hb : Below w.heap.size w w1) (hg : W.grownBy w1 v.ownBlock) : IntsSt w w1 v1 outs2 ys := by
  have hne : ∀ k, v.ownBlock = some k → k ≠ w.heap.size ∧ k ≠ w.heap.size + 1 := h.own.1
  have hbig := h.big
  have h1 := hg.block w.heap.size (by omega) (fun e => (hne _ e.symm).1 rfl)
  have h2 := hg.block (w.heap.size + 1) (by omega) (fun e => (hne _ e.symm).2 rfl)
  refine ⟨⟨h.row.low, ?_, (World.frozen?_of_block h2).trans h.row.free, hb⟩, ho, (World.cell?_of_block h1).trans h.err, (World.frozen?_of_block h1).trans h.free, by have := hg.size; omega⟩
  obtain ⟨A, c, hc, hr⟩ := h.row.cell
  exact ⟨A, c, (World.cell?_of_block h2).trans hc, hr⟩
theorem IntsSt.start {w : World} {l : List Int} {A : Option Addr} {c : Nat} (hC : Kd.C (Kd.int .u8) w A l.length l) (hc : l.length ≤ c) :
    IntsSt w ((w.alloc (.cells #[.int .i64 0] 28)).alloc (.cells #[.slice A l.length c] 55)) (.slice none 0 0) [] l :=
  ⟨row_made hC hc _ _ _, Kd.R_nil _ _ _ _ _, by simp, by simp [go_sem], by simp⟩

/-- What is told of the error's variable, and the numbers' row, behind the last append. -/
theorem ints_end {w wr w2 : World} {v v1 : Value} {outs ys : List Int} (h : IntsSt w wr v outs ys) (hg : (wr.alloc (.cells #[] 5)).grownBy w2 (Value.slice (some ⟨wr.heap.size, 0, none⟩) 0 0).ownBlock)
    (hb : v1.ownBlock = (Value.slice (some ⟨wr.heap.size, 0, none⟩) 0 0).ownBlock ∨ v1.ownBlock = some (wr.alloc (.cells #[] 5)).heap.size) (ho : (Kd.int .u8).R 5 w2 w.heap.size (fun _ => True) v1 ([] ++ ys)) :
    w2.cell? ⟨w.heap.size, 0, none⟩ = some (.int .i64 0) ∧ w2.frozen? ⟨w.heap.size, 0, none⟩ = false ∧ Below w.heap.size w (w2.setCell ⟨w.heap.size, 0, none⟩ (.int .i64 0)) ∧
      Kd.R (Kd.int .i64) 2 (w2.setCell ⟨w.heap.size, 0, none⟩ (.int .i64 0)) w.heap.size (fun _ => True) v outs ∧ (Kd.int .u8).R 5 (w2.setCell ⟨w.heap.size, 0, none⟩ (.int .i64 0)) w.heap.size (fun _ => True) v1 ys := by
  have hbig := h.big
  have hsz : (wr.alloc (.cells #[] 5)).heap.size = wr.heap.size + 1 := by simp
  have hown : (Value.slice (some ⟨wr.heap.size, 0, none⟩) 0 0).ownBlock = some wr.heap.size := rfl
  rw [hown] at hg hb
  have hh : w2.heap[w.heap.size]? = wr.heap[w.heap.size]? := (hg.block w.heap.size (by omega) (fun e => by injection e with e; omega)).trans (heap_alloc_old wr _ (by omega))
  have hB : Below w.heap.size w w2 := (h.row.below.alloc (by omega) _).grown hg (by omega) (fun k hk => by injection hk with hk; omega)
  have ho1 : Kd.R (Kd.int .i64) 2 w2 w.heap.size (fun k => k ≠ w.heap.size ∧ k ≠ w.heap.size + 1) v outs := by
    refine Kd.R_mono (Kd.R_grown (Kd.R_alloc (Kd.R_mono (Kd.R_bound h.own) (ok' := fun k => (k ≠ w.heap.size ∧ k ≠ w.heap.size + 1) ∧ k < wr.heap.size) (fun k hk => ⟨hk.1, hk.2.2.1⟩)) _) hg (fun k hk e => ?_)) (fun k hk => hk.1)
    injection e with e
    have := hk.2
    omega
  have hn : ∀ k, v1.ownBlock = some k → k ≠ w.heap.size := by
    intro k hk
    rcases hb with hb | hb <;> rw [hb] at hk <;> injection hk with hk <;> omega
  obtain ⟨e1, e2⟩ := text_end ho hB hn
  refine ⟨(World.cell?_of_block hh).trans h.err, (World.frozen?_of_block hh).trans h.free, e2, ?_, e1⟩
  exact Kd.R_mono (Kd.R_far (p := ⟨w.heap.size, 0, none⟩) ho1 (fun k hk => hk.1) _) (fun _ _ => trivial)

set_option maxRecDepth 100000 in
theorem lebToInts_calls (A0 : Option Addr) (c0 : Nat) (l0 : List Int) (a1 : Int) (r1 r2 : List Int) (r3 : Int) (w : World) (hr0 : Kd.C (Kd.int .u8) w A0 l0.length l0) (hc0 : l0.length ≤ c0) (hq : lebToInts l0 a1 = some (r1, r2, r3)) :
    Calls Try.prog 21 #[.slice A0 l0.length c0, .int .i64 a1] w fun e w' => ∃ v0_ v1_ : Value, e = .returned (.tuple #[v0_, v1_, .int .i64 r3]) ∧ Kd.R (Kd.int .i64) 2 w' w.heap.size (fun _ => True) v0_ r1 ∧ Kd.R (Kd.int .u8) 5 w' w.heap.size (fun _ => True) v1_ r2 ∧ Below w.heap.size w w' := by
  unfold lebToInts at hq
  split at hq
  · rename_i hyp
    obtain ⟨hb, hlen, ha0, ha1⟩ := hyp
    injection hq with hq
    have HQ := Lib.hid hq
    have HR := Lib.hid (row_made hr0 hc0 (.int .i64 0) 28 55)
    have hl := hr0.2.1
    clear hq
    unfold toIntsOut at HQ
    by_cases hm0 : a1 < 0
    · have HQ2 := HQ.out
      rw [if_pos hm0] at HQ2
      simp only [Prod.mk.injEq] at HQ2
      obtain ⟨rfl, rfl, rfl⟩ := HQ2
      have hc : (w.alloc (.cells #[.int .i64 0] 28)).cell? ⟨w.heap.size, 0, none⟩ = some (.int .i64 0) := by simp
      have hz : (w.alloc (.cells #[.int .i64 0] 28)).frozen? ⟨w.heap.size, 0, none⟩ = false := by simp [go_sem]
      go_enter_defers Try.func21, Try.ntmps21
      go_wp2
      refine leaves_cons (f := 28) (args := #[.pointer (some ⟨w.heap.size, 0, none⟩)]) (by simp) (by simp [go_sem]) ?_
      refine (saved_panicking ⟨w.heap.size, 0, none⟩ 0 1 [] _ hc hz).mono ?_
      rintro e u' w2 ⟨rfl, rfl, rfl⟩
      have hcc := World.cell?_setCell_same _ ⟨w.heap.size, 0, none⟩ (.int .i64 1) hc
      have hend : Below w.heap.size w ((w.alloc (.cells #[.int .i64 0] 28)).setCell ⟨w.heap.size, 0, none⟩ (.int .i64 1)) := ((Below.refl w.heap.size w).alloc (Nat.le_refl _) _).setCell (p := ⟨w.heap.size, 0, none⟩) (Nat.le_refl _) _
      generalize (w.alloc (.cells #[.int .i64 0] 28)).setCell ⟨w.heap.size, 0, none⟩ (.int .i64 1) = w4 at *
      simp [Leaves, settle, results, Try.results21, go_sem, hcc]
      exact ⟨_, _, ⟨rfl, rfl⟩, Kd.R_nil _ _ _ _ _, Kd.R_nil _ _ _ _ _, hend⟩
    · have HST := Aside0.mk (IntsSt.start hr0 hc0)
      go_enter_defers Try.func21, Try.ntmps21
      go_wp2
      go_loopw [8, 14] (fun v i wr => ∃ (k : Nat) (outs ys : List Int), i = .int .i64 k ∧ (k : Int) ≤ a1 ∧ Aside0 (toIntsGo a1.toNat [] l0 = toIntsGo (a1.toNat - k) outs ys) ∧ Aside0 (∀ x ∈ ys, 0 ≤ x ∧ x < 256) ∧ Aside0 (outs.length + ys.length ≤ l0.length) ∧ Aside0 (IntsSt w wr v outs ys))
        (fun _ i _ => a1.toNat - (intOf i).toNat)
      case atStart => exact ⟨0, [], l0, rfl, by omega, ⟨rfl⟩, ⟨hb⟩, ⟨by simp⟩, HST⟩
      case round =>
        clear HST HR
        obtain ⟨k, outs, ys, rfl, hk, HG, HY, HLN, HST⟩ := hrel
        by_cases hlt : (k : Int) < a1
        · have hG := HG.out
          rw [show a1.toNat - k = (a1.toNat - (k + 1)) + 1 by omega] at hG
          simp only [toIntsGo] at hG
          have HG2 := Aside0.mk hG
          clear hG HG
          go_wp2_with fail
          refine (number_calls w _ (w.heap.size + 1) ys HY.out HST.out.row).mono ?_
          rintro e w1 ⟨hk1, hp⟩
          have hnl := numGo_len ys 0 0
          have hnr := numGo_range ys 0 0
          have hnm := numGo_mem ys 0 0
          generalize numGo ys 0 0 = o at *
          cases o with
          | inl n =>
            clear hnl hnr hnm
            obtain ⟨rfl, ys2, hs⟩ := hp
            have HS := HST.out.num hs hk1
            have hc := HS.err
            have hz := HS.free
            have hB := HS.row.below
            have HQ2 := HQ.out
            rw [if_neg (by omega), HG2.out] at HQ2
            simp only [Prod.mk.injEq] at HQ2
            obtain ⟨rfl, rfl, rfl⟩ := HQ2
            clear hk1 hs HS HST HG2 HQ HY HLN
            go_wp2
            refine leaves_cons (f := 28) (args := #[.pointer (some ⟨w.heap.size, 0, none⟩)]) (by simp) (by simp [go_sem]) ?_
            refine (saved_panicking ⟨w.heap.size, 0, none⟩ 0 n [] _ hc hz).mono ?_
            rintro e u' w2 ⟨rfl, rfl, rfl⟩
            have hcc := World.cell?_setCell_same _ ⟨w.heap.size, 0, none⟩ (.int .i64 n) hc
            have hend := hB.setCell (p := ⟨w.heap.size, 0, none⟩) (Nat.le_refl _) (.int .i64 n)
            generalize w1.setCell ⟨w.heap.size, 0, none⟩ (.int .i64 n) = w4 at *
            simp [Leaves, settle, results, Try.results21, go_sem, hcc]
            exact ⟨_, _, ⟨rfl, rfl⟩, Kd.R_nil _ _ _ _ _, Kd.R_nil _ _ _ _ _, hend⟩
          | inr nt =>
            obtain ⟨x, t⟩ := nt
            obtain ⟨rfl, hs⟩ := hp
            have htl := hnl _ _ rfl
            have hx := hnr _ _ HY.out (by omega) (by omega) (by omega) rfl
            have hY2 : ∀ y ∈ t, 0 ≤ y ∧ y < 256 := fun y hy => HY.out y (hnm _ _ rfl y hy)
            have HY2 := Aside0.mk hY2
            have hLN2 : (outs ++ [zag x]).length + t.length ≤ l0.length := by have := HLN.out; simp only [List.length_append, List.length_cons, List.length_nil]; omega
            have HLN2 := Aside0.mk hLN2
            have hzg : lebZag x = some (zag x) := by unfold lebZag; rw [if_pos hx]
            have HZG := Aside0.mk hzg
            have HS := Aside0.mk (HST.out.num hs hk1)
            have HL3 : outs.length + 1 ≤ 17592186044001 := by simp only [List.length_append, List.length_cons, List.length_nil] at hLN2; omega
            clear hk1 hs HST HY HLN hnl hnr hnm htl hx hY2 hLN2 hzg
            simp only at HG2
            go_wp2_with (first
              | (go_at_call 18; refine (lebZag_calls x _ _ HZG.out).mono ?_; rintro e w2 ⟨rfl, ⟨nd, rfl⟩⟩)
              | (at_builtin; refine Kd.R_append (Kd.int .i64) (w0 := w) w.heap.size rfl (.tmp 16) (.tmp 19) 38 2 (.int .i64 0) 8 rfl Try.underlying38 info_i64 rfl (by decide) (by omega) u8 outs (zag x) [.int .i64 (zag x)] (fun k => k ≠ w.heap.size ∧ k ≠ w.heap.size + 1) (fun _ => False) rfl rfl rfl (fun _ hk => hk.elim) ?aF ?aO ?aB ?aS ?aL ?_; (case aF => exact (fun k hk => by have := (HS.out.drewN nd).big; omega)); (case aO => exact (HS.out.drewN nd).own); (case aB => exact (HS.out.drewN nd).row.below); (case aS => have := (HS.out.drewN nd).big; omega); (case aL => omega); intro v1 w3 ho hb3 hg _; have HS3 := Aside0.mk ((HS.out.drewN nd).app ho hb3 hg); clear ho hb3 hg))
            go_roundw
            case rel => exact ⟨k + 1, outs ++ [zag x], t, by go_num, by omega, HG2, HY2, HLN2, HS3⟩
            case measure => simp [intOf]; omega
        · have hke : a1.toNat - k = 0 := by omega
          have hG := HG.out
          rw [hke] at hG
          simp only [toIntsGo] at hG
          have HQ2 := HQ.out
          rw [if_neg (by omega), hG] at HQ2
          simp only [Prod.mk.injEq] at HQ2
          obtain ⟨rfl, rfl, rfl⟩ := HQ2
          clear hG hke HG HQ
          obtain ⟨i0, hi0, hz0, hz1, hz2⟩ := info_parts info_u8
          obtain ⟨A, c, hrc, hl2, hC⟩ := HST.out.row.cell
          have hbig := HST.out.big
          have hB := HST.out.row.below
          have hrca : (wr.alloc (.cells #[] 5)).cell? ⟨w.heap.size + 1, 0, none⟩ = some (.slice A ys.length c) := (World.cell?_alloc_lt _ _ _ hbig).trans hrc
          have HO : Aside0 ((Kd.int .u8).R 5 (wr.alloc (.cells #[] 5)) w.heap.size (fun _ => True) (.slice (some ⟨wr.heap.size, 0, none⟩) 0 0) []) := ⟨empty_row (W := wr) (base := w.heap.size) 5 (by omega)⟩
          have HBa := Aside0.mk (hB.alloc (by omega) (.cells #[] 5))
          have HCd := Aside0.mk (Kd.C_below hC HBa.out)
          have hle : ys.length ≤ 17592186044000 := by have := HLN.out; omega
          clear hrc hC hB
          go_wp2_with (at_builtin; refine bytes_list (W := wr.alloc (.cells #[] 5)) w.heap.size rfl (.tmp 23) (.tmp 24) 24 55 5 5 i0 rfl Try.underlying24 Try.underlying55 hi0 hz0 hz1 hz2 (.slice (some ⟨wr.heap.size, 0, none⟩) 0 0) [] ys A ys.length c rfl rfl HO.out HCd.out ?aS ?aL ?_; (case aS => exact HBa.out.size); (case aL => simp; omega); intro v1 w2 ho2 hg2 hb2; obtain ⟨ha1, ha2, hB2, hr1, hr2⟩ := ints_end HST.out hg2 hb2 ho2; have HE := Aside0.mk (And.intro hr1 (And.intro hr2 hB2)); clear ho2 hg2 hb2 hB2 hr1 hr2)
          refine leaves_cons (f := 28) (args := #[.pointer (some ⟨w.heap.size, 0, none⟩)]) (by simp) (by simp [go_sem]) ?_
          refine (saved_idle ⟨w.heap.size, 0, none⟩ _).mono ?_
          rintro e u' w3 ⟨rfl, rfl, rfl⟩
          have hcc := World.cell?_setCell_same _ ⟨w.heap.size, 0, none⟩ (.int .i64 0) ha1
          have hend := HE.out
          generalize w2.setCell ⟨w.heap.size, 0, none⟩ (.int .i64 0) = w4 at *
          simp [Leaves, settle, results, Try.results21, go_sem, hcc]
          exact ⟨_, _, ⟨rfl, rfl⟩, hend⟩
  · cases hq
end Go.Proofs.Ytkjlimmdgnahgaa.Hand
