/-
  Sorting, by hand: sorted.Bag of 12 rows or fewer.
-/
import Derived.Test.YthpoeljnmdjjiaaSvK
namespace Go.Proofs.Ythpoeljnmdjjiaa.PSrn
open Go.RowKit Go.Proofs.Ythpoeljnmdjjiaa.Hand Go.Proofs.Ythpoeljnmdjjiaa.Srt Go.Proofs.YthpoeljnmdjjiaaW.PrintWords Go.Proofs.YthpoeljnmdjjiaaW.PrintLast Go.Proofs.YthpoeljnmdjjiaaW.PrintMore
set_option linter.unusedVariables false
set_option linter.unusedSimpArgs false

/-- A clone that is sorted: the headers stand in the order Z. -/
def SB (B : Nat) (rows : List (List S28)) (Hf : Nat → Hd) (v : Value) (Z : List Nat) (W : World) : Prop :=
  Z.Perm (List.range rows.length) ∧ ((rows.length = 0 ∧ ∃ A c, v = .slice A 0 c) ∨ (0 < rows.length ∧ ∃ g cap T, v = .slice (some ⟨g, 0, none⟩) rows.length cap ∧ B ≤ g ∧ W.heap[g]? = some (.cells (Z.map (fun i => hdr (Hf i)) ++ T).toArray 26 (0, 0))))
theorem SB.of_clone {w : World} {B : Nat} {v : Value} {rows : List (List S28)} {Hf : Nat → Hd} (h : Kd.R (Kd.raw 1) 26 w B (fun _ => True) v ((List.range rows.length).map fun i => [hdr (Hf i)])) : SB B rows Hf v (List.range rows.length) w := by
  refine ⟨List.Perm.refl _, ?_⟩
  rcases clone_block h with ⟨h0, A, c, e⟩ | ⟨h0, g, cap, T, e, hB, _, _, _, hb⟩
  · exact .inl ⟨h0, A, c, e⟩
  · exact .inr ⟨h0, g, cap, T, e, hB, hb⟩
theorem SB.slice {B : Nat} {rows : List (List S28)} {Hf : Nat → Hd} {v : Value} {Z : List Nat} {W : World} (h : SB B rows Hf v Z W) : ∃ A c, v = .slice A rows.length c := by
  rcases h.2 with ⟨h0, A, c, e⟩ | ⟨h0, g, cap, T, e, hB, hb⟩
  · exact ⟨A, c, by rw [h0]; exact e⟩
  · exact ⟨_, _, e⟩
theorem SB.reads {B : Nat} {rows : List (List S28)} {Hf : Nat → Hd} {A : Option Addr} {c : Nat} {Z : List Nat} {W : World} (h : SB B rows Hf (.slice A rows.length c) Z W) (hH : HdOf W rows Hf) (hl : rows.length ≤ 9223372036854775807) :
    Kd.C (Kd.slice 28 k28) W A (Z.map fun i => rows.getD i []).length (Z.map fun i => rows.getD i []) := by
  have hZ : Z.length = rows.length := by rw [h.1.length_eq]; simp
  refine ⟨rfl, by rw [List.length_map, hZ]; exact hl, fun h0 => ?_⟩
  rw [List.length_map, hZ] at h0
  rcases h.2 with ⟨h1, _⟩ | ⟨_, g, cap, T, e, hB, hb⟩
  · omega
  · injection e with e1 e2 e3
    refine ⟨_, e1, fun j p hj => ?_⟩
    have hjl : j < Z.length := by
      have := (List.getElem?_eq_some_iff.1 hj).1
      rwa [List.length_map] at this
    rw [List.getElem?_map, List.getElem?_eq_getElem hjl] at hj
    simp only [Option.map_some, Option.some.injEq] at hj
    subst hj
    refine ⟨[hdr (Hf Z[j])], rfl, ⟨_, _, by rw [hH.eq], hH.cap _, hH.rd _⟩, fun i u hi => ?_⟩
    cases i with
    | succ i => simp at hi
    | zero =>
      simp only [List.getElem?_cons_zero, Option.some.injEq] at hi
      subst hi
      show W.cell? ((⟨g, 0, none⟩ : Addr).add (j * 1 + 0)) = _
      rw [add_at, Nat.mul_one, Nat.add_zero, Nat.zero_add, blk_cell hb, List.getElem?_toArray, List.getElem?_append_left (by rw [List.length_map]; exact hjl), List.getElem?_map, List.getElem?_eq_getElem hjl]
      rfl
theorem SB.keep {B : Nat} {rows : List (List S28)} {Hf : Nat → Hd} {v : Value} {Z : List Nat} {W W1 : World} (h : SB B rows Hf v Z W) (hk : ∀ k, v.ownBlock = some k → k < W.heap.size → W1.heap[k]? = W.heap[k]?) : SB B rows Hf v Z W1 := by
  refine ⟨h.1, ?_⟩
  rcases h.2 with ⟨h0, A, c, e⟩ | ⟨h0, g, cap, T, e, hB, hb⟩
  · exact .inl ⟨h0, A, c, e⟩
  · exact .inr ⟨h0, g, cap, T, e, hB, (hk g (by rw [e]; rfl) (blk_lt hb)).trans hb⟩
theorem SB.below {B : Nat} {rows : List (List S28)} {Hf : Nat → Hd} {v : Value} {Z : List Nat} {W W1 : World} (h : SB B rows Hf v Z W) (hb : Below W.heap.size W W1) : SB B rows Hf v Z W1 := h.keep (fun k _ hk => hb.block k hk)
theorem full_ok {w w0 : World} {g : Nat} {rows : List (List S28)} {Hf : Nat → Hd} (hH : HdOf w rows Hf) (hw : Below w.heap.size w w0) (hg : w.heap.size ≤ g) : CmpOK w0 g Hf 31 #[] (cfFull rows) := by
  intro i j W h1 h2
  have hW : Below w.heap.size w W := hw.trans (h1.mono hg)
  have := hH.below hW
  rw [this.eq i, this.eq j]
  exact full_calls _ _ _ _ _ _ W (this.rd i) (this.rd j)
theorem insertion_zero' (dv fv : Value) (w : World) (n : Nat) (h : n = 0) :
    Calls Try.prog 59 #[dv, .int .i64 0, .int .i64 n, fv] w fun e w' => e = .returned (.tuple #[]) ∧ w' = w := by
  subst h; exact insertion_zero dv fv w
/-- What a sort of one's own clone does. -/
def SortsTo (w : World) (rows : List (List S28)) (Hf : Nat → Hd) (v : Value) (W W' : World) : Prop :=
  ∃ Z, Wk (cfFull rows) Z ∧ SB w.heap.size rows Hf v Z W' ∧ W.grownBy W' v.ownBlock
/-- The sort of a clone of its own, of 12 or fewer. -/
theorem sortBlk_small (w : World) (rows : List (List S28)) (Hf : Nat → Hd) (A : Option Addr) (c : Nat) (W : World) (hH : HdOf w rows Hf) (hw : Below w.heap.size w W) (hn : rows.length ≤ 12) (h : SB w.heap.size rows Hf (.slice A rows.length c) (List.range rows.length) W) :
    Calls Try.prog 30 #[.slice A rows.length c, .func (.func 31) #[] #[]] W fun e W' => e = .returned (.tuple #[]) ∧ SortsTo w rows Hf (.slice A rows.length c) W W' := by
  refine sortFunc_of _ A rows.length c _ (by omega) W (fun lim _ => pdq_small _ _ _ rows.length hn lim W ?_)
  rcases h.2 with ⟨h0, A', c', e⟩ | ⟨h0, g, cap, T, e, hB, hb⟩
  · refine (insertion_zero' _ _ W rows.length h0).mono ?_
    rintro e2 W' ⟨h1, rfl⟩
    refine ⟨h1, _, ?_, h, ⟨rfl, rfl, rfl, Nat.le_refl _, fun _ _ _ => rfl⟩⟩
    rw [h0]; exact List.Pairwise.nil
  · injection e with e1 e2 e3
    subst e1
    have hSR : SR W g Hf ([] ++ List.range rows.length ++ []) W := ⟨⟨(List.range rows.length).map (fun i => hdr (Hf i)), T, by simp, hb, by simpa using hb⟩, Below.refl _ _, KeepBut.refl _ _ _⟩
    refine (insertion_calls Hf W g c 31 #[] (cfFull rows) (fun _ _ => rfl) (full_ok hH hw hB) [] (List.range rows.length) [] rows.length 0 rows.length W (by simp) (by omega) rfl (by simp) (by simpa using h0) hSR).mono ?_
    rintro e4 W' ⟨h1, h2⟩
    have h3 := places_ok (cfFull_ok rows) rows.length
    refine ⟨h1, places (cfFull rows) rows.length, Srd.wk h3.1, ⟨h3.2, .inr ⟨h0, g, c, ?_⟩⟩, ?_⟩
    · obtain ⟨L0, T2, _, _, hb2⟩ := h2.blk
      rw [List.nil_append, List.append_nil] at hb2
      exact ⟨T2, rfl, hB, hb2⟩
    · exact ⟨h2.below.os, h2.below.tape, h2.below.output, h2.below.size, fun k hk hne => h2.keep.2 k hk (fun he => hne (by rw [he]; rfl)) (by simp)⟩
end Go.Proofs.Ythpoeljnmdjjiaa.PSrn
