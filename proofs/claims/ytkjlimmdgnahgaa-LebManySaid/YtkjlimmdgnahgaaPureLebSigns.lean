/-
  Zag turns Zig round, and Zig Zag; numbers nearer to 0 have no more bytes: for every input. (LebSigns)
-/
import Derived.Test.YtkjlimmdgnahgaaPLebx12
import Derived.Test.YtkjlimmdgnahgaaLebA
namespace Go.Proofs.Ytkjlimmdgnahgaa.Pure
open Go.RowKit Go.Proofs.Ytkjlimmdgnahgaa.PLeb Go.Proofs.YtkjlimmdgnahgaaW.PrintWords Go.Proofs.YtkjlimmdgnahgaaW.PrintLast Go.Proofs.Ytkjlimmdgnahgaa.Hand

theorem ints_l (l : List Int) (hl : I64s l) (hb : l.length ≤ 14073748835532) : ∀ (j k : Nat) (acc : List Int) (i : Nat), j = l.length - i → i ≤ l.length → j < k → acc.length ≤ 10 * i →
    leb_Ints.l0 k acc l (l.length : Int) (i : Int) = some (acc ++ intsL (l.drop i)) := by
  intro j
  induction j with
  | zero =>
    intro k acc i hj hi hk _
    obtain ⟨k, rfl⟩ : ∃ j, k = j + 1 := ⟨k - 1, by omega⟩
    unfold leb_Ints.l0
    rw [if_neg (by omega), List.drop_of_length_le (by omega)]
    simp [intsL]
  | succ j ih =>
    intro k acc i hj hi hk ha
    obtain ⟨k, rfl⟩ : ∃ j, k = j + 1 := ⟨k - 1, by omega⟩
    unfold leb_Ints.l0
    rw [if_pos (by omega), if_pos (by omega), if_pos (by omega)]
    have hlt : i < l.length := by omega
    have er : rd l (i : Int) = l[i] := by simp [rd, List.getD_eq_getElem?_getD, hlt]
    have hr := hl l[i] (List.getElem_mem hlt)
    unfold leb_Zig.f leb_Put.f
    rw [er, lebZig_eq hr]
    simp only [Option.bind_some]
    rw [lebPut_eq (zig_range hr)]
    simp only [Option.bind_some]
    have h10 := putL9_len (n := zig l[i])
    rw [if_pos (by omega), show wrap64 ((i : Int) + 1) = ((i + 1 : Nat) : Int) by unfold wrap64; omega,
      ih k _ (i + 1) (by omega) (by omega) (by omega) (by simp only [List.length_append]; omega), List.drop_eq_getElem_cons hlt]
    simp [intsL]
theorem ints_f (l : List Int) (hl : I64s l) (hb : l.length ≤ 14073748835532) (k : Nat) (hk : l.length < k) : leb_Ints.f k l = some (intsL l) := by
  unfold leb_Ints.f
  have := ints_l l hl hb l.length k [] 0 (by omega) (by omega) hk (by simp)
  simpa using this

theorem LebSigns : law02_LebSigns.Pure := by
  intro a b ha hb
  have ha := wf_i64_ ha
  have hb := wf_u64_ hb
  refine ⟨2, ?_⟩
  unfold law02_LebSigns.f law02_shown.f leb_Zig.f leb_Zag.f
  simp only [Option.bind_some, if_true]
  rw [lebZig_eq ha]
  simp only [Option.bind_some]
  rw [lebZag_eq (zig_range ha)]
  simp only [Option.bind_some]
  rw [if_pos (zag_zig a), lebZag_eq hb]
  simp only [Option.bind_some]
  rw [lebZig_eq (zag_range hb)]
  simp only [Option.bind_some]
  have ht : Int.tdiv a 2 = if 0 ≤ a then a / 2 else -((-a) / 2) := by
    split
    · exact Int.tdiv_eq_ediv_of_nonneg (by omega)
    · rw [← Int.tdiv_eq_ediv_of_nonneg (by omega), Int.neg_tdiv, Int.neg_neg]
  generalize Int.tdiv a 2 = q at *
  have ht2 : 2 * q ≤ a + 1 ∧ a ≤ 2 * q + 1 ∧ (0 ≤ a → 0 ≤ q ∧ q ≤ a) ∧ (a < 0 → a ≤ q ∧ q ≤ 0) := by split at ht <;> omega
  clear ht
  have hd : wrap64 q = q := by unfold wrap64; omega
  rw [if_pos (zig_zag hb.1), hd, ints_f [q] (by intro x hx; simp at hx; omega) (by simp) 2 (by simp), ints_f [a] (by intro x hx; simp at hx; omega) (by simp) 2 (by simp)]
  simp only [Option.bind_some, intsL, List.append_nil]
  congr 1
  rw [decide_eq_true_iff]
  have := putL_mono 9 (zig (q)) (zig a) (by unfold zig; split <;> omega) (by unfold zig; split <;> split <;> omega)
  omega
end Go.Proofs.Ytkjlimmdgnahgaa.Pure
