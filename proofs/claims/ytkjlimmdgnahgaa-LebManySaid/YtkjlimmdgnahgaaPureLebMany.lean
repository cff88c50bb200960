/-
  Numbers one behind the other are read one behind the other, and nothing is left; one more is missing: for every input. (LebMany)
-/
import Derived.Test.YtkjlimmdgnahgaaPLebx14
import Derived.Test.YtkjlimmdgnahgaaPureLebSigns
namespace Go.Proofs.Ytkjlimmdgnahgaa.Pure
open Go.RowKit Go.Proofs.Ytkjlimmdgnahgaa.PLeb Go.Proofs.YtkjlimmdgnahgaaW.PrintWords Go.Proofs.YtkjlimmdgnahgaaW.PrintLast Go.Proofs.Ytkjlimmdgnahgaa.Hand

theorem same_l (l : List Int) (hb : l.length ≤ 9223372036854775000) : ∀ (j k i : Nat), j = l.length - i → i ≤ l.length → j < k → ref02_Same.l0 k l l (i : Int) = some true := by
  intro j
  induction j with
  | zero =>
    intro k i hj hi hk
    obtain ⟨k, rfl⟩ : ∃ j, k = j + 1 := ⟨k - 1, by omega⟩
    unfold ref02_Same.l0
    rw [if_neg (by omega)]
  | succ j ih =>
    intro k i hj hi hk
    obtain ⟨k, rfl⟩ : ∃ j, k = j + 1 := ⟨k - 1, by omega⟩
    unfold ref02_Same.l0
    rw [if_pos (by omega), if_pos (by omega), if_pos (by omega), if_pos rfl, show wrap64 ((i : Int) + 1) = ((i + 1 : Nat) : Int) by unfold wrap64; omega]
    exact ih k (i + 1) (by omega) (by omega) (by omega)
theorem same_f (l : List Int) (hb : l.length ≤ 9223372036854775000) (k : Nat) (hk : l.length < k) : ref02_Same.f k l l = some true := by
  unfold ref02_Same.f
  rw [if_pos rfl]
  exact same_l l hb l.length k 0 (by omega) (by omega) hk

theorem LebMany : law02_LebMany.Pure := by
  intro l hm _ hl
  have hI : I64s l := fun x hx => wf_i64_ (hl x hx)
  refine ⟨l.length + 1, ?_⟩
  unfold law02_LebMany.f law02_shown.f leb_ToInts.f
  simp only [Option.bind_some]
  split
  · rfl
  · rename_i h5
    have hlen := intsL_len l
    rw [ints_f l hI (by omega) _ (by omega)]
    simp only [Option.bind_some]
    rw [show wrap64 ((l.length : Int) + 1) = ((l.length + 1 : Nat) : Int) by unfold wrap64; omega]
    rw [lebToInts_eq (intsL_range l hI) (by omega) (by omega), lebToInts_eq (intsL_range l hI) (by omega) (by omega)]
    have h1 := ints_back [] l [] hI
    have h2 := ints_more l [] hI
    rw [List.append_nil] at h1
    simp only [Int.toNat_natCast]
    rw [h1, h2]
    simp only [Option.bind_some, if_true, List.nil_append]
    rw [same_f l (by omega) _ (by omega)]
    simp
end Go.Proofs.Ytkjlimmdgnahgaa.Pure
