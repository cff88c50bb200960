/-
  What few says, of chapter 8.
-/
import Derived.Test.YtjchjdbfmiibhaaPRlax8
import Derived.Test.YtjchjdbfmiibhaaRlaA
namespace Go.Proofs.Ytjchjdbfmiibhaa.Pure
open Go.RowKit Go.Proofs.Ytjchjdbfmiibhaa.PRla Go.Proofs.YtjchjdbfmiibhaaW.PrintWords Go.Proofs.YtjchjdbfmiibhaaW.PrintLast Go.Proofs.YtjchjdbfmiibhaaW.PrintMore
open Go.Proofs.Ytjchjdbfmiibhaa.Hand

theorem few_l (l : List S32) (hl : l.length ≤ 140737488351232) (hw : ∀ v ∈ l, Wf v) : ∀ (j k i : Nat) (n : Int), i + j = l.length → j < k → 0 ≤ n → n ≤ 200000000000000 → ∃ b, law08_few.l0 k l n (i : Int) = some b ∧ (b = true → l.length ≤ 1000) := by
  intro j
  induction j with
  | zero =>
    intro k i n hi hk h0 h1
    obtain ⟨k, rfl⟩ : ∃ m, k = m + 1 := ⟨k - 1, by omega⟩
    simp only [law08_few.l0]
    rw [if_neg (by omega)]
    split
    · exact ⟨_, rfl, fun _ => by omega⟩
    · exact ⟨_, rfl, by simp⟩
  | succ j ih =>
    intro k i n hi hk h0 h1
    obtain ⟨k, rfl⟩ : ∃ m, k = m + 1 := ⟨k - 1, by omega⟩
    have hil : i < l.length := by omega
    have hv := (hw l[i] (List.getElem_mem hil)).2
    simp only [law08_few.l0, rd_at l i hil]
    rw [if_pos (by omega)]
    split
    · rw [if_pos (by omega), show wrap64 (n + (l[i].f2.size : Int)) = n + l[i].f2.size by unfold wrap64; omega, show wrap64 ((i : Int) + 1) = ((i + 1 : Nat) : Int) by unfold wrap64; omega]
      exact ih k (i + 1) _ (by omega) (by omega) (by omega) (by omega)
    · split
      · exact ⟨_, rfl, fun _ => by omega⟩
      · exact ⟨_, rfl, by simp⟩
theorem few_f (l : List S32) (hl : l.length ≤ 140737488351232) (hw : ∀ v ∈ l, Wf v) (k : Nat) (hk : l.length < k) : ∃ b, law08_few.f k l = some b ∧ (b = true → l.length ≤ 1000) := by
  have := few_l l hl hw l.length k 0 0 (by omega) hk (by omega) (by omega)
  unfold law08_few.f
  exact this
theorem shown_f : law08_shown.f = some true := rfl
end Go.Proofs.Ytjchjdbfmiibhaa.Pure
