/-
  Runs spread are the values; no two behind one another have one value, none is empty; together they are as many: for every input. (RleRuns)
-/
import Derived.Test.YtjchjdbfmiibhaaRlbA
namespace Go.Proofs.Ytjchjdbfmiibhaa.PureB
open Go.RowKit Go.Proofs.Ytjchjdbfmiibhaa.PRlb Go.Proofs.YtjchjdbfmiibhaaW.PrintWords Go.Proofs.YtjchjdbfmiibhaaW.PrintLast Go.Proofs.YtjchjdbfmiibhaaW.PrintMore
open Go.Proofs.Ytjchjdbfmiibhaa.Hand

theorem wsum (a : List S32) (n : Int) (v : S32) (h : a.length ≤ 1000000) (h0 : 0 ≤ n) (h1 : n ≤ 1000000) : wrap64 ((a.length : Int) + n) = ((a ++ List.replicate n.toNat v).length : Int) := by
  rw [List.length_append, List.length_replicate]
  unfold wrap64
  omega
theorem wsucc (i : Nat) (h : i ≤ 1000000) : wrap64 ((i : Int) + 1) = ((i + 1 : Nat) : Int) := by unfold wrap64; omega
theorem wpred (i : Nat) (h0 : (i : Int) > 0) (h : i ≤ 1000000) : wrap64 ((i : Int) - 1) = ((i - 1 : Nat) : Int) := by unfold wrap64; omega
theorem rr_l (l : List S32) (hl : l.length ≤ 1000) : ∀ (j k i : Nat), i + j = (runs [] l).length → j + 2000 < k → law08_RleRuns.l0 k l true (runs [] l) ((exp ((runs [] l).take i)).length : Int) (i : Int) = some true := by
  have hinv := inv_runs l [] 0 inv_nil
  have hadj := adj_runs l [] adj_nil
  have hexp := exp_all l
  have hsp := spread_runs l (by omega)
  have hrl := hinv.1
  have hp := hinv.2
  generalize runs [] l = r at *
  intro j
  induction j with
  | zero =>
    intro k i hi hk
    obtain ⟨k, rfl⟩ : ∃ m, k = m + 1 := ⟨k - 1, by omega⟩
    rw [law08_RleRuns.l0, if_neg (by omega), List.take_of_length_le (by omega), hexp, if_pos rfl, if_pos rfl, hsp k (by omega)]
    simp only [Option.bind_some]
    rw [same_f l (by omega) k (by omega)]
    rfl
  | succ j ih =>
    intro k i hi hk
    obtain ⟨k, rfl⟩ : ∃ m, k = m + 1 := ⟨k - 1, by omega⟩
    have hil : i < r.length := by omega
    have h1 := hp r[i] (List.getElem_mem hil)
    have e := exp_take r i hil
    have hle := exp_take_le r (i + 1)
    rw [hexp, e, List.length_append, List.length_replicate] at hle
    have hnext := ih k (i + 1) (by omega) (by omega)
    have c1 : (i : Int) < (r.length : Int) := by omega
    have c2 : (0 : Int) ≤ (i : Int) := by omega
    have c3 : ¬ (r[i].f0 < 1) := by omega
    have c4 : (0 : Int) ≤ ((i - 1 : Nat) : Int) := by omega
    have c5 : ((i - 1 : Nat) : Int) < (r.length : Int) := by omega
    have c6 : i - 1 < r.length := by omega
    have c7 : i ≤ 1000000 := by omega
    have c8 : (exp (r.take i)).length ≤ 1000000 ∧ 0 ≤ r[i].f0 ∧ r[i].f0 ≤ 1000000 := by omega
    have c9 : ∀ h0 : (i : Int) > 0, i - 1 + 1 < r.length ∧ i - 1 + 1 = i := by intro h0; omega
    have hw := wsum (exp (r.take i)) r[i].f0 r[i].f1 c8.1 c8.2.1 c8.2.2
    rw [← e] at hw
    simp only [law08_RleRuns.l0]
    rw [if_pos c1, if_pos c2, rd49_at r i hil, if_neg c3, hw, wsucc i c7]
    by_cases h0 : (i : Int) > 0
    · obtain ⟨c10, c11⟩ := c9 h0
      rw [if_pos h0, wpred i h0 c7, if_pos c4, if_pos c5, rd49_at r (i - 1) c6, if_neg]
      · exact hnext
      · intro q
        have := adj_at hadj (i - 1) c10
        have q2 := (veq _ _).1 q
        simp only [c11] at this
        exact this q2.symm
    · rw [if_neg h0]
      exact hnext
end Go.Proofs.Ytjchjdbfmiibhaa.PureB
namespace Go.Proofs.Ytjchjdbfmiibhaa.Pure
open Go.RowKit Go.Proofs.Ytjchjdbfmiibhaa.PRlb Go.Proofs.Ytjchjdbfmiibhaa.PureB
theorem RleRuns : law08_RleRuns.Pure := by
  intro l hl
  obtain ⟨hlen, hw⟩ := PureB.wf_all hl
  refine ⟨140737488351232 + 10000, ?_⟩
  generalize hK : 140737488351232 + 10000 = K
  unfold law08_RleRuns.f
  obtain ⟨b, e, hb⟩ := PureB.few_f l hlen hw K (by omega)
  rw [show law08_shown.f = some true from rfl, e]
  simp only [Option.bind_some]
  cases b with
  | false => rfl
  | true =>
    have l1 := hb rfl
    have hinv := PureB.inv_runs l [] 0 PureB.inv_nil
    have := hinv.1
    rw [if_pos rfl, PureB.runs_f l (by omega) K (by omega)]
    simp only [Option.bind_some]
    have := PureB.rr_l l l1 (PureB.runs [] l).length K 0 (by omega) (by omega)
    simpa [PureB.exp] using this
end Go.Proofs.Ytjchjdbfmiibhaa.Pure
