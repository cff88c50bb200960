/-
  Any values' runs, and bytes, and any bytes as so many values, are the document's, or refused: for every input. (RleBytes)
-/
import Derived.Test.YtjchjdbfmiibhaaRlzF
namespace Go.Proofs.Ytjchjdbfmiibhaa.PureB
open Go.RowKit Go.Proofs.Ytjchjdbfmiibhaa.PRlz Go.Proofs.YtjchjdbfmiibhaaW.PrintWords Go.Proofs.YtjchjdbfmiibhaaW.PrintLast Go.Proofs.YtjchjdbfmiibhaaW.PrintMore
open Go.Proofs.Ytjchjdbfmiibhaa.Hand

theorem exp_ge : ∀ rs : List S49, (∀ x ∈ rs, 1 ≤ x.f0) → rs.length ≤ (exp rs).length
  | [], _ => Nat.zero_le _
  | x :: t, h => by
    have h1 := exp_ge t (fun y hy => h y (List.mem_cons_of_mem _ hy))
    have h2 := h x List.mem_cons_self
    rw [exp_cons, List.length_append, List.length_replicate, List.length_cons]
    omega
theorem of_both (b : List Int) (n k : Int) (hB : Bs b) (hl : b.length ≤ 140737488351232) (K : Nat) (hK : 20000 ≤ K) :
    ∃ r o, rle_ToRuns.f K b n k = some r ∧ ref08_ToRuns.f K b n k = some (r.1.map t75, r.2) ∧ r.1.length ≤ 4096 ∧ rle_Of.f K b n k = some (o, r.2) ∧ ref08_Of.f K b n k = some (o, r.2) ∧ o.length ≤ 4096 := by
  obtain ⟨r, q1, q2, q3, q4⟩ := toRuns_f b n k hB hl K hK
  unfold rle_Of.f ref08_Of.f
  by_cases hz : r.2 = 0
  · obtain ⟨g1, g2⟩ := q3 hz
    have hg := exp_ge r.1 g1
    refine ⟨r, exp r.1, q1, q2, by omega, ?_, ?_, g2⟩
    · rw [q1]
      simp only [Option.bind_some]
      rw [if_pos hz, spread_f r.1 (by omega) g1 g2 K (by omega), hz]
      rfl
    · rw [q2]
      simp only [Option.bind_some]
      rw [refSpread_f r.1 (by omega) g1 g2 K hK]
      rfl
  · have he := q4 hz
    refine ⟨r, [], q1, q2, by rw [he]; simp, ?_, ?_, by simp⟩
    · rw [q1]
      simp only [Option.bind_some]
      rw [if_neg hz]
    · rw [q2, he]
      simp only [Option.bind_some]
      rw [refSpread_f [] (by simp) (by simp) (by simp [exp]) K hK]
      rfl
theorem RleBytes : law08_RleBytes.Pure := by
  intro l kind b n hl _ _ hb2 hb _
  obtain ⟨hl1, hw⟩ := wf_all hl
  have hB : Bs b := fun x hx => wf_u8_ (hb x hx)
  obtain ⟨K, hK⟩ : ∃ K : Nat, K = 140737488351232 + 30000 := ⟨_, rfl⟩
  refine ⟨K, ?_⟩
  obtain ⟨b1, e1, f1⟩ := few_f l hl1 hw K (by omega)
  obtain ⟨r, o, q1, q2, q3, q4, q5, q6⟩ := of_both b n kind hB (by omega) K (by omega)
  unfold law08_RleBytes.f
  rw [show law08_shown.f = some true from rfl, e1]
  simp only [Option.bind_some]
  cases b1 with
  | false => rw [if_neg (by decide)]
  | true =>
    have h1000 := f1 rfl
    have hinv := (inv_runs l [] 0 inv_nil).1
    rw [if_pos rfl, rbytes_f l kind hw K (by omega), refBytes_f l kind hw K (by omega), q4, q5, q1, q2, runs_f l (by omega) K (by omega), refRuns_f l (by omega) K (by omega)]
    simp only [Option.bind_some]
    rw [same75_f _ (by omega) K (by omega)]
    simp only [Option.bind_some]
    rw [same75_f r.1 (by omega) K (by omega)]
    simp only [Option.bind_some, if_true]
    rw [same_f o (by omega) K (by omega)]
    simp
end Go.Proofs.Ytjchjdbfmiibhaa.PureB
namespace Go.Proofs.Ytjchjdbfmiibhaa.Pure
theorem RleBytes : Go.Proofs.Ytjchjdbfmiibhaa.PRlz.law08_RleBytes.Pure := Go.Proofs.Ytjchjdbfmiibhaa.PureB.RleBytes
end Go.Proofs.Ytjchjdbfmiibhaa.Pure
