/-
  The bytes of two columns one behind the other are those of both: for every input. (PlainJoins)
-/
import Derived.Test.YtjchjdbfmiibhaaPlaA
import Derived.Test.YtjchjdbfmiibhaaPPlax7
namespace Go.Proofs.Ytjchjdbfmiibhaa.Pure
open Go.RowKit Go.Proofs.Ytjchjdbfmiibhaa.PPla Go.Proofs.YtjchjdbfmiibhaaW.PrintWords Go.Proofs.YtjchjdbfmiibhaaW.PrintLast Go.Proofs.YtjchjdbfmiibhaaW.PrintMore

theorem chk_append {l m : List S32} {k : Int} (hl : l.length ≤ 1000) (hm : m.length ≤ 1000) : chk (l ++ m) k = 0 ↔ chk l k = 0 ∧ chk m k = 0 := by
  constructor
  · intro h
    obtain ⟨h1, h3, _, hk, hmm⟩ := chk_ok h
    exact ⟨chk_zero h1 h3 (by omega) (fun v hv => hk v (List.mem_append_left _ hv)) (fun v hv => hmm v (List.mem_append_left _ hv)),
      chk_zero h1 h3 (by omega) (fun v hv => hk v (List.mem_append_right _ hv)) (fun v hv => hmm v (List.mem_append_right _ hv))⟩
  · rintro ⟨h1, h2⟩
    obtain ⟨a1, a2, _, a4, a5⟩ := chk_ok h1
    obtain ⟨_, _, _, b4, b5⟩ := chk_ok h2
    refine chk_zero a1 a2 (by rw [List.length_append]; omega) ?_ ?_
    · intro v hv
      rcases List.mem_append.1 hv with hv | hv
      · exact a4 v hv
      · exact b4 v hv
    · intro v hv
      rcases List.mem_append.1 hv with hv | hv
      · exact a5 v hv
      · exact b5 v hv
theorem PlainJoins : law07_PlainJoins.Pure := by
  intro l m k hl hm hk
  obtain ⟨hlen, hw⟩ := wf_all hl
  obtain ⟨mlen, mw⟩ := wf_all hm
  refine ⟨140737488351232 + 10000, ?_⟩
  generalize hK : 140737488351232 + 10000 = K
  obtain ⟨K, rfl⟩ : ∃ n, K = n + 1 := ⟨K - 1, by omega⟩
  unfold law07_PlainJoins.f
  obtain ⟨b, e, hb⟩ := few_f l hlen hw (K + 1) (by omega)
  obtain ⟨b2, e2, hb2⟩ := few_f m mlen mw (K + 1) (by omega)
  rw [shown_f (K + 1) (by omega), e, e2]
  simp only [Option.bind_some, law07_PlainJoins.j0]
  cases b with
  | false => rfl
  | true =>
    cases b2 with
    | false => rfl
    | true =>
      have l1 := hb rfl
      have m1 := hb2 rfl
      have hwm : ∀ v ∈ l ++ m, Wf v := by
        intro v hv
        rcases List.mem_append.1 hv with hv | hv
        · exact hw v hv
        · exact mw v hv
      have hap := chk_append (k := k) l1 m1
      rw [if_pos rfl, if_neg (by simp), pbytes_f l k hw K (by omega), pbytes_f m k mw K (by omega)]
      simp only [Option.bind_some, List.nil_append]
      rw [if_pos (by simp; omega), if_pos (by omega), pbytes_f (l ++ m) k hwm K (by omega)]
      simp only [Option.bind_some]
      by_cases c1 : chk l k = 0
      · by_cases c2 : chk m k = 0
        · have c3 := hap.2 ⟨c1, c2⟩
          obtain ⟨_, _, x1, _, x2⟩ := chk_ok c1
          obtain ⟨_, _, y1, _, y2⟩ := chk_ok c2
          have f1 := flat_len l x2
          have f2 := flat_len m y2
          rw [if_pos c1, if_pos c2, if_pos c3]
          simp only [if_true]
          rw [if_pos (by rw [Hand.strOfNums_size, Hand.strOfNums_size]; omega), List.flatMap_append, strOfNums_append]
          simp
        · have c3 : chk (l ++ m) k ≠ 0 := fun h => c2 (hap.1 h).2
          rw [if_pos c1, if_neg c2, if_neg c3]
          simp [c2, c3]
      · have c3 : chk (l ++ m) k ≠ 0 := fun h => c1 (hap.1 h).1
        rw [if_neg c1, if_neg c3]
        simp [c1, c3]
end Go.Proofs.Ytjchjdbfmiibhaa.Pure
