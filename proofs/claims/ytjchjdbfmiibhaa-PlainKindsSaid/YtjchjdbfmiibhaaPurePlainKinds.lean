/-
  A column of one kind is no one of another, but if it has no values; with nothing among it is none: for every input. (PlainKinds)
-/
import Derived.Test.YtjchjdbfmiibhaaPlaA
namespace Go.Proofs.Ytjchjdbfmiibhaa.Pure
open Go.RowKit Go.Proofs.Ytjchjdbfmiibhaa.PPla Go.Proofs.YtjchjdbfmiibhaaW.PrintWords Go.Proofs.YtjchjdbfmiibhaaW.PrintLast Go.Proofs.YtjchjdbfmiibhaaW.PrintMore

theorem kind_of (a : Int) (h : 0 ≤ a ∧ a < 256) : ∃ k, wrap64 (1 + wrap64 (Int.tmod a 3)) = k ∧ 1 ≤ k ∧ k ≤ 3 := by
  rw [Int.tmod_eq_emod_of_nonneg h.1]
  exact ⟨1 + a % 3, by unfold wrap64; omega, by omega, by omega⟩
theorem wf_zero : Wf ⟨0, 0, ⟨#[]⟩⟩ := ⟨by decide, by decide⟩
theorem PlainKinds : law07_PlainKinds.Pure := by
  intro l a1 a2 hl h1 h2
  obtain ⟨hlen, hw⟩ := wf_all hl
  obtain ⟨k, hk, k1, k3⟩ := kind_of a1 (Hand.wf_u8_ h1)
  obtain ⟨j, hj, j1, j3⟩ := kind_of a2 (Hand.wf_u8_ h2)
  refine ⟨140737488351232 + 10000, ?_⟩
  generalize hK : 140737488351232 + 10000 = K
  unfold law07_PlainKinds.f
  obtain ⟨b, e, hb⟩ := few_f l hlen hw K (by omega)
  rw [shown_f K (by omega), e, hk, hj]
  simp only [Option.bind_some]
  cases b with
  | false => rfl
  | true =>
    have h1000 := hb rfl
    rw [if_pos rfl, check_f]
    simp only [Option.bind_some]
    by_cases hc : chk l k = 0
    · rw [if_pos hc, if_pos (by simp; omega)]
      simp only [List.nil_append]
      have hw2 : ∀ v ∈ l ++ [(⟨0, 0, ⟨#[]⟩⟩ : S32)], Wf v := by
        intro v hv
        rcases List.mem_append.1 hv with hv | hv
        · exact hw v hv
        · rw [List.mem_singleton.1 hv]; exact wf_zero
      have h7 : chk (l ++ [(⟨0, 0, ⟨#[]⟩⟩ : S32)]) k = 7 := by
        unfold chk
        rw [if_neg (by omega), if_neg (by simp; omega), if_pos]
        simp only [List.any_eq_true]
        exact ⟨⟨0, 0, ⟨#[]⟩⟩, by simp, by simp; omega⟩
      rw [if_pos (by omega), pbytes_f _ k hw2 K (by omega), h7, check_f, check_f, check_f]
      simp only [Option.bind_some]
      have e0 : chk l 0 = 1 := by unfold chk; rw [if_pos (by omega)]
      have e4 : chk l 4 = 1 := by unfold chk; rw [if_pos (by omega)]
      rw [e0, e4]
      by_cases hkj : k = j
      · subst hkj
        simp [hc]
      · rw [if_neg hkj]
        obtain ⟨_, _, _, c4, c5⟩ := chk_ok hc
        cases l with
        | nil =>
          have : chk [] j = 0 := chk_zero j1 j3 (by simp) (by simp) (by simp)
          simp [this]
        | cons v t =>
          have : chk (v :: t) j = 7 := by
            unfold chk
            rw [if_neg (by omega), if_neg (by omega), if_pos]
            simp only [List.any_eq_true]
            exact ⟨v, List.mem_cons_self, by simp [c4 v List.mem_cons_self, hkj]⟩
          rw [this]
          simp
          omega
    · rw [if_neg hc]
end Go.Proofs.Ytjchjdbfmiibhaa.Pure
