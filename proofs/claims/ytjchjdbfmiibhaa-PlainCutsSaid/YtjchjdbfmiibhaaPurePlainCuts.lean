/-
  Bytes of a column, cut anywhere ahead of their end, are not as many values: for every input. (PlainCuts)
-/
import Derived.Test.YtjchjdbfmiibhaaPPlax11
import Derived.Test.YtjchjdbfmiibhaaPlaB
namespace Go.Proofs.Ytjchjdbfmiibhaa.Pure
open Go.RowKit Go.Proofs.Ytjchjdbfmiibhaa.PPla Go.Proofs.YtjchjdbfmiibhaaW.PrintWords Go.Proofs.YtjchjdbfmiibhaaW.PrintLast Go.Proofs.YtjchjdbfmiibhaaW.PrintMore
open Go.Proofs.Ytjchjdbfmiibhaa.Hand

theorem PlainCuts : law07_PlainCuts.Pure := by
  intro l k cut hl hk hcut
  obtain ⟨hlen, hw⟩ := wf_all hl
  have hu : 0 ≤ cut ∧ cut ≤ 65535 := by simpa [Lit.wf, IntKind.min, IntKind.max, IntKind.signed, IntKind.bits] using hcut
  refine ⟨140737488351232 + 10000, ?_⟩
  generalize hK : 140737488351232 + 10000 = K
  unfold law07_PlainCuts.f
  obtain ⟨c, e, hc⟩ := few_f l hlen hw K (by omega)
  rw [shown_f K (by omega), e]
  simp only [Option.bind_some]
  cases c with
  | false => rfl
  | true =>
    have h1000 := hc rfl
    rw [if_pos rfl, pbytes_f l k hw K (by omega)]
    simp only [Option.bind_some]
    by_cases h0 : chk l k = 0
    · rw [if_pos h0]
      obtain ⟨k1, k3, hl4, _, hm⟩ := chk_ok h0
      have hfl := flat_len l hm
      have hok := ok_all hw h0
      simp only [if_true]
      by_cases hz : ((l.flatMap vby).length : Int) = 0
      · rw [if_pos hz]
      · rw [if_neg hz, show wrap64 cut = cut by unfold wrap64; omega, Int.tmod_eq_emod_of_nonneg hu.1]
        have hpos : (0 : Int) < ((l.flatMap vby).length : Int) := by omega
        have m1 := Int.emod_nonneg cut hz
        have m2 := Int.emod_lt_of_pos cut hpos
        generalize cut % ((l.flatMap vby).length : Int) = j at *
        rw [if_pos m1, if_pos (by omega)]
        unfold plain_Of.f
        rw [if_neg (by omega), if_neg (by omega), of_cut k1 k3 l K j.toNat [] 0 l.length hok (by omega) (by omega) (by omega) (by omega) (by simp) (by omega) (by omega)]
        rfl
    · rw [if_neg h0]
      simp only
      rw [if_neg h0]
end Go.Proofs.Ytjchjdbfmiibhaa.Pure
