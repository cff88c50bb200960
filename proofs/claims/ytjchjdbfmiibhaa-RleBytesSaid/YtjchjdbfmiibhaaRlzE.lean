/-
  The document's reading of runs is the program's (key Rlz).
-/
import Derived.Test.YtjchjdbfmiibhaaRlzD
namespace Go.Proofs.Ytjchjdbfmiibhaa.PureB
open Go.RowKit Go.Proofs.Ytjchjdbfmiibhaa.PRlz Go.Proofs.YtjchjdbfmiibhaaW.PrintWords Go.Proofs.YtjchjdbfmiibhaaW.PrintLast Go.Proofs.YtjchjdbfmiibhaaW.PrintMore
open Go.Proofs.Ytjchjdbfmiibhaa.Hand

theorem tr_ref {k : Int} (h1 : 1 ≤ k) (h3 : k ≤ 3) : ∀ (j K K2 : Nat) (b : List Int) (out : List S49) (n : Int), n ≤ (j : Int) → 60 + j < K → 100 + 2 * j < K2 → 0 ≤ n → n ≤ 4096 → out.length + n ≤ 10000 → Bs b → b.length ≤ 140737488351232 →
    ∃ r, rle_ToRuns.l0 K b n k out = some r ∧ ref08_ToRuns.l0 K2 b k (out.map t75) n = some (r.1.map t75, r.2) := by
  intro j
  induction j with
  | zero =>
    intro K K2 b out n hj hK hK2 h0 h4 ho hB hl
    obtain ⟨K, rfl⟩ : ∃ m, K = m + 1 := ⟨K - 1, by omega⟩
    obtain ⟨K2, rfl⟩ : ∃ m, K2 = m + 1 := ⟨K2 - 1, by omega⟩
    simp only [rle_ToRuns.l0, ref08_ToRuns.l0]
    have hn : ¬ n > 0 := by omega
    rw [if_neg hn, if_neg hn]
    by_cases hb : (b.length : Int) > 0
    · rw [if_pos hb, if_neg (by omega)]
      exact ⟨_, rfl, rfl⟩
    · rw [if_neg hb, if_pos (by omega)]
      exact ⟨_, rfl, rfl⟩
  | succ j ih =>
    intro K K2 b out n hj hK hK2 h0 h4 ho hB hl
    obtain ⟨K, rfl⟩ : ∃ m, K = m + 1 := ⟨K - 1, by omega⟩
    obtain ⟨K2, rfl⟩ : ∃ m, K2 = m + 2 := ⟨K2 - 2, by omega⟩
    simp only [rle_ToRuns.l0, ref08_ToRuns.l0]
    by_cases hn : n > 0
    · rw [if_pos hn, if_pos hn, next_f b n k hB hl h1 h3 hn h4 K (by omega), refGet_f hB hl (K2 + 1) (by omega)]
      simp only [Option.bind_some]
      have hr := fun (n : Int) (t : List Int) => rest_of (l := b) (n := n) (t := t) hB
      have hg := numGo_range b 0 0
      have hi := fun e => inl_ne b 0 0 e
      have hln := fun (v : Int) (t : List Int) => numGo_len b 0 0 v t
      unfold nx getOut
      generalize numGo b 0 0 = o at *
      rcases o with e | ⟨v, t⟩
      · have := hi e rfl
        simp only
        rw [if_neg this, if_neg this]
        exact ⟨_, rfl, rfl⟩
      · obtain ⟨r1, r2⟩ := hr _ _ rfl
        obtain ⟨n1, n2⟩ := hg v t hB (by omega) (by omega) (by decide) rfl
        have hl2 := hln _ _ rfl
        have hBt : Bs t := by rw [r2]; exact hB.drop _
        have hw : IntKind.u64.wrap n = n := by rw [IntKind.wrap_u64]; omega
        simp only
        rw [if_pos trivial]
        by_cases hv : v = 0 ∨ n < v
        · rw [if_pos hv]
          simp only
          rw [if_neg (by decide)]
          rcases hv with hv | hv
          · rw [if_pos hv, ref08_ToRuns.j2, if_pos rfl]
            exact ⟨_, rfl, rfl⟩
          · rw [if_neg (by omega), hw, ref08_ToRuns.j2, if_pos (decide_eq_true hv)]
            exact ⟨_, rfl, rfl⟩
        · rw [if_neg hv, if_neg (show ¬ v = 0 by omega), hw, ref08_ToRuns.j2, if_neg (show ¬ decide (v > n) = true by rw [decide_eq_true_iff]; omega), if_pos (show (0 : Int) ≤ (b.length : Int) - (t.length : Int) by omega), if_pos (show (b.length : Int) - (t.length : Int) ≤ (b.length : Int) by omega), show ((b.length : Int) - (t.length : Int)).toNat = b.length - t.length by omega, ← r2,
            rof_f t k hBt (by omega) h1 h3 K2 (by omega)]
          simp only [Option.bind_some]
          by_cases hd : (dec t k).2.2.2.2 = 0
          · have hdq := enc_dec hBt (by omega) h1 h3 hd
            rw [if_pos hd, if_pos hd]
            simp only
            rw [if_pos trivial, last_f out (by omega)]
            simp only [Option.bind_some]
            have hB2 : Bs (dec t k).2.2.2.1 := fun x hx => hBt x (by rw [hdq.2]; exact List.mem_append_right _ hx)
            have hL2 : (dec t k).2.2.2.1.length ≤ 140737488351232 := by
              have := congrArg List.length hdq.2
              rw [List.length_append] at this
              omega
            have key : ∃ r, (if out.length < 3518437208883 then rle_ToRuns.l0 K (dec t k).2.2.2.1 (wrap64 (n - v)) k (out ++ [⟨v, ⟨(dec t k).1, (dec t k).2.1, (dec t k).2.2.1⟩⟩]) else none) = some r ∧
                (if (out.map t75).length < 3518437208883 then ref08_ToRuns.l0 K2 (dec t k).2.2.2.1 k (out.map t75 ++ [⟨wrap64 v, ⟨(dec t k).1, (dec t k).2.1, (dec t k).2.2.1⟩⟩]) (wrap64 (n - wrap64 v)) else none) = some (r.1.map t75, r.2) := by
              have e1 : wrap64 v = v := w64 (by omega) (by omega)
              have e2 : wrap64 (n - v) = n - v := w64 (by omega) (by omega)
              rw [if_pos (by omega), if_pos (by rw [List.length_map]; omega), e1, e2]
              have := ih K K2 (dec t k).2.2.2.1 (out ++ [⟨v, ⟨(dec t k).1, (dec t k).2.1, (dec t k).2.2.1⟩⟩]) (n - v) (by omega) (by omega) (by omega) (by omega) (by omega) (by rw [List.length_append, List.length_singleton]; omega) hB2 hL2
              rw [List.map_append] at this
              exact this
            rcases List.eq_nil_or_concat out with rfl | ⟨o, p, rfl⟩
            · simp only [List.getLast?_nil, Bool.false_eq_true, if_false]
              rw [if_neg (show ¬ (((([] : List S49).map t75).length : Int) > 0) by simp)]
              exact key
            · simp only [List.concat_eq_append] at *
              simp only [List.getLast?_concat]
              rw [if_pos trivial]
              have hlen : ((o ++ [p]).map t75).length = o.length + 1 := by simp
              have hidx : wrap64 ((((o ++ [p]).map t75).length : Int) - 1) = (o.length : Int) := by
                rw [List.length_append, List.length_singleton] at ho
                rw [hlen, w64 (by omega) (by omega)]
                omega
              have e75 : rd_T75 ((o ++ [p]).map t75) (o.length : Int) = t75 p := by
                rw [rd75_at _ o.length (by rw [hlen]; omega), List.getElem_map]
                simp
              rw [if_pos (show ((((o ++ [p]).map t75).length : Int) > 0) by rw [hlen]; omega), hidx, if_pos (show (0 : Int) ≤ (o.length : Int) by omega), if_pos (show (o.length : Int) < (((o ++ [p]).map t75).length : Int) by rw [hlen]; omega), e75]
              by_cases hpv : p.f1 = ⟨(dec t k).1, (dec t k).2.1, (dec t k).2.2.1⟩
              · have hv2 := (veq p.f1 ⟨(dec t k).1, (dec t k).2.1, (dec t k).2.2.1⟩).2 hpv
                simp only at hv2
                rw [if_pos hv2, if_pos (show ((t75 p).f1.f0 == (dec t k).1 && ((t75 p).f1.f1 == (dec t k).2.1 && ((t75 p).f1.f2.toList == (dec t k).2.2.1.toList))) = true from hv2)]
                exact ⟨_, rfl, rfl⟩
              · have hv2 : ¬ (p.f1.f0 == (dec t k).1 && (p.f1.f1 == (dec t k).2.1 && (p.f1.f2.toList == (dec t k).2.2.1.toList))) = true := fun q => hpv ((veq p.f1 ⟨(dec t k).1, (dec t k).2.1, (dec t k).2.2.1⟩).1 q)
                rw [if_neg hv2, if_neg (show ¬ ((t75 p).f1.f0 == (dec t k).1 && ((t75 p).f1.f1 == (dec t k).2.1 && ((t75 p).f1.f2.toList == (dec t k).2.2.1.toList))) = true from hv2)]
                exact key
          · rw [if_neg hd, if_neg hd]
            simp only
            rw [if_neg hd]
            exact ⟨_, rfl, rfl⟩
    · rw [if_neg hn, if_neg hn]
      by_cases hb : (b.length : Int) > 0
      · rw [if_pos hb, if_neg (by omega)]
        exact ⟨_, rfl, rfl⟩
      · rw [if_neg hb, if_pos (by omega)]
        exact ⟨_, rfl, rfl⟩
end Go.Proofs.Ytjchjdbfmiibhaa.PureB
