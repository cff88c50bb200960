/-
  Runs read and spread: the document's are the program's (key Rlz).
-/
import Derived.Test.YtjchjdbfmiibhaaRlzE
namespace Go.Proofs.Ytjchjdbfmiibhaa.PureB
open Go.RowKit Go.Proofs.Ytjchjdbfmiibhaa.PRlz Go.Proofs.YtjchjdbfmiibhaaW.PrintWords Go.Proofs.YtjchjdbfmiibhaaW.PrintLast Go.Proofs.YtjchjdbfmiibhaaW.PrintMore
open Go.Proofs.Ytjchjdbfmiibhaa.Hand

theorem toRuns_f (b : List Int) (n k : Int) (hB : Bs b) (hl : b.length ≤ 140737488351232) (K : Nat) (hK : 20000 ≤ K) :
    ∃ r, rle_ToRuns.f K b n k = some r ∧ ref08_ToRuns.f K b n k = some (r.1.map t75, r.2) ∧ (r.2 = 0 → (∀ x ∈ r.1, 1 ≤ x.f0) ∧ (exp r.1).length ≤ 4096) ∧ (r.2 ≠ 0 → r.1 = []) := by
  obtain ⟨K, rfl⟩ : ∃ m, K = m + 1 := ⟨K - 1, by omega⟩
  unfold rle_ToRuns.f ref08_ToRuns.f
  rw [pof_f k (K + 1) (by omega), kinds_f k]
  simp only [Option.bind_some]
  by_cases hk : k < 1 ∨ 3 < k
  · have hkd : ¬ decide (1 ≤ k ∧ k ≤ 3) = true := by rw [decide_eq_true_iff]; omega
    rw [if_pos hk, if_neg (show ¬ (1 : Int) = 0 by decide), if_neg hkd]
    exact ⟨([], 1), rfl, rfl, fun h => absurd h (by decide), fun _ => rfl⟩
  · have hkd : decide (1 ≤ k ∧ k ≤ 3) = true := decide_eq_true ⟨by omega, by omega⟩
    rw [if_neg hk, if_pos (show (0 : Int) = 0 from rfl), if_pos hkd]
    by_cases h0 : n < 0
    · rw [if_pos h0, if_pos h0, rle_ToRuns.j0, ref08_ToRuns.j0, if_pos rfl, if_pos rfl]
      exact ⟨([], 2), rfl, rfl, fun h => absurd h (by decide), fun _ => rfl⟩
    · rw [if_neg h0, if_neg h0, rle_ToRuns.j0, ref08_ToRuns.j0]
      by_cases h4 : n > 4096
      · rw [if_pos (decide_eq_true h4), if_pos (decide_eq_true h4)]
        exact ⟨([], 2), rfl, rfl, fun h => absurd h (by decide), fun _ => rfl⟩
      · have hd : ¬ decide (n > 4096) = true := by rw [decide_eq_true_iff]; exact h4
        rw [if_neg hd, if_neg hd]
        obtain ⟨r, q1, q2⟩ := tr_ref (k := k) (by omega) (by omega) n.toNat K K b [] n (by omega) (by omega) (by omega) (by omega) (by omega) (by simp only [List.length_nil]; omega) hB hl
        obtain ⟨r2, p1, p2, p3⟩ := tr_back (k := k) (by omega) (by omega) n.toNat K b [] n (by omega) (by omega) (by omega) (by omega) (by simp only [List.length_nil]; omega) hB hl
        rw [q1] at p1
        obtain rfl := Option.some.inj p1
        refine ⟨r, q1, q2, fun hz => ?_, p3⟩
        obtain ⟨rs, e1, _, _, e4, e5⟩ := p2 hz
        rw [List.nil_append] at e1
        rw [e1]
        exact ⟨fun x hx => (e4 x hx).1, by omega⟩
theorem refSpread_l1 (r : List S49) (hr : r.length ≤ 1000000) (hp : ∀ x ∈ r, 1 ≤ x.f0) (ht : (exp r).length ≤ 4096) : ∀ (m i j k : Nat) (hi : i < r.length), (exp (r.take i)).length + j + m = (exp r).length + (r.length - i) → (j : Int) ≤ r[i].f0 → 2 * m + 5 < k →
    ref08_Spread.l1 k (r.map t75) (exp (r.take i) ++ List.replicate j r[i].f1) (i : Int) (j : Int) = some (exp r) := by
  intro m
  induction m with
  | zero =>
    intro i j k hi hm hj hk
    have e := exp_take r i hi
    have hle := exp_take_le r (i + 1)
    rw [e, List.length_append, List.length_replicate] at hle
    omega
  | succ m ih =>
    intro i j k hi hm hj hk
    obtain ⟨k, rfl⟩ : ∃ q, k = q + 2 := ⟨k - 2, by omega⟩
    have e := exp_take r i hi
    have hle := exp_take_le r (i + 1)
    rw [e, List.length_append, List.length_replicate] at hle
    have e75 : rd_T75 (r.map t75) (i : Int) = t75 r[i] := by rw [rd75_at _ i (by rw [List.length_map]; exact hi), List.getElem_map]
    have hfl : (t75 r[i]).f0 = r[i].f0 := rfl
    rw [ref08_Spread.l1, if_pos (by omega), if_pos (by rw [List.length_map]; omega), e75, hfl]
    by_cases c : (j : Int) < r[i].f0
    · rw [if_pos c, if_pos (by rw [List.length_append, List.length_replicate]; omega), if_pos (by rw [List.length_append, List.length_replicate]; omega), w64 (by omega) (by omega)]
      have ha : exp (r.take i) ++ List.replicate j r[i].f1 ++ [(⟨(t75 r[i]).f1.f0, (t75 r[i]).f1.f1, (t75 r[i]).f1.f2⟩ : S32)] = exp (r.take i) ++ List.replicate (j + 1) r[i].f1 := by
        rw [List.append_assoc, List.replicate_succ']
        rfl
      rw [ha, show ((j : Int) + 1) = ((j + 1 : Nat) : Int) by omega]
      exact ih i (j + 1) (k + 1) hi (by omega) (by omega) (by omega)
    · rw [if_neg c, w64 (by omega) (by omega), show ((i : Int) + 1) = ((i + 1 : Nat) : Int) by omega]
      have hj2 : j = r[i].f0.toNat := by omega
      rw [hj2, ← e, ref08_Spread.l0]
      by_cases c2 : i + 1 < r.length
      · rw [if_pos (by rw [List.length_map]; omega)]
        have := ih (i + 1) 0 k c2 (by rw [e, List.length_append, List.length_replicate]; omega) (by have := hp _ (List.getElem_mem c2); omega) (by omega)
        rw [List.replicate_zero, List.append_nil] at this
        exact this
      · rw [if_neg (by rw [List.length_map]; omega), List.take_of_length_le (by omega)]
theorem refSpread_f (r : List S49) (hr : r.length ≤ 4096) (hp : ∀ x ∈ r, 1 ≤ x.f0) (ht : (exp r).length ≤ 4096) (k : Nat) (hk : 20000 ≤ k) : ref08_Spread.f k (r.map t75) = some (exp r) := by
  obtain ⟨k, rfl⟩ : ∃ q, k = q + 1 := ⟨k - 1, by omega⟩
  unfold ref08_Spread.f
  rw [ref08_Spread.l0]
  by_cases c : 0 < r.length
  · rw [if_pos (by rw [List.length_map]; omega)]
    have := refSpread_l1 r (by omega) hp ht ((exp r).length + r.length) 0 0 k c (by simp [exp]) (by have := hp _ (List.getElem_mem c); omega) (by omega)
    simpa [exp] using this
  · rw [if_neg (by rw [List.length_map]; omega)]
    have : r = [] := List.eq_nil_of_length_eq_zero (by omega)
    rw [this]; rfl
end Go.Proofs.Ytjchjdbfmiibhaa.PureB
