/-
  What was laid down is read; what is read is laid down as the very bytes; with a byte more it is refused: for every input. (PlainBack)
-/
import Derived.Test.YtjchjdbfmiibhaaPPlax11
import Derived.Test.YtjchjdbfmiibhaaPlaB
namespace Go.Proofs.Ytjchjdbfmiibhaa.Pure
open Go.RowKit Go.Proofs.Ytjchjdbfmiibhaa.PPla Go.Proofs.YtjchjdbfmiibhaaW.PrintWords Go.Proofs.YtjchjdbfmiibhaaW.PrintLast Go.Proofs.YtjchjdbfmiibhaaW.PrintMore
open Go.Proofs.Ytjchjdbfmiibhaa.Hand

theorem same_l (l : List S32) (hl : l.length ≤ 1000000) : ∀ (j k i : Nat), i + j = l.length → j < k → ref05_Same.l0 k l l (i : Int) = some true := by
  intro j
  induction j with
  | zero =>
    intro k i hi hk
    obtain ⟨k, rfl⟩ : ∃ m, k = m + 1 := ⟨k - 1, by omega⟩
    simp only [ref05_Same.l0]
    rw [if_neg (by omega)]
  | succ j ih =>
    intro k i hi hk
    obtain ⟨k, rfl⟩ : ∃ m, k = m + 1 := ⟨k - 1, by omega⟩
    simp only [ref05_Same.l0]
    rw [if_pos (by omega), if_pos (by omega), if_pos (by omega), if_neg (by simp), show wrap64 ((i : Int) + 1) = ((i + 1 : Nat) : Int) by unfold wrap64; omega]
    exact ih k (i + 1) (by omega) (by omega)
theorem same_f (l : List S32) (hl : l.length ≤ 1000000) (k : Nat) (hk : l.length < k) : ref05_Same.f k l l = some true := by
  unfold ref05_Same.f
  rw [if_pos rfl]
  exact same_l l hl l.length k 0 (by omega) hk
/-- Any bytes, read. -/
theorem of_any (b : List Int) (n k : Int) (hB : Bs b) (hl : b.length ≤ 140737488351232) (K : Nat) (hK : 5000 ≤ K) :
    ∃ r, plain_Of.f K b n k = some r ∧ (r.2 = 0 → 1 ≤ k ∧ k ≤ 3 ∧ 0 ≤ n ∧ n ≤ 4096 ∧ (r.1.length : Int) = n ∧ b = r.1.flatMap vby ∧ ∀ v ∈ r.1, Ok k v) ∧ (r.2 ≠ 0 → r.1 = []) := by
  unfold plain_Of.f
  by_cases hk : k < 1 ∨ 3 < k
  · rw [if_pos hk]
    exact ⟨_, rfl, fun h => (by cases h), fun _ => rfl⟩
  · rw [if_neg hk]
    by_cases hn : n < 0 ∨ 4096 < n
    · rw [if_pos hn]
      exact ⟨_, rfl, fun h => (by cases h), fun _ => rfl⟩
    · rw [if_neg hn]
      obtain ⟨r, hr, g1, g2⟩ := of_back (k := k) (by omega) (by omega) n.toNat K b [] 0 n (by omega) (by omega) (by omega) (by omega) (by simp) hB hl
      refine ⟨r, hr, fun h => ?_, g2⟩
      obtain ⟨vs, v1, v2, v3, v4⟩ := g1 h
      rw [List.nil_append] at v1
      subst v1
      exact ⟨by omega, by omega, by omega, by omega, by omega, v3, v4⟩
theorem of_bytes (l : List S32) (k : Int) (hw : ∀ v ∈ l, Wf v) (hc : chk l k = 0) (rest : List Int) (hR : Bs rest) (hr : rest.length ≤ 10) (K : Nat) (hK : 5000 ≤ K) :
    plain_Of.f K (l.flatMap vby ++ rest) l.length k = some (if (rest.length : Int) > 0 then ([], 4) else (l, 0)) := by
  obtain ⟨k1, k3, hl, _, hm⟩ := chk_ok hc
  have hfl := flat_len l hm
  unfold plain_Of.f
  rw [if_neg (by omega), if_neg (by omega)]
  have := of_vals k1 k3 rest hR l K [] 0 l.length (ok_all hw hc) (by omega) (by omega) (by omega) (by omega) (by simp) (by rw [List.length_append]; omega)
  rw [this]
  simp
theorem back_tail (k : Int) (b : List Int) (n : Int) (hB : Bs b) (hl : b.length ≤ 140737488351232) (K : Nat) (hK : 5000 ≤ K) : law07_PlainBack.j0 (K + 1) k b n true false = some true := by
  simp only [law07_PlainBack.j0, Bool.false_eq_true, if_false]
  obtain ⟨r, hr, g1, g2⟩ := of_any b n k hB hl K hK
  rw [hr]
  simp only [Option.bind_some, if_true]
  by_cases h0 : r.2 = 0
  · obtain ⟨k1, k3, n0, n4, hlen, hb, hok⟩ := g1 h0
    have hc : chk r.1 k = 0 := chk_zero k1 k3 (by omega) (fun v hv => (hok v hv).1) (fun v hv => (hok v hv).2.2)
    rw [if_pos h0, pbytes_f r.1 k (fun v hv => (hok v hv).2.1) K hK, if_pos hc]
    simp only [Option.bind_some, if_true]
    rw [if_pos (by rw [hb]), hlen]
    simp
  · rw [if_neg h0, g2 h0]; rfl
theorem PlainBack : law07_PlainBack.Pure := by
  intro l k b n hl hk hb1 hb2 hb3 hn
  obtain ⟨hlen, hw⟩ := wf_all hl
  have hB : Bs b := fun x hx => wf_u8_ (hb3 x hx)
  refine ⟨140737488351232 + 10000, ?_⟩
  generalize hK : 140737488351232 + 10000 = K
  obtain ⟨K, rfl⟩ : ∃ n, K = n + 1 := ⟨K - 1, by omega⟩
  unfold law07_PlainBack.f
  obtain ⟨c, e, hc⟩ := few_f l hlen hw (K + 1) (by omega)
  rw [shown_f (K + 1) (by omega), e]
  simp only [Option.bind_some]
  cases c with
  | false => rfl
  | true =>
    have h1000 := hc rfl
    have hbt := back_tail k b n hB (by omega) K (by omega)
    rw [if_pos rfl, pbytes_f l k hw (K + 1) (by omega)]
    by_cases h0 : chk l k = 0
    · rw [if_pos h0]
      obtain ⟨k1, k3, hl4, _, hm⟩ := chk_ok h0
      have hfl := flat_len l hm
      have e1 := of_bytes l k hw h0 [] (by intro x hx; cases hx) (by simp) (K + 1) (by omega)
      have e2 := of_bytes l k hw h0 [0] (by intro x hx; rw [List.mem_singleton.1 hx]; decide) (by simp) (K + 1) (by omega)
      rw [List.append_nil] at e1
      simp only [List.length_nil, List.length_singleton] at e1 e2
      rw [if_neg (by decide)] at e1
      rw [if_pos (by decide)] at e2
      simp only [Option.bind_some, List.nil_append]
      rw [e1]
      simp only [Option.bind_some, List.length_nil]
      rw [if_pos (by omega), if_pos (by omega), e2]
      simp only [Option.bind_some, if_true]
      first
        | rw [same_f l (by omega) (K + 1) (by omega)]
        | (rw [if_pos rfl, same_f l (by omega) (K + 1) (by omega)])

      simp only [Option.bind_some, if_true]
      first | exact hbt | (rw [if_pos (by decide)]; exact hbt) | (rw [if_neg (by decide)]; exact hbt)
    · rw [if_neg h0]
      simp only [Option.bind_some, List.nil_append, List.length_nil]
      obtain ⟨r1, q1, -, -⟩ := of_any [] l.length k (by intro x hx; cases hx) (by simp) (K + 1) (by omega)
      obtain ⟨r2, q2, -, -⟩ := of_any [0] l.length k (by intro x hx; rw [List.mem_singleton.1 hx]; decide) (by simp) (K + 1) (by omega)
      rw [q1]
      simp only [Option.bind_some]
      rw [if_pos (by decide), if_pos (by decide), q2]
      simp only [Option.bind_some]
      rw [if_neg h0]
      exact hbt
end Go.Proofs.Ytjchjdbfmiibhaa.Pure
