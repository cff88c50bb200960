/-
  What was laid down in runs is read; what is read is laid down as the very bytes: for every input. (RleBack)
-/
import Derived.Test.YtjchjdbfmiibhaaRlcA
namespace Go.Proofs.Ytjchjdbfmiibhaa.PureB
open Go.RowKit Go.Proofs.Ytjchjdbfmiibhaa.PRlc Go.Proofs.YtjchjdbfmiibhaaW.PrintWords Go.Proofs.YtjchjdbfmiibhaaW.PrintLast Go.Proofs.YtjchjdbfmiibhaaW.PrintMore
open Go.Proofs.Ytjchjdbfmiibhaa.Hand

theorem pof_f (k : Int) (K : Nat) (hK : 5 ≤ K) : plain_Of.f K [] 0 k = some ([], if k < 1 ∨ 3 < k then 1 else 0) := by
  obtain ⟨K, rfl⟩ : ∃ m, K = m + 1 := ⟨K - 1, by omega⟩
  unfold plain_Of.f
  by_cases h : k < 1 ∨ 3 < k
  · rw [if_pos h, if_pos h]
  · rw [if_neg h, if_neg h, if_neg (by omega)]
    simp only [plain_Of.l0]
    rw [if_neg (by omega), if_neg (by simp)]
theorem exp_ge : ∀ rs : List S49, (∀ x ∈ rs, 1 ≤ x.f0) → rs.length ≤ (exp rs).length
  | [], _ => Nat.zero_le _
  | x :: t, h => by
    have h1 := exp_ge t (fun y hy => h y (List.mem_cons_of_mem _ hy))
    have h2 := h x List.mem_cons_self
    rw [exp_cons, List.length_append, List.length_replicate, List.length_cons]
    omega
theorem of_back {b : List Int} {n k : Int} (hB : Bs b) (hl : b.length ≤ 140737488351232) (K : Nat) (hK : 10000 ≤ K) :
    ∃ r, rle_Of.f K b n k = some r ∧ (r.2 = 0 → 1 ≤ k ∧ k ≤ 3 ∧ 0 ≤ n ∧ n ≤ 4096 ∧ ∃ rs : List S49, r.1 = exp rs ∧ b = rs.flatMap rby ∧ Chn none rs ∧ (∀ x ∈ rs, 1 ≤ x.f0 ∧ Ok k x.f1) ∧ ((exp rs).length : Int) = n) ∧ (r.2 ≠ 0 → r.1 = []) := by
  unfold rle_Of.f rle_ToRuns.f
  rw [pof_f k K (by omega)]
  simp only [Option.bind_some]
  by_cases hk : k < 1 ∨ 3 < k
  · rw [if_pos hk, if_neg (show ¬ (1 : Int) = 0 by decide)]
    simp only [Option.bind_some]
    rw [if_neg (show ¬ (1 : Int) = 0 by decide)]
    exact ⟨_, rfl, fun h => (by cases h), fun _ => rfl⟩
  · rw [if_neg hk, if_pos rfl]
    obtain ⟨K, rfl⟩ : ∃ m, K = m + 1 := ⟨K - 1, by omega⟩
    by_cases hn : n < 0 ∨ 4096 < n
    · have e : (if n < 0 then rle_ToRuns.j0 (K + 1) b n k true else rle_ToRuns.j0 (K + 1) b n k (decide (n > 4096))) = some ([], 2) := by
        by_cases h0 : n < 0
        · rw [if_pos h0]; simp only [rle_ToRuns.j0]; rfl
        · rw [if_neg h0, decide_eq_true (show n > 4096 by omega)]; simp only [rle_ToRuns.j0]; rfl
      rw [e]
      simp only [Option.bind_some]
      rw [if_neg (show ¬ (2 : Int) = 0 by decide)]
      exact ⟨_, rfl, fun h => (by cases h), fun _ => rfl⟩
    · have e : (if n < 0 then rle_ToRuns.j0 (K + 1) b n k true else rle_ToRuns.j0 (K + 1) b n k (decide (n > 4096))) = rle_ToRuns.l0 K b n k [] := by
        rw [if_neg (show ¬ n < 0 by omega), decide_eq_false (show ¬ n > 4096 by omega)]
        simp only [rle_ToRuns.j0, Bool.false_eq_true, if_false]
      obtain ⟨r, g0, g1, g2⟩ := tr_back (k := k) (by omega) (by omega) n.toNat K b [] n (by omega) (by omega) (by omega) (by omega) (by show ((0 : Nat) : Int) + n ≤ 10000; omega) hB hl
      rw [e, g0]
      simp only [Option.bind_some]
      by_cases hr : r.2 = 0
      · obtain ⟨rs, e1, e2, e3, e4, e5⟩ := g1 hr
        rw [List.nil_append] at e1
        rw [if_pos hr, e1]
        have hle : rs.length ≤ (exp rs).length := exp_ge rs (fun x hx => (e4 x hx).1)
        rw [spread_f rs (by omega) (fun x hx => (e4 x hx).1) (by omega) (K + 1) (by omega)]
        exact ⟨_, rfl, fun _ => ⟨by omega, by omega, by omega, by omega, rs, rfl, e2, e3, e4, e5⟩, fun h => absurd rfl h⟩
      · rw [if_neg hr]
        exact ⟨_, rfl, fun h => absurd h hr, fun _ => rfl⟩
theorem of_enc {l : List S32} {k : Int} (hw : ∀ v ∈ l, Wf v) (hc : chk l k = 0) (K : Nat) (hK : 10000 ≤ K) : rle_Of.f K ((runs [] l).flatMap rby) l.length k = some (l, 0) := by
  obtain ⟨k1, k3, hl, hkk, hm⟩ := chk_ok hc
  obtain ⟨K, rfl⟩ : ∃ m, K = m + 1 := ⟨K - 1, by omega⟩
  have hinv := inv_runs l [] 0 inv_nil
  have hok := ok_all hw hc
  have hv := runs_vals l [] (fun v => Ok k v) (by simp) hok
  have hrl := hinv.1
  have hx : ∀ x ∈ runs [] l, (1 ≤ x.f0 ∧ x.f0 ≤ 4096) ∧ Ok k x.f1 := fun x hx => ⟨⟨(hinv.2 x hx).1, by have := (hinv.2 x hx).2; omega⟩, hv x hx⟩
  have hfl : ((runs [] l).flatMap rby).length ≤ 2010 * (runs [] l).length := by
    have : ∀ rs : List S49, (∀ x ∈ rs, Ok k x.f1) → (rs.flatMap rby).length ≤ 2010 * rs.length := by
      intro rs
      induction rs with
      | nil => intro _; simp
      | cons x t ih =>
        intro h
        have h1 := ih (fun y hy => h y (List.mem_cons_of_mem _ hy))
        have h2 := vby_len (h x List.mem_cons_self).2.2
        have h3 := putL9_len (n := x.f0)
        rw [List.flatMap_cons, List.length_append, List.length_cons]
        unfold rby at *
        rw [List.length_append]
        omega
    exact this _ hv
  have ht := tr_enc k1 k3 (runs [] l) K [] l.length (chn_runs l) hx (by rw [exp_all]) (by omega) (by show ((0 : Nat) : Int) + l.length ≤ 10000; omega) (by omega) (by omega)
  unfold rle_Of.f rle_ToRuns.f
  rw [pof_f k (K + 1) (by omega)]
  simp only [Option.bind_some]
  rw [if_neg (show ¬ (k < 1 ∨ 3 < k) by omega), if_pos rfl, if_neg (show ¬ (l.length : Int) < 0 by omega), decide_eq_false (show ¬ (l.length : Int) > 4096 by omega)]
  simp only [rle_ToRuns.j0, Bool.false_eq_true, if_false]
  rw [ht]
  simp only [Option.bind_some, if_true, List.nil_append]
  rw [spread_runs l (by omega) (K + 1) (by omega)]
  rfl
theorem back_tail (k : Int) (b : List Int) (n : Int) (hB : Bs b) (hl : b.length ≤ 140737488351232) (K : Nat) (hK : 10000 ≤ K) : law08_RleBack.j0 (K + 1) k b n true false = some true := by
  simp only [law08_RleBack.j0, Bool.false_eq_true, if_false]
  obtain ⟨r, hr, g1, g2⟩ := of_back (n := n) (k := k) hB hl K hK
  rw [hr]
  simp only [Option.bind_some, if_true]
  by_cases h0 : r.2 = 0
  · obtain ⟨k1, k3, n0, n4, rs, e1, e2, e3, e4, e5⟩ := g1 h0
    have hmem : ∀ v ∈ r.1, Ok k v := by
      intro v hv
      rw [e1] at hv
      obtain ⟨x, hx, hxv⟩ := List.mem_flatMap.1 hv
      rw [(List.mem_replicate.1 hxv).2]
      exact (e4 x hx).2
    have hlen : (r.1.length : Int) = n := by rw [e1]; exact e5
    have hc : chk r.1 k = 0 := chk_zero k1 k3 (by omega) (fun v hv => (hmem v hv).1) (fun v hv => (hmem v hv).2.2)
    have hrun : runs [] r.1 = rs := by
      have := runs_exp rs [] e3 (fun x hx => (e4 x hx).1)
      rw [e1]
      simpa using this
    rw [if_pos h0, rbytes_f r.1 k (fun v hv => (hmem v hv).2.1) K (by omega), if_pos hc, hrun]
    simp only [Option.bind_some, if_true]
    rw [if_pos (by rw [← e2]), hlen]
    simp
  · rw [if_neg h0, g2 h0]; rfl
end Go.Proofs.Ytjchjdbfmiibhaa.PureB
namespace Go.Proofs.Ytjchjdbfmiibhaa.Pure
open Go.RowKit Go.Proofs.Ytjchjdbfmiibhaa.PRlc Go.Proofs.YtjchjdbfmiibhaaW.PrintWords Go.Proofs.YtjchjdbfmiibhaaW.PrintLast Go.Proofs.YtjchjdbfmiibhaaW.PrintMore Go.Proofs.Ytjchjdbfmiibhaa.Hand Go.Proofs.Ytjchjdbfmiibhaa.PureB
theorem RleBack : law08_RleBack.Pure := by
  intro l k b n hl hk hb1 hb2 hb3 hn
  obtain ⟨hlen, hw⟩ := PureB.wf_all hl
  have hB : PureB.Bs b := fun x hx => wf_u8_ (hb3 x hx)
  refine ⟨140737488351232 + 20000, ?_⟩
  generalize hK : 140737488351232 + 20000 = K
  obtain ⟨K, rfl⟩ : ∃ n, K = n + 1 := ⟨K - 1, by omega⟩
  unfold law08_RleBack.f
  obtain ⟨c, e, hc⟩ := PureB.few_f l hlen hw (K + 1) (by omega)
  rw [show law08_shown.f = some true from rfl, e]
  simp only [Option.bind_some]
  cases c with
  | false => rfl
  | true =>
    have h1000 := hc rfl
    have hbt := PureB.back_tail k b n hB (by omega) K (by omega)
    rw [if_pos rfl, PureB.rbytes_f l k hw (K + 1) (by omega)]
    by_cases h0 : PureB.chk l k = 0
    · rw [if_pos h0]
      simp only [Option.bind_some]
      rw [PureB.of_enc hw h0 (K + 1) (by omega)]
      simp only [Option.bind_some, if_true]
      rw [PureB.same_f l (by omega) (K + 1) (by omega)]
      simp only [Option.bind_some, Bool.not_true]
      exact hbt
    · rw [if_neg h0]
      simp only [Option.bind_some]
      obtain ⟨r, q1, -, -⟩ := PureB.of_back (b := []) (n := (l.length : Int)) (k := k) (by intro x hx; cases hx) (by simp) (K + 1) (by omega)
      rw [q1]
      simp only [Option.bind_some]
      rw [if_neg h0]
      exact hbt
end Go.Proofs.Ytjchjdbfmiibhaa.Pure
