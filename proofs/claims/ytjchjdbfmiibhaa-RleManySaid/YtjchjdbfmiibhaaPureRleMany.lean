/-
  However often a value is there, at most 4096 times, its bytes are as many, and two at most for the number: for every input. (RleMany)
-/
import Derived.Test.YtjchjdbfmiibhaaRlaF
namespace Go.Proofs.Ytjchjdbfmiibhaa.Pure
open Go.RowKit Go.Proofs.Ytjchjdbfmiibhaa.PRla Go.Proofs.YtjchjdbfmiibhaaW.PrintWords Go.Proofs.YtjchjdbfmiibhaaW.PrintLast Go.Proofs.YtjchjdbfmiibhaaW.PrintMore
open Go.Proofs.Ytjchjdbfmiibhaa.Hand

theorem runs_rep (v : S32) : ∀ (n : Nat) (c : Int), runs [⟨c, v⟩] (List.replicate n v) = [⟨c + n, v⟩]
  | 0, c => by simp [runs]
  | n + 1, c => by
    have ih := runs_rep v n (c + 1)
    unfold runs at *
    rw [List.replicate_succ, List.foldl_cons]
    have e : step [⟨c, v⟩] v = [⟨c + 1, v⟩] := by
      have := step_snoc [] ⟨c, v⟩ v
      rw [if_pos rfl] at this
      exact this
    rw [e, ih]
    congr 2
    push_cast
    omega
theorem runs_rep0 (v : S32) (n : Nat) : runs [] (List.replicate (n + 1) v) = [⟨(n : Int) + 1, v⟩] := by
  have := runs_rep v n 1
  unfold runs at *
  rw [List.replicate_succ, List.foldl_cons, step_nil, this]
  congr 2
  omega
theorem put_small (n : Int) (h : 1 ≤ n) (h2 : n ≤ 4096) : (putL 9 n).length = if n < 128 then 1 else 2 := by
  unfold putL
  split
  · rfl
  · unfold putL
    rw [if_pos (by omega)]; rfl
theorem many_tail (v : S32) (n : Nat) (hn : n < 5000) (k : Nat) (hk : 6000 ≤ k) (one b : List Int) (e f : Int)
    (h1 : (if chk [v] v.f0 = 0 then ((runs [] [v]).flatMap rby, (0 : Int)) else ([], chk [v] v.f0)) = (one, f))
    (h2 : (if chk (List.replicate n v) v.f0 = 0 then ((runs [] (List.replicate n v)).flatMap rby, (0 : Int)) else ([], chk (List.replicate n v) v.f0)) = (b, e)) :
    (if (n : Int) = 0 then law08_RleMany.j1 k true (n : Int) one b e true else law08_RleMany.j1 k true (n : Int) one b e (f != 0)) = some true := by
  obtain ⟨k, rfl⟩ : ∃ m, k = m + 1 := ⟨k - 1, by omega⟩
  simp only [law08_RleMany.j1, if_true]
  by_cases h0 : (n : Int) = 0
  · rw [if_pos h0]
  · rw [if_neg h0]
    obtain ⟨m, rfl⟩ : ∃ m, n = m + 1 := ⟨n - 1, by omega⟩
    by_cases hf : chk [v] v.f0 = 0
    · rw [if_pos hf] at h1
      obtain ⟨c1, c3, _, _, cm⟩ := chk_ok hf
      have hmv := cm v (by simp)
      have hf0 : f = 0 := by injection h1 with _ h; exact h.symm
      rw [hf0, if_neg (by simp)]
      by_cases hbig : ((m + 1 : Nat) : Int) > 4096
      · rw [if_pos hbig]
        have : chk (List.replicate (m + 1) v) v.f0 = 2 := by
          unfold chk
          rw [if_neg (by omega), if_pos (by rw [List.length_replicate]; omega)]
        rw [this, if_neg (by decide)] at h2
        have : e = 2 := by injection h2 with _ h; exact h.symm
        rw [this]; rfl
      · rw [if_neg hbig]
        have hz : chk (List.replicate (m + 1) v) v.f0 = 0 := chk_zero c1 c3 (by rw [List.length_replicate]; omega) (fun x hx => by rw [List.eq_of_mem_replicate hx]) (fun x hx => by rw [List.eq_of_mem_replicate hx]; exact hmv)
        rw [hz, if_pos rfl, runs_rep0] at h2
        have r1 : runs [] [v] = [⟨1, v⟩] := rfl
        rw [r1] at h1
        simp only [List.flatMap_cons, List.flatMap_nil, List.append_nil, rby, Prod.mk.injEq] at h1 h2
        obtain ⟨rfl, -⟩ := h1
        obtain ⟨rfl, rfl⟩ := h2
        have p1 := put_small 1 (by omega) (by omega)
        have p2 := put_small ((m : Int) + 1) (by omega) (by omega)
        have hl := vby_len hmv
        rw [if_pos (by omega)] at p1
        have q1 : ((putL 9 1 ++ vby v).length : Int) = 1 + (vby v).length := by rw [List.length_append, p1]; omega
        have q2 : ((putL 9 ((m : Int) + 1) ++ vby v).length : Int) = (if (m : Int) + 1 < 128 then 1 else 2) + (vby v).length := by
          rw [List.length_append, p2]
          split <;> omega
        rw [if_pos rfl, q1, q2]
        generalize (vby v).length = z at hl
        by_cases c : (m : Int) + 1 < 128
        · rw [if_pos c, if_pos (by omega), decide_eq_true (by unfold wrap64; omega)]
        · rw [if_neg c, if_pos (by omega), decide_eq_true (by unfold wrap64; omega)]
    · rw [if_neg hf] at h1
      have hf0 : f ≠ 0 := by injection h1 with _ h; omega
      rw [show (f != 0) = true by simpa using hf0, if_pos rfl]
theorem many_l (v : S32) (hv : Wf v) (n : Nat) (hn : n < 5000) : ∀ (j k i : Nat), i + j = n → j + 6010 < k → law08_RleMany.l0 k true (n : Int) (List.replicate i v) (i : Int) v.f0 v.f1 v.f2 = some true := by
  intro j
  induction j with
  | zero =>
    intro k i hi hk
    obtain ⟨k, rfl⟩ : ∃ m, k = m + 1 := ⟨k - 1, by omega⟩
    obtain rfl : i = n := by omega
    simp only [law08_RleMany.l0]
    rw [if_neg (by omega)]
    have w1 : ∀ x ∈ [v], Wf x := fun x hx => by rw [List.mem_singleton.1 hx]; exact hv
    have w2 : ∀ x ∈ List.replicate i v, Wf x := fun x hx => by rw [List.eq_of_mem_replicate hx]; exact hv
    rw [show ([(⟨v.f0, v.f1, v.f2⟩ : S32)] : List S32) = [v] from rfl, rbytes_f [v] v.f0 w1 k (by omega), rbytes_f (List.replicate i v) v.f0 w2 k (by omega)]
    simp only [Option.bind_some]
    exact many_tail v i hn k (by omega) _ _ _ _ rfl rfl
  | succ j ih =>
    intro k i hi hk
    obtain ⟨k, rfl⟩ : ∃ m, k = m + 1 := ⟨k - 1, by omega⟩
    simp only [law08_RleMany.l0]
    rw [if_pos (by omega), if_pos (by rw [List.length_replicate]; omega), show wrap64 ((i : Int) + 1) = ((i + 1 : Nat) : Int) by unfold wrap64; omega]
    have e : List.replicate i v ++ [(⟨v.f0, v.f1, v.f2⟩ : S32)] = List.replicate (i + 1) v := by
      rw [List.replicate_succ']
    rw [e]
    exact ih k (i + 1) (by omega) (by omega)
theorem RleMany : law08_RleMany.Pure := by
  intro k0 i0 s0 a1 h1 h2 h3 h4
  have hu : 0 ≤ a1 ∧ a1 ≤ 65535 := by simpa [Lit.wf, IntKind.min, IntKind.max, IntKind.signed, IntKind.bits] using h4
  refine ⟨20000, ?_⟩
  unfold law08_RleMany.f
  rw [shown_f]
  simp only [Option.bind_some]
  obtain ⟨n, hn, e⟩ : ∃ n : Nat, n < 5000 ∧ wrap64 (Int.tmod a1 5000) = (n : Int) := by
    rw [Int.tmod_eq_emod_of_nonneg hu.1]
    exact ⟨(a1 % 5000).toNat, by omega, by unfold wrap64; omega⟩
  rw [e]
  exact many_l ⟨k0, i0, s0⟩ ⟨wf_i64_ h2, h3⟩ n hn n 20000 0 (by omega) (by omega)
end Go.Proofs.Ytjchjdbfmiibhaa.Pure
