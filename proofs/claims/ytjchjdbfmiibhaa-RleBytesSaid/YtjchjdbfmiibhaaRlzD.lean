/-
  The document's checks, kinds, and bytes of runs are the program's (key Rlz).
-/
import Derived.Test.YtjchjdbfmiibhaaRlzC
import Derived.Test.YtjchjdbfmiibhaaPRlzx21
namespace Go.Proofs.Ytjchjdbfmiibhaa.PureB
open Go.RowKit Go.Proofs.Ytjchjdbfmiibhaa.PRlz Go.Proofs.YtjchjdbfmiibhaaW.PrintWords Go.Proofs.YtjchjdbfmiibhaaW.PrintLast Go.Proofs.YtjchjdbfmiibhaaW.PrintMore
open Go.Proofs.Ytjchjdbfmiibhaa.Hand

theorem leO_ge {α : Type} {f : Nat → Option α} (h : ∀ k, LeO (f k) (f (k + 1))) {r : α} {a : Nat} (ha : f a = some r) : ∀ j, f (a + j) = some r
  | 0 => ha
  | j + 1 => h (a + j) _ (leO_ge h ha j)
theorem rbytes_ge {k i : Int} {s : ByteArray} {r : List Int × Int} (h : ref05_Bytes.f 40 k i s = some r) (K : Nat) (hK : 40 ≤ K) : ref05_Bytes.f K k i s = some r := by
  obtain ⟨j, rfl⟩ : ∃ j, K = 40 + j := ⟨K - 40, by omega⟩
  exact leO_ge (f := fun n => ref05_Bytes.f n k i s) (fun n => ref05_Bytes.mono _ _ _ n) h j
theorem rof_ge {l : List Int} {k : Int} {r : Int × Int × ByteArray × List Int × Int} (h : ref05_Of.f 40 l k = some r) (K : Nat) (hK : 40 ≤ K) : ref05_Of.f K l k = some r := by
  obtain ⟨j, rfl⟩ : ∃ j, K = 40 + j := ⟨K - 40, by omega⟩
  exact leO_ge (f := fun n => ref05_Of.f n l k) (fun n => ref05_Of.mono _ _ n) h j
theorem rof_f (l : List Int) (k : Int) (hB : Bs l) (hl : l.length ≤ 140737488351232) (h1 : 1 ≤ k) (h3 : k ≤ 3) (K : Nat) (hK : 40 ≤ K) : ref05_Of.f K l k = some (dec l k) := by
  obtain ⟨r, q1, q2⟩ := of_eq l k hB hl
  rw [of_f l k hB hl h1 h3 40 (by omega)] at q1
  rw [Option.some.inj q1]
  exact rof_ge q2 K hK
theorem rby_f (v : S32) (hv : Wf v) (K : Nat) (hK : 40 ≤ K) : ref05_Bytes.f K v.f0 v.f1 v.f2 = some (if mayOf v = true then (vby v, 0) else ([], 1)) := by
  obtain ⟨r, q1, q2⟩ := bytes_eq v.f0 v.f1 v.f2 hv.1 hv.2
  rw [vbytes_f v hv 40 (by omega)] at q1
  rw [Option.some.inj q1]
  exact rbytes_ge q2 K hK
theorem rmay_f (v : S32) : ref05_May.f v.f0 v.f1 v.f2 = some (mayOf v) := by
  obtain ⟨b, q1, q2⟩ := may_eq v.f0 v.f1 v.f2
  rw [may_of v] at q1
  rw [Option.some.inj q1]
  exact q2
theorem kinds_f (k : Int) : ref07_Kinds.f k = some (decide (1 ≤ k ∧ k ≤ 3)) := by
  unfold ref07_Kinds.f
  by_cases h1 : k = 1
  · rw [if_pos h1, decide_eq_true (by omega)]
  · rw [if_neg h1]
    by_cases h2 : k = 2
    · rw [if_pos h2, decide_eq_true (by omega)]
    · rw [if_neg h2]
      congr 1
      rw [Bool.eq_iff_iff, beq_iff_eq, decide_eq_true_iff]
      omega
theorem rcheck_1 (l : List S32) (hl : l.length ≤ 4096) : ∀ (j K i : Nat), i + j = l.length → j < K → ref07_Check.l1 K l (i : Int) = some (if ((l.drop i).any fun v => !mayOf v) = true then 1 else 0) := by
  intro j
  induction j with
  | zero =>
    intro K i hi hK
    obtain ⟨K, rfl⟩ : ∃ m, K = m + 1 := ⟨K - 1, by omega⟩
    simp only [ref07_Check.l1]
    rw [if_neg (by omega), List.drop_eq_nil_of_le (by omega)]
    rfl
  | succ j ih =>
    intro K i hi hK
    obtain ⟨K, rfl⟩ : ∃ m, K = m + 1 := ⟨K - 1, by omega⟩
    have hil : i < l.length := by omega
    simp only [ref07_Check.l1]
    rw [if_pos (by omega), if_pos (by omega), rd_at l i hil, rmay_f l[i], List.drop_eq_getElem_cons hil, show wrap64 ((i : Int) + 1) = ((i + 1 : Nat) : Int) by unfold wrap64; omega, ih K (i + 1) (by omega) (by omega)]
    simp only [Option.bind_some]
    by_cases hm : mayOf l[i] = true
    · rw [if_pos hm]; simp only [List.any_cons, hm, Bool.not_true, Bool.false_or]
    · rw [if_neg hm]; simp only [List.any_cons, show mayOf l[i] = false by simpa using hm, Bool.not_false, Bool.true_or, if_true]
theorem rcheck_0 (l : List S32) (k : Int) (hl : l.length ≤ 4096) : ∀ (j K i : Nat), i + j = l.length → 5000 + j < K → ref07_Check.l0 K l k (i : Int) = some (if ((l.drop i).any fun v => v.f0 != k) = true then 7 else if (l.any fun v => !mayOf v) = true then 1 else 0) := by
  intro j
  induction j with
  | zero =>
    intro K i hi hK
    obtain ⟨K, rfl⟩ : ∃ m, K = m + 1 := ⟨K - 1, by omega⟩
    simp only [ref07_Check.l0]
    have := rcheck_1 l hl l.length K 0 (by omega) (by omega)
    rw [List.drop_zero] at this
    rw [if_neg (by omega), List.drop_eq_nil_of_le (by omega), show (0 : Int) = ((0 : Nat) : Int) from rfl, this]
    simp
  | succ j ih =>
    intro K i hi hK
    obtain ⟨K, rfl⟩ : ∃ m, K = m + 1 := ⟨K - 1, by omega⟩
    have hil : i < l.length := by omega
    simp only [ref07_Check.l0]
    rw [if_pos (by omega), if_pos (by omega), rd_at l i hil, List.drop_eq_getElem_cons hil, show wrap64 ((i : Int) + 1) = ((i + 1 : Nat) : Int) by unfold wrap64; omega, ih K (i + 1) (by omega) (by omega)]
    by_cases h : l[i].f0 = k
    · rw [if_pos h]; simp only [List.any_cons, show (l[i].f0 != k) = false by simp [h], Bool.false_or]
    · rw [if_neg h]; simp only [List.any_cons, show (l[i].f0 != k) = true by simp [h], Bool.true_or, if_true]
theorem rcheck_f (l : List S32) (k : Int) (K : Nat) (hK : 10000 ≤ K) : ref07_Check.f K l k = some (chk l k) := by
  unfold ref07_Check.f chk
  rw [kinds_f k]
  simp only [Option.bind_some, decide_eq_true_eq]
  by_cases h1 : k < 1 ∨ 3 < k
  · rw [if_pos h1, if_neg (by omega)]
  · rw [if_neg h1, if_pos (by omega)]
    by_cases h2 : 4096 < l.length
    · rw [if_pos h2, if_pos (by omega)]
    · rw [if_neg h2, if_neg (by omega)]
      have := rcheck_0 l k (by omega) l.length K 0 (by omega) (by omega)
      rw [List.drop_zero] at this
      exact this
theorem pof_f (k : Int) (K : Nat) (hK : 5 ≤ K) : plain_Of.f K [] 0 k = some ([], if k < 1 ∨ 3 < k then 1 else 0) := by
  obtain ⟨K, rfl⟩ : ∃ m, K = m + 1 := ⟨K - 1, by omega⟩
  unfold plain_Of.f
  by_cases h : k < 1 ∨ 3 < k
  · rw [if_pos h, if_pos h]
  · rw [if_neg h, if_neg h, if_neg (by omega)]
    simp only [plain_Of.l0]
    rw [if_neg (by omega), if_neg (by simp)]
theorem rd75_at (l : List S75) (i : Nat) (h : i < l.length) : rd_T75 l (i : Int) = l[i] := by
  unfold rd_T75
  rw [List.getD_eq_getElem?_getD, Int.toNat_natCast, List.getElem?_eq_getElem h]; rfl
theorem same75_l (r : List S49) (hl : r.length ≤ 1000000) : ∀ (j k i : Nat), i + j = r.length → j < k → law08_same.l0 k r (r.map t75) (i : Int) = some true := by
  intro j
  induction j with
  | zero =>
    intro k i hi hk
    obtain ⟨k, rfl⟩ : ∃ m, k = m + 1 := ⟨k - 1, by omega⟩
    rw [law08_same.l0, if_neg (by omega)]
  | succ j ih =>
    intro k i hi hk
    obtain ⟨k, rfl⟩ : ∃ m, k = m + 1 := ⟨k - 1, by omega⟩
    have hil : i < r.length := by omega
    have e : rd_T75 (r.map t75) (i : Int) = t75 r[i] := by rw [rd75_at _ i (by rw [List.length_map]; exact hil), List.getElem_map]
    rw [law08_same.l0, if_pos (by omega), if_pos (by omega), if_pos (by rw [List.length_map]; omega), rd49_at r i hil, e, if_pos (show r[i].f0 = (t75 r[i]).f0 from rfl), if_neg (by simp [t75]), w64 (by omega) (by omega), show ((i : Int) + 1) = ((i + 1 : Nat) : Int) by omega]
    exact ih k (i + 1) (by omega) (by omega)
theorem same75_f (r : List S49) (hl : r.length ≤ 1000000) (k : Nat) (hk : r.length < k) : law08_same.f k r (r.map t75) = some true := by
  unfold law08_same.f
  rw [if_pos (by rw [List.length_map])]
  exact same75_l r hl r.length k 0 (by omega) hk
theorem refBytes_l (l : List S49) (hl : l.length ≤ 4096) (hw : ∀ r ∈ l, Wf r.f1 ∧ mayOf r.f1 = true ∧ 1 ≤ r.f0 ∧ r.f0 ≤ 4096) : ∀ (j k i : Nat) (acc : List Int), i + j = l.length → j + 50 < k → acc.length ≤ 2010 * i →
    ref08_Bytes.l0 k acc (l.map t75) (i : Int) = some (acc ++ (l.drop i).flatMap rby, 0) := by
  intro j
  induction j with
  | zero =>
    intro k i acc hi hk ha
    obtain ⟨k, rfl⟩ : ∃ m, k = m + 1 := ⟨k - 1, by omega⟩
    rw [ref08_Bytes.l0, if_neg (by rw [List.length_map]; omega), List.drop_eq_nil_of_le (by omega)]
    simp
  | succ j ih =>
    intro k i acc hi hk ha
    obtain ⟨k, rfl⟩ : ∃ m, k = m + 1 := ⟨k - 1, by omega⟩
    have hil : i < l.length := by omega
    obtain ⟨hv, hmv, hn1, hn2⟩ := hw l[i] (List.getElem_mem hil)
    have hlen := vby_len hmv
    have hpl := putL9_len (n := l[i].f0)
    have hww : wrap64 ((i : Int) + 1) = ((i + 1 : Nat) : Int) := by unfold wrap64; omega
    have hu : IntKind.u64.wrap l[i].f0 = l[i].f0 := by rw [IntKind.wrap_u64]; omega
    have e : rd_T75 (l.map t75) (i : Int) = t75 l[i] := by rw [rd75_at _ i (by rw [List.length_map]; exact hil), List.getElem_map]
    have e1 : ref05_Bytes.f k (t75 l[i]).f1.f0 (t75 l[i]).f1.f1 (t75 l[i]).f1.f2 = some (vby l[i].f1, 0) := by
      have := rby_f l[i].f1 hv k (by omega)
      rw [if_pos hmv] at this
      exact this
    have e2 : ref02_Put.f k (IntKind.u64.wrap (t75 l[i]).f0) = some (putL 9 l[i].f0) := by
      show ref02_Put.f k (IntKind.u64.wrap l[i].f0) = _
      rw [hu]
      exact refPut_f ⟨by omega, by omega⟩ k (by omega)
    rw [ref08_Bytes.l0, if_pos (by rw [List.length_map]; omega), if_pos (by omega), e, e1, e2]
    simp only [Option.bind_some]
    rw [if_pos (by omega), if_pos (by rw [List.length_append]; omega), hww, ih k (i + 1) _ (by omega) (by omega) (by rw [List.length_append, List.length_append]; omega), List.drop_eq_getElem_cons hil]
    simp only [List.flatMap_cons, List.append_assoc, rby]
theorem refBytes_f (l : List S32) (k : Int) (hw : ∀ v ∈ l, Wf v) (n : Nat) (hn : 20000 ≤ n) : ref08_Bytes.f n l k = some (if chk l k = 0 then ((runs [] l).flatMap rby, 0) else ([], chk l k)) := by
  unfold ref08_Bytes.f
  rw [rcheck_f l k n (by omega)]
  simp only [Option.bind_some]
  split
  · rename_i h
    obtain ⟨_, _, hl, _, hm⟩ := chk_ok h
    rw [refRuns_f l (by omega) n (by omega)]
    simp only [Option.bind_some]
    have hinv := inv_runs l [] 0 inv_nil
    have h1 := runs_vals l [] (fun v => Wf v ∧ mayOf v = true) (by simp) (fun v hv => ⟨hw v hv, hm v hv⟩)
    have := refBytes_l (runs [] l) (by have := hinv.1; omega) (fun r hr => ⟨(h1 r hr).1, (h1 r hr).2, (hinv.2 r hr).1, by have := (hinv.2 r hr).2; omega⟩) (runs [] l).length n 0 [] (by omega) (by have := hinv.1; omega) (by simp)
    simpa using this
  · rfl
end Go.Proofs.Ytjchjdbfmiibhaa.PureB
