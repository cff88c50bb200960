/-
  Columns laid down plainly and read are the document's: for every input. (PlainBytes)
-/
import Derived.Test.YtjchjdbfmiibhaaPlbR
namespace Go.Proofs.Ytjchjdbfmiibhaa.Pure
open Go.RowKit Go.Proofs.Ytjchjdbfmiibhaa.PPlb Go.Proofs.YtjchjdbfmiibhaaW.PrintWords Go.Proofs.YtjchjdbfmiibhaaW.PrintLast Go.Proofs.YtjchjdbfmiibhaaW.PrintMore
open Go.Proofs.Ytjchjdbfmiibhaa.Hand

theorem leO_ge {α : Type} {f : Nat → Option α} (h : ∀ k, LeO (f k) (f (k + 1))) {r : α} {a : Nat} (ha : f a = some r) : ∀ j, f (a + j) = some r
  | 0 => ha
  | j + 1 => h (a + j) _ (leO_ge h ha j)
theorem rbytes_ge {k i : Int} {s : ByteArray} {r : List Int × Int} (h : ref05_Bytes.f 40 k i s = some r) (K : Nat) (hK : 40 ≤ K) : ref05_Bytes.f K k i s = some r := by
  obtain ⟨j, rfl⟩ : ∃ j, K = 40 + j := ⟨K - 40, by omega⟩
  exact leO_ge (f := fun n => ref05_Bytes.f n k i s) (fun n => ref05_Bytes.mono _ _ _ n) h j
theorem rof_ge {l : List Int} {k : Int} {r : Int × Int × ByteArray × List Int × Int} (h : ref05_Of.f 40 l k = some r) (K : Nat) (hK : 40 ≤ K) : ref05_Of.f K l k = some r := by
  obtain ⟨j, rfl⟩ : ∃ j, K = 40 + j := ⟨K - 40, by omega⟩
  exact leO_ge (f := fun n => ref05_Of.f n l k) (fun n => ref05_Of.mono _ _ n) h j
theorem rof_f (l : List Int) (k : Int) (hB : Bs l) (hl : l.length ≤ 140737488351232) (h1 : 1 ≤ k) (h3 : k ≤ 3) (K : Nat) (hK : 40 ≤ K) : ref05_Of.f K l k = some (dec l k) := by
  obtain ⟨r, q1, q2⟩ := of_eq l k hB hl
  rw [of_f l k hB hl h1 h3 40 (by omega)] at q1
  rw [Option.some.inj q1]
  exact rof_ge q2 K hK
theorem rby_f (v : S32) (hv : Wf v) (K : Nat) (hK : 40 ≤ K) : ref05_Bytes.f K v.f0 v.f1 v.f2 = some (if mayOf v = true then (vby v, 0) else ([], 1)) := by
  obtain ⟨r, q1, q2⟩ := bytes_eq v.f0 v.f1 v.f2 hv.1 hv.2
  rw [vbytes_f v hv 40 (by omega)] at q1
  rw [Option.some.inj q1]
  exact rbytes_ge q2 K hK
theorem rmay_f (v : S32) : ref05_May.f v.f0 v.f1 v.f2 = some (mayOf v) := by
  obtain ⟨b, q1, q2⟩ := may_eq v.f0 v.f1 v.f2
  rw [may_of v] at q1
  rw [Option.some.inj q1]
  exact q2
theorem kinds_f (k : Int) : ref07_Kinds.f k = some (decide (1 ≤ k ∧ k ≤ 3)) := by
  unfold ref07_Kinds.f
  by_cases h1 : k = 1
  · rw [if_pos h1, decide_eq_true (by omega)]
  · rw [if_neg h1]
    by_cases h2 : k = 2
    · rw [if_pos h2, decide_eq_true (by omega)]
    · rw [if_neg h2]
      congr 1
      rw [Bool.eq_iff_iff, beq_iff_eq, decide_eq_true_iff]
      omega
theorem rcheck_1 (l : List S32) (hl : l.length ≤ 4096) : ∀ (j K i : Nat), i + j = l.length → j < K → ref07_Check.l1 K l (i : Int) = some (if ((l.drop i).any fun v => !mayOf v) = true then 1 else 0) := by
  intro j
  induction j with
  | zero =>
    intro K i hi hK
    obtain ⟨K, rfl⟩ : ∃ m, K = m + 1 := ⟨K - 1, by omega⟩
    simp only [ref07_Check.l1]
    rw [if_neg (by omega), List.drop_eq_nil_of_le (by omega)]
    rfl
  | succ j ih =>
    intro K i hi hK
    obtain ⟨K, rfl⟩ : ∃ m, K = m + 1 := ⟨K - 1, by omega⟩
    have hil : i < l.length := by omega
    simp only [ref07_Check.l1]
    rw [if_pos (by omega), if_pos (by omega), rd_at l i hil, rmay_f l[i], List.drop_eq_getElem_cons hil, show wrap64 ((i : Int) + 1) = ((i + 1 : Nat) : Int) by unfold wrap64; omega, ih K (i + 1) (by omega) (by omega)]
    simp only [Option.bind_some]
    by_cases hm : mayOf l[i] = true
    · rw [if_pos hm]; simp only [List.any_cons, hm, Bool.not_true, Bool.false_or]
    · rw [if_neg hm]; simp only [List.any_cons, show mayOf l[i] = false by simpa using hm, Bool.not_false, Bool.true_or, if_true]
theorem rcheck_0 (l : List S32) (k : Int) (hl : l.length ≤ 4096) : ∀ (j K i : Nat), i + j = l.length → 5000 + j < K → ref07_Check.l0 K l k (i : Int) = some (if ((l.drop i).any fun v => v.f0 != k) = true then 7 else if (l.any fun v => !mayOf v) = true then 1 else 0) := by
  intro j
  induction j with
  | zero =>
    intro K i hi hK
    obtain ⟨K, rfl⟩ : ∃ m, K = m + 1 := ⟨K - 1, by omega⟩
    simp only [ref07_Check.l0]
    have := rcheck_1 l hl l.length K 0 (by omega) (by omega)
    rw [List.drop_zero] at this
    rw [if_neg (by omega), List.drop_eq_nil_of_le (by omega), show (0 : Int) = ((0 : Nat) : Int) from rfl, this]
    simp
  | succ j ih =>
    intro K i hi hK
    obtain ⟨K, rfl⟩ : ∃ m, K = m + 1 := ⟨K - 1, by omega⟩
    have hil : i < l.length := by omega
    simp only [ref07_Check.l0]
    rw [if_pos (by omega), if_pos (by omega), rd_at l i hil, List.drop_eq_getElem_cons hil, show wrap64 ((i : Int) + 1) = ((i + 1 : Nat) : Int) by unfold wrap64; omega, ih K (i + 1) (by omega) (by omega)]
    by_cases h : l[i].f0 = k
    · rw [if_pos h]; simp only [List.any_cons, show (l[i].f0 != k) = false by simp [h], Bool.false_or]
    · rw [if_neg h]; simp only [List.any_cons, show (l[i].f0 != k) = true by simp [h], Bool.true_or, if_true]
theorem rcheck_f (l : List S32) (k : Int) (K : Nat) (hK : 10000 ≤ K) : ref07_Check.f K l k = some (chk l k) := by
  unfold ref07_Check.f chk
  rw [kinds_f k]
  simp only [Option.bind_some, decide_eq_true_eq]
  by_cases h1 : k < 1 ∨ 3 < k
  · rw [if_pos h1, if_neg (by omega)]
  · rw [if_neg h1, if_pos (by omega)]
    by_cases h2 : 4096 < l.length
    · rw [if_pos h2, if_pos (by omega)]
    · rw [if_neg h2, if_neg (by omega)]
      have := rcheck_0 l k (by omega) l.length K 0 (by omega) (by omega)
      rw [List.drop_zero] at this
      exact this
theorem rpbytes_l (l : List S32) (hl : l.length ≤ 4096) (hw : ∀ v ∈ l, Wf v) (hm : ∀ v ∈ l, mayOf v = true) : ∀ (j k i : Nat) (acc : List Int), i + j = l.length → j + 100 < k → acc.length ≤ 2000 * i →
    ref07_Bytes.l0 k l acc (i : Int) = some (acc ++ (l.drop i).flatMap vby, 0) := by
  intro j
  induction j with
  | zero =>
    intro k i acc hi hk ha
    obtain ⟨k, rfl⟩ : ∃ m, k = m + 1 := ⟨k - 1, by omega⟩
    simp only [ref07_Bytes.l0]
    rw [if_neg (by omega), List.drop_eq_nil_of_le (by omega)]
    simp
  | succ j ih =>
    intro k i acc hi hk ha
    obtain ⟨k, rfl⟩ : ∃ m, k = m + 1 := ⟨k - 1, by omega⟩
    have hil : i < l.length := by omega
    have hv := hw l[i] (List.getElem_mem hil)
    have hmv := hm l[i] (List.getElem_mem hil)
    have hlen := vby_len hmv
    have hww : wrap64 ((i : Int) + 1) = ((i + 1 : Nat) : Int) := by unfold wrap64; omega
    simp only [ref07_Bytes.l0]
    rw [if_pos (by omega), if_pos (by omega), rd_at l i hil, rby_f l[i] hv k (by omega), if_pos hmv]
    simp only [Option.bind_some]
    rw [if_pos (by omega), hww, ih k (i + 1) _ (by omega) (by omega) (by rw [List.length_append]; omega), List.drop_eq_getElem_cons hil]
    simp only [List.flatMap_cons, List.append_assoc]
theorem rpbytes_f (l : List S32) (k : Int) (hw : ∀ v ∈ l, Wf v) (n : Nat) (hn : 10000 ≤ n) : ref07_Bytes.f n l k = some (if chk l k = 0 then (l.flatMap vby, 0) else ([], chk l k)) := by
  unfold ref07_Bytes.f
  rw [rcheck_f l k n hn]
  simp only [Option.bind_some]
  split
  · rename_i h
    obtain ⟨_, _, hl, _, hm⟩ := chk_ok h
    have := rpbytes_l l hl hw hm l.length n 0 [] (by omega) (by omega) (by simp)
    simpa using this
  · rfl
def ofEnd (r : List S32 × List Int × Int) : List S32 × Int := if r.2.2 = 0 then (if (r.2.1.length : Int) = 0 then (r.1, 0) else ([], 4)) else ([], r.2.2)
theorem rof_l {k : Int} (h1 : 1 ≤ k) (h3 : k ≤ 3) : ∀ (j K : Nat) (b : List Int) (acc : List S32) (i n : Int), n = i + j → 60 + j < K → 0 ≤ i → n ≤ 4096 → acc.length ≤ i → Bs b → b.length ≤ 140737488351232 →
    ∃ r, ref07_Some.l0 K b n k acc i = some r ∧ plain_Of.l0 K b k acc i n = some (ofEnd r) ∧ r.1.length ≤ 4096 := by
  intro j
  induction j with
  | zero =>
    intro K b acc i n hn hK hi h4 ha hB hl
    obtain ⟨K, rfl⟩ : ∃ m, K = m + 1 := ⟨K - 1, by omega⟩
    simp only [plain_Of.l0, ref07_Some.l0]
    rw [if_neg (by omega), if_neg (by omega)]
    refine ⟨_, rfl, ?_, by show acc.length ≤ 4096; omega⟩
    unfold ofEnd
    rw [if_pos rfl]
    by_cases hb : (b.length : Int) > 0
    · rw [if_pos hb, if_neg (by show ¬ (b.length : Int) = 0; omega)]
    · rw [if_neg hb, if_pos (by show (b.length : Int) = 0; omega)]
  | succ j ih =>
    intro K b acc i n hn hK hi h4 ha hB hl
    obtain ⟨K, rfl⟩ : ∃ m, K = m + 1 := ⟨K - 1, by omega⟩
    simp only [plain_Of.l0, ref07_Some.l0]
    rw [if_pos (by omega), if_pos (by omega), of_f b k hB hl h1 h3 K (by omega), rof_f b k hB hl h1 h3 K (by omega)]
    simp only [Option.bind_some]
    by_cases h0 : (dec b k).2.2.2.2 = 0
    · obtain ⟨ho, he⟩ := enc_dec hB hl h1 h3 h0
      have hB2 : Bs (dec b k).2.2.2.1 := by rw [he] at hB; exact hB.app.2
      have hl2 : (dec b k).2.2.2.1.length ≤ 140737488351232 := by
        have := congrArg List.length he
        rw [List.length_append] at this
        omega
      rw [if_pos h0, if_pos h0, if_pos (by omega), if_pos (by omega), show wrap64 (i + 1) = i + 1 by unfold wrap64; omega]
      exact ih K (dec b k).2.2.2.1 (acc ++ [⟨(dec b k).1, (dec b k).2.1, (dec b k).2.2.1⟩]) (i + 1) n (by omega) (by omega) (by omega) h4 (by rw [List.length_append, List.length_singleton]; omega) hB2 hl2
    · rw [if_neg h0, if_neg h0]
      refine ⟨_, rfl, ?_, by simp⟩
      unfold ofEnd
      rw [if_neg h0]
theorem of_both (b : List Int) (n k : Int) (hB : Bs b) (hl : b.length ≤ 140737488351232) (K : Nat) (hK : 10000 ≤ K) :
    ∃ r, plain_Of.f K b n k = some r ∧ ref07_Of.f K b n k = some r ∧ r.1.length ≤ 4096 := by
  unfold plain_Of.f ref07_Of.f
  rw [kinds_f k]
  simp only [Option.bind_some, decide_eq_true_eq]
  obtain ⟨K, rfl⟩ : ∃ m, K = m + 1 := ⟨K - 1, by omega⟩
  by_cases h1 : k < 1 ∨ 3 < k
  · rw [if_pos h1, if_neg (by omega)]
    exact ⟨_, rfl, rfl, by simp⟩
  · rw [if_neg h1, if_pos (show 1 ≤ k ∧ k ≤ 3 by omega)]
    simp only [ref07_Of.j0]
    by_cases h2 : n < 0 ∨ 4096 < n
    · rw [if_pos h2]
      refine ⟨_, rfl, ?_, by simp⟩
      by_cases h3 : n < 0
      · rw [if_pos h3]; rfl
      · rw [if_neg h3, if_pos (decide_eq_true (by omega))]
    · rw [if_neg h2, if_neg (by omega), if_neg (by rw [decide_eq_true_iff]; omega)]
      obtain ⟨r, q1, q2, q3⟩ := rof_l (k := k) (by omega) (by omega) n.toNat K b [] 0 n (by omega) (by omega) (by omega) (by omega) (by simp) hB hl
      have q4 := plain_Of.mono_l K _ _ _ _ _ _ q2
      refine ⟨ofEnd r, q4, ?_, ?_⟩
      · unfold ref07_Some.f
        rw [q1]
        simp only [Option.bind_some]
        unfold ofEnd
        split
        · split
          · rfl
          · rfl
        · rfl
      · unfold ofEnd
        split
        · split
          · exact q3
          · simp
        · simp
theorem same_l (l : List S32) (hl : l.length ≤ 1000000) : ∀ (j k i : Nat), i + j = l.length → j < k → ref05_Same.l0 k l l (i : Int) = some true := by
  intro j
  induction j with
  | zero =>
    intro k i hi hk
    obtain ⟨k, rfl⟩ : ∃ m, k = m + 1 := ⟨k - 1, by omega⟩
    simp only [ref05_Same.l0]
    rw [if_neg (by omega)]
  | succ j ih =>
    intro k i hi hk
    obtain ⟨k, rfl⟩ : ∃ m, k = m + 1 := ⟨k - 1, by omega⟩
    simp only [ref05_Same.l0]
    rw [if_pos (by omega), if_pos (by omega), if_pos (by omega), if_neg (by simp), show wrap64 ((i : Int) + 1) = ((i + 1 : Nat) : Int) by unfold wrap64; omega]
    exact ih k (i + 1) (by omega) (by omega)
theorem same_f (l : List S32) (hl : l.length ≤ 1000000) (k : Nat) (hk : l.length < k) : ref05_Same.f k l l = some true := by
  unfold ref05_Same.f
  rw [if_pos rfl]
  exact same_l l hl l.length k 0 (by omega) hk
theorem PlainBytes : law07_PlainBytes.Pure := by
  intro l k b n hl hk hb1 hb2 hb3 hn
  obtain ⟨hlen, hw⟩ := wf_all hl
  have hB : Bs b := fun x hx => wf_u8_ (hb3 x hx)
  refine ⟨140737488351232 + 10000, ?_⟩
  generalize hK : 140737488351232 + 10000 = K
  unfold law07_PlainBytes.f
  obtain ⟨c, e, hc⟩ := few_f l hlen hw K (by omega)
  rw [shown_f K (by omega), e]
  simp only [Option.bind_some]
  cases c with
  | false => rfl
  | true =>
    obtain ⟨r, q1, q2, q3⟩ := of_both b n k hB (by omega) K (by omega)
    rw [if_pos rfl, pbytes_f l k hw K (by omega), rpbytes_f l k hw K (by omega), q1, q2, check_f, rcheck_f l k K (by omega)]
    simp only [Option.bind_some, if_true]
    rw [same_f r.1 (by omega) K (by omega)]
    simp
end Go.Proofs.Ytjchjdbfmiibhaa.Pure
