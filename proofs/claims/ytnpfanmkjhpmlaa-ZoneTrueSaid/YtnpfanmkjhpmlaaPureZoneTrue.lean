/-
  THE STAGE'S THEOREM: of the zone of any values of one kind: where it says that an atom holds of none, it does of none; where of all, of all; and one of which it says neither may be either: for every input. (ZoneTrue)
-/
import Derived.Test.YtnpfanmkjhpmlaaPZonx20
import Derived.Test.YtnpfanmkjhpmlaaZonB
namespace Go.Proofs.Ytnpfanmkjhpmlaa.Pure
open Go.RowKit Go.Proofs.Ytnpfanmkjhpmlaa.PZon Go.Proofs.YtnpfanmkjhpmlaaW.PrintWords Go.Proofs.YtnpfanmkjhpmlaaW.PrintLast
open Go.Proofs.Ytnpfanmkjhpmlaa.Hand (U cl ck cl_U u64 u64_U cmpI valCmp strCmp turnedOf)

theorem few_l (l : List S24) (kind : Int) (hl : l.length ≤ 140737488351232) : ∀ (j k i : Nat), (i + j = l.length ∨ i + j = 500) → i ≤ l.length → 2 * j + 2 < k → ∃ b, law14_few.l0 k l kind (i : Int) = some b ∧ (b = true → l.length ≤ 500 ∧ ∀ v ∈ l.drop i, v.f0 = kind ∨ v.f0 = 0) := by
  intro j
  induction j with
  | zero =>
    intro k i hi hil hk
    obtain ⟨k, rfl⟩ : ∃ m, k = m + 2 := ⟨k - 2, by omega⟩
    rw [law14_few.l0]
    rw [law14_few.j1, law14_few.j1]
    have hb : ∀ b, b = decide ((l.length : Int) ≤ 500) → i + 0 = l.length ∨ i + 0 = 500 → (b = true → l.length ≤ 500 ∧ ∀ v ∈ l.drop i, v.f0 = kind ∨ v.f0 = 0) := by
      rintro b rfl hi hb
      have := of_decide_eq_true hb
      refine ⟨by omega, ?_⟩
      rw [List.drop_eq_nil_of_le (by omega)]
      simp
    by_cases h : (i : Int) < l.length
    · rw [if_pos h, decide_eq_false (by omega), if_neg (by simp)]
      exact ⟨_, rfl, hb _ rfl hi⟩
    · rw [if_neg h, if_neg (by simp)]
      exact ⟨_, rfl, hb _ rfl hi⟩
  | succ j ih =>
    intro k i hi hil hk
    obtain ⟨k, rfl⟩ : ∃ m, k = m + 2 := ⟨k - 2, by omega⟩
    rw [law14_few.l0]
    rw [law14_few.j1, law14_few.j1]
    by_cases h : i < l.length
    · have hw : wrap64 ((i : Int) + 1) = ((i + 1 : Nat) : Int) := by unfold wrap64; omega
      rw [if_pos (by omega)]
      by_cases h5 : i < 500
      · rw [decide_eq_true (by omega), if_pos rfl, if_pos (by omega), if_pos (by omega), rd_at l i h, hw]
        obtain ⟨b, e, hb⟩ := ih k (i + 1) (by omega) (by omega) (by omega)
        rw [e, List.drop_eq_getElem_cons h]
        by_cases c1 : l[i].f0 = kind
        · rw [if_pos c1]
          refine ⟨b, rfl, fun q => ⟨(hb q).1, fun v hv => ?_⟩⟩
          rcases List.mem_cons.1 hv with rfl | hv
          · exact .inl c1
          · exact (hb q).2 v hv
        · rw [if_neg c1]
          by_cases c2 : l[i].f0 = 0
          · rw [if_pos c2]
            refine ⟨b, rfl, fun q => ⟨(hb q).1, fun v hv => ?_⟩⟩
            rcases List.mem_cons.1 hv with rfl | hv
            · exact .inr c2
            · exact (hb q).2 v hv
          · rw [if_neg c2]
            exact ⟨false, rfl, by simp⟩
      · rw [decide_eq_false (by omega), if_neg (by simp)]
        refine ⟨_, rfl, fun hb => ?_⟩
        have := of_decide_eq_true hb
        omega
    · rw [if_neg (by omega), if_neg (by simp)]
      refine ⟨_, rfl, fun hb => ?_⟩
      have := of_decide_eq_true hb
      refine ⟨by omega, ?_⟩
      rw [List.drop_eq_nil_of_le (by omega)]
      simp
theorem few_f (l : List S24) (kind : Int) (hl : l.length ≤ 140737488351232) (k : Nat) (hk : 1010 < k) : ∃ b, law14_few.f k l kind = some b ∧ (b = true → l.length ≤ 500 ∧ ∀ v ∈ l, v.f0 = kind ∨ v.f0 = 0) := by
  unfold law14_few.f
  rcases Nat.le_total l.length 500 with h | h
  · exact few_l l kind hl l.length k 0 (by omega) (by omega) (by omega)
  · exact few_l l kind hl 500 k 0 (by omega) (by omega) (by omega)
def cnt (op : Int) (a : S24) (l : List S24) : Nat := (l.filter fun v => holdsP op a v).length
theorem cnt_le (op : Int) (a : S24) (l : List S24) : cnt op a l ≤ l.length := List.length_filter_le _ _
theorem true_tail (l : List S24) (kind : Int) (hk : ∀ v ∈ l, v.f0 = kind ∨ v.f0 = 0) (c op : Int) (a : S24) (hl : l.length ≤ 500) (k : Nat) (n i : Int) (hn : n = cnt op a l) (hi : ¬ i < (l.length : Int)) :
    law14_ZoneTrue.l0 (k + 2) l true n i c op a.f0 a.f1 a.f2 (l.length : Int) (zNulls l) (zMin l).f0 (zMin l).f1 (zMin l).f2 (zMax l).f0 (zMax l).f1 (zMax l).f2 = some true := by
  have hc := cnt_le op a l
  have hw : wrap64 (l.length : Int) = l.length := by unfold wrap64; omega
  simp only [law14_ZoneTrue.l0, law14_ZoneTrue.j2]
  rw [if_neg hi, none_f, every_f]
  simp only [Option.bind_some, Bool.false_eq_true, if_false, if_true]
  have h1 : noneP l.length (zNulls l) (zMin l) (zMax l) op a = true → n = 0 := by
    intro h
    have h2 := none_says hk h
    rw [hn]
    have : l.filter (fun v => holdsP op a v) = [] := by rw [List.filter_eq_nil_iff]; intro v hv; rw [h2 v hv]; simp
    unfold cnt
    rw [this]; rfl
  have h2 : everyP l.length (zNulls l) (zMin l) (zMax l) op a = true → n = l.length := by
    intro h
    have h2 := every_says hk h
    rw [hn]
    have : l.filter (fun v => holdsP op a v) = l := by rw [List.filter_eq_self]; exact h2
    unfold cnt
    rw [this]
  have h3 : l ≠ [] → noneP l.length (zNulls l) (zMin l) (zMax l) op a = false ∨ everyP l.length (zNulls l) (zMin l) (zMax l) op a = false := not_both hk
  have h4 : (l.length : Int) ≠ 0 → l ≠ [] := by rintro h rfl; exact h rfl
  generalize noneP l.length (zNulls l) (zMin l) (zMax l) op a = x at *
  generalize everyP l.length (zNulls l) (zMin l) (zMax l) op a = y at *
  by_cases h0 : (l.length : Int) = 0
  · have hn0 : n = 0 := by omega
    have e : (n != (l.length : Int)) = false := by simp; omega
    simp only [h0] at *
    simp only [hn0]
    cases x <;> cases y <;> simp
  · have h5 := h3 (h4 h0)
    simp only [if_neg h0]
    cases x <;> cases y
    · simp
    · have e : (n != (l.length : Int)) = false := by simp [h2 rfl]
      simp [e]
    · rw [if_pos rfl, if_pos (h1 rfl)]; simp
    · simp at h5
theorem true_l (l : List S24) (kind : Int) (hk : ∀ v ∈ l, v.f0 = kind ∨ v.f0 = 0) (c op : Int) (a : S24) (hl : l.length ≤ 500) (M : Nat) (hMM : M ≤ 140737488351232) (hM : ∀ v ∈ l, v.f2.size ≤ M) :
    ∀ (j k i : Nat) (n : Int), i + j = l.length → j + 2 * M + 10 < k → n + cnt op a (l.drop i) = cnt op a l → 0 ≤ n →
    law14_ZoneTrue.l0 k l true n (i : Int) c op a.f0 a.f1 a.f2 (l.length : Int) (zNulls l) (zMin l).f0 (zMin l).f1 (zMin l).f2 (zMax l).f0 (zMax l).f1 (zMax l).f2 = some true := by
  intro j
  induction j with
  | zero =>
    intro k i n hi hkk hn h0
    obtain ⟨k, rfl⟩ : ∃ m, k = m + 2 := ⟨k - 2, by omega⟩
    rw [List.drop_eq_nil_of_le (by omega)] at hn
    exact true_tail l kind hk c op a hl k n i (by simpa [cnt] using hn) (by omega)
  | succ j ih =>
    intro k i n hi hkk hn h0
    obtain ⟨k, rfl⟩ : ∃ m, k = m + 1 := ⟨k - 1, by omega⟩
    have hil : i < l.length := by omega
    have hsz := hM l[i] (List.getElem_mem hil)
    have hw : wrap64 ((i : Int) + 1) = ((i + 1 : Nat) : Int) := by unfold wrap64; omega
    have hc := cnt_le op a l
    have hwn : wrap64 (n + 1) = n + 1 := by unfold wrap64; omega
    rw [List.drop_eq_getElem_cons hil] at hn
    simp only [law14_ZoneTrue.l0]
    rw [if_pos (by omega), if_pos (by omega), rd_at l i hil, holds_f a l[i] c op (by omega) k (by omega)]
    simp only [Option.bind_some, hw, hwn]
    unfold cnt at hn
    rw [List.filter_cons] at hn
    by_cases h : holdsP op a l[i] = true
    · rw [if_pos h] at hn ⊢
      exact ih k (i + 1) (n + 1) (by omega) (by omega) (by unfold cnt; simp only [List.length_cons] at hn; omega) (by omega)
    · rw [if_neg h] at hn ⊢
      exact ih k (i + 1) n (by omega) (by omega) (by unfold cnt; exact hn) h0
theorem sizes_of {l : List S24} (h : Hand.WfRow 32 wfS24 l) : l.length ≤ 140737488351232 ∧ ∀ v ∈ l, v.f2.size ≤ 140737488351232 :=
  ⟨by have := h.2.1; omega, fun v hv => (h.2.2 v hv).2.2⟩
theorem ZoneTrue : law14_ZoneTrue.Pure := by
  intro l kind c op ka ia sa hl h1 h2 h3 h4 h5 h6
  obtain ⟨hlen, hsz⟩ := sizes_of hl
  refine ⟨2 * 140737488351232 + 2000, ?_⟩
  generalize hK : 2 * 140737488351232 + 2000 = K
  unfold law14_ZoneTrue.f
  rw [shown_true]
  obtain ⟨b, e, hb⟩ := few_f l kind hlen K (by omega)
  rw [e]
  simp only [Option.bind_some]
  obtain ⟨K, rfl⟩ : ∃ m, K = m + 1 := ⟨K - 1, by omega⟩
  simp only [law14_ZoneTrue.j0, if_true]
  cases b with
  | false => rfl
  | true =>
    obtain ⟨h500, hk⟩ := hb rfl
    rw [if_pos rfl]
    split
    · rfl
    · rw [zone_f l (by omega) 140737488351232 (Nat.le_refl _) hsz K (by omega)]
      simp only [Option.bind_some]
      exact true_l l kind hk c op ⟨ka, ia, sa⟩ h500 140737488351232 (Nat.le_refl _) hsz l.length K 0 0 (by omega) (by omega) (by simp) (by omega)
end Go.Proofs.Ytnpfanmkjhpmlaa.Pure
