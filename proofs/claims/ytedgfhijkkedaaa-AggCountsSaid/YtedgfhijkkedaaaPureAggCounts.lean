/-
  Counts of groups together are as many rows as there are; groups have unlike first values; with no values there is one group: for every input. (AggCounts)
-/
import Derived.Test.YtedgfhijkkedaaaPAggx11
import Derived.Test.YtedgfhijkkedaaaGpA
namespace Go.Proofs.Ytedgfhijkkedaaa.PAgg
open Go.RowKit Go.Proofs.YtedgfhijkkedaaaW.PrintWords Go.Proofs.YtedgfhijkkedaaaW.PrintLast
set_option linter.unusedVariables false
set_option linter.unusedSimpArgs false

theorem w64n {i : Nat} (h : i ≤ 1000000) : wrap64 ((i : Int) + 1) = ((i + 1 : Nat) : Int) := by unfold wrap64; omega
def cut9 (r : List S39) : List S39 := if 9 < r.length then r.take 9 else r
theorem cut9_len (r : List S39) : (cut9 r).length ≤ 9 := by unfold cut9; split <;> (try rw [List.length_take]) <;> omega
theorem few_l (x0 : List (List S39)) : ∀ (d k i : Nat), i + d = min x0.length 150 → 2 * d + 1 < k → law20_few.l0 k x0 ((x0.take i).map cut9) (i : Int) = some ((x0.take (min x0.length 150)).map cut9) := by
  intro d
  induction d with
  | zero =>
    intro k i hi hk
    obtain ⟨k, rfl⟩ : ∃ m, k = m + 2 := ⟨k - 2, by omega⟩
    have e : i = min x0.length 150 := by omega
    rw [law20_few.l0]
    split
    · rw [law20_few.j1, show decide ((i : Int) < 150) = false from decide_eq_false (by omega), if_neg (by simp), e]
    · rw [law20_few.j1, if_neg (by simp), e]
  | succ d ih =>
    intro k i hi hk
    obtain ⟨k, rfl⟩ : ∃ m, k = m + 2 := ⟨k - 2, by omega⟩
    have hlt : i < x0.length := by omega
    have hlen : ((x0.take i).map cut9).length ≤ 150 := by rw [List.length_map, List.length_take]; omega
    have hst : (x0.take (i + 1)).map cut9 = (x0.take i).map cut9 ++ [cut9 x0[i]] := by rw [List.take_succ_eq_append_getElem hlt, List.map_append]; rfl
    rw [law20_few.l0, if_pos (by omega), law20_few.j1, show decide ((i : Int) < 150) = true from decide_eq_true (by omega), if_pos rfl, if_pos (by omega), if_pos (by omega), rdL3 _ _ hlt, w64n (by omega)]
    have IH := ih k (i + 1) (by omega) (by omega)
    rw [hst] at IH
    unfold cut9 at IH
    split
    · rw [if_pos (by omega), if_pos (by omega)]
      rw [if_pos (by omega)] at IH
      exact IH
    · rw [if_pos (by omega)]
      rw [if_neg (by omega)] at IH
      exact IH
def fewOf (l : List (List S39)) : List (List S39) := (l.take (min l.length 150)).map cut9
theorem few_f (l0 : List (List S39)) (k : Nat) (hk : 302 < k) : law20_few.f k l0 = some (fewOf l0) := by
  unfold law20_few.f
  exact few_l l0 (min l0.length 150) k 0 (by omega) (by omega)
theorem few_len (l : List (List S39)) : (fewOf l).length ≤ 150 := by unfold fewOf; rw [List.length_map, List.length_take]; omega
theorem few_row (l : List (List S39)) : ∀ r ∈ fewOf l, r.length ≤ 9 := by
  intro r hr
  obtain ⟨x, _, rfl⟩ := List.mem_map.1 hr
  exact cut9_len x
theorem same_l (x y : List S39) (hl : x.length = y.length) (h0 : x.length ≤ 1000000) : ∀ (d k i : Nat), i + d = x.length → d < k → ref05_Same.l0 k x y (i : Int) = some (eqRow (x.drop i) (y.drop i)) := by
  intro d
  induction d with
  | zero =>
    intro k i hi hk
    obtain ⟨k, rfl⟩ : ∃ m, k = m + 1 := ⟨k - 1, by omega⟩
    simp only [ref05_Same.l0]
    rw [if_neg (by omega), List.drop_eq_nil_of_le (show x.length ≤ i by omega), List.drop_eq_nil_of_le (show y.length ≤ i by omega)]
    rfl
  | succ d ih =>
    intro k i hi hk
    obtain ⟨k, rfl⟩ : ∃ m, k = m + 1 := ⟨k - 1, by omega⟩
    have g0 : i < x.length := by omega
    have g1 : i < y.length := by omega
    simp only [ref05_Same.l0]
    rw [if_pos (by omega), if_pos (by omega), if_pos (by omega), neq_f, rd39 _ _ g0, rd39 _ _ g1, List.drop_eq_getElem_cons g0, List.drop_eq_getElem_cons g1, w64n (by omega)]
    unfold eqRow
    cases he : eqV x[i] y[i]
    · rfl
    · simp only [Bool.not_true, Bool.true_and, Bool.false_eq_true, if_false]
      exact ih k (i + 1) (by omega) (by omega)
theorem same_f (x y : List S39) (h0 : x.length ≤ 1000000) (k : Nat) (hk : x.length < k) : ref05_Same.f k x y = some (eqRow x y) := by
  unfold ref05_Same.f
  by_cases hl : x.length = y.length
  · rw [if_pos (by omega)]
    exact same_l x y hl h0 x.length k 0 (by omega) hk
  · rw [if_neg (by omega)]
    congr 1
    symm
    apply Bool.eq_false_iff.2
    intro h
    exact hl (eqRow_len _ _ h)

/-- A group's count. -/
def cntV (g : List (List S39)) : S39 := ⟨1, (g.length : Int), ⟨#[]⟩⟩
theorem group_counts (k : Nat) (a : List (List S39)) (n : Int) (h0 : 0 ≤ n) (h1 : n ≤ 1000000) (ha : a.length ≤ 1000000) (hall : ∀ r ∈ a, n ≤ (r.length : Int)) :
    agg_Group.f k a n [(⟨1, 0⟩ : S36)] = some ((groupsF n a).map (fun g => headOf n g ++ [cntV g]), 0) := by
  unfold agg_Group.f groupF
  rw [if_neg (by
    rintro (h | h)
    · omega
    · obtain ⟨r, hr, h2⟩ := List.any_eq_true.1 h
      rw [decide_eq_true_eq] at h2
      have := hall r hr
      omega), if_pos ⟨ha, h1, by simp⟩]
  rw [all_gen k n _ (fun g => headOf n g ++ [cntV g]) _ _ (fun g _ => ?_)]
  · rfl
  · rw [row_gen k g (fun _ => cntV g) _ _ (fun b hb => ?_)]
    · rfl
    · rw [List.mem_singleton.1 hb]
      rfl

theorem l2_ok (x5 : Bool) (n : Nat) (x7 : List (List S39)) (L : List (List S39)) (i : Nat) (hi : i < L.length) (x12 : Int) (hn : n ≤ 1000000) (hL : L.length ≤ 1000000) (hlen : ∀ r ∈ L, n < r.length)
    (hdiff : ∀ (j : Nat) (hj : j < i), eqRow (L[i].take n) ((L[j]'(by omega)).take n) = false) :
    ∀ (d k j : Nat), j + d = i → d + n + 1 < k → law20_AggCounts.l2 k x5 (n : Int) x7 L x12 (i : Int) (j : Int) = law20_AggCounts.l1 (k - d - 1) x5 (n : Int) x7 L x12 (wrap64 ((i : Int) + 1)) := by
  intro d
  induction d with
  | zero =>
    intro k j hj hk
    obtain ⟨k, rfl⟩ : ∃ m, k = m + 1 := ⟨k - 1, by omega⟩
    simp only [law20_AggCounts.l2]
    rw [if_neg (by omega)]
    rfl
  | succ d ih =>
    intro k j hj hk
    obtain ⟨k, rfl⟩ : ∃ m, k = m + 1 := ⟨k - 1, by omega⟩
    have hji : j < L.length := by omega
    have l1 := hlen L[i] (List.getElem_mem hi)
    have l2 := hlen L[j] (List.getElem_mem hji)
    simp only [law20_AggCounts.l2]
    rw [if_pos (by omega), if_pos (by omega), if_pos (by omega), if_pos (by omega), rdL3 _ _ hi, if_pos (by omega), if_pos (by omega), if_pos (by omega), rdL3 _ _ hji, if_pos (by omega), Int.toNat_natCast,
      same_f _ _ (by rw [List.length_take]; omega) k (by rw [List.length_take]; omega), Option.bind_some, hdiff j (by omega), if_neg (by simp), w64n (by omega)]
    rw [ih k (j + 1) (by omega) (by omega), show k + 1 - (d + 1) - 1 = k - d - 1 by omega]
theorem sum_take_le (C : List Nat) (i : Nat) : (C.take i).sum ≤ C.sum := by
  have := congrArg List.sum (List.take_append_drop i C)
  rw [List.sum_append] at this
  omega
theorem lt_sub2 {e k i : Nat} (h : e + (i + 1) < k) : e < k - i - 1 := by omega
theorem l1_ok (n : Nat) (x7 : List (List S39)) (L : List (List S39)) (C : List Nat) (hC : C.length = L.length) (hn : n ≤ 3) (hL : L.length ≤ 150) (hlen : ∀ r ∈ L, r.length = n + 1)
    (hval : ∀ (i : Nat) (hi : i < L.length), (rd_T39 L[i] (n : Int)).f0 = 1 ∧ (rd_T39 L[i] (n : Int)).f1 = ((C[i]'(by omega) : Nat) : Int))
    (hdiff : ∀ (i j : Nat) (hi : i < L.length) (hj : j < i), eqRow (L[i].take n) ((L[j]'(by omega)).take n) = false) (hs : C.sum = x7.length) (hx : x7.length ≤ 150) (h1 : 0 < n ∨ L.length = 1) :
    ∀ (d k i : Nat), i + d = L.length → d * 400 + 400 < k → law20_AggCounts.l1 k true (n : Int) x7 L (((C.take i).sum : Nat) : Int) (i : Int) = some true := by
  intro d
  induction d with
  | zero =>
    intro k i hi hk
    obtain ⟨k, rfl⟩ : ∃ m, k = m + 1 := ⟨k - 1, by omega⟩
    simp only [law20_AggCounts.l1]
    rw [if_neg (by omega), if_pos trivial, List.take_of_length_le (by omega), if_pos (by omega)]
    split
    · rfl
    · rw [show (L.length : Int) = 1 by omega]; rfl
  | succ d ih =>
    intro k i hi hk
    obtain ⟨k, rfl⟩ : ∃ m, k = m + 2 := ⟨k - 2, by omega⟩
    have hlt : i < L.length := by omega
    have e1 := hlen L[i] (List.getElem_mem hlt)
    obtain ⟨v0, v1⟩ := hval i hlt
    have hst : (C.take (i + 1)).sum = (C.take i).sum + C[i]'(by omega) := by rw [List.take_succ_eq_append_getElem (by omega), List.sum_append]; simp
    have hle := sum_take_le C (i + 1)
    simp only [law20_AggCounts.l1, law20_AggCounts.j2]
    rw [if_pos (by omega), if_pos (by omega), rdL3 _ _ hlt, w64n (by omega), if_pos (by omega), if_pos (by omega), if_pos (by omega), v0]
    rw [if_neg (by simp), if_pos (by omega), if_pos (by omega), if_pos (by omega), if_pos (by omega), v1]
    rw [show wrap64 ((((C.take i).sum : Nat) : Int) + ((C[i]'(by omega) : Nat) : Int)) = (((C.take (i + 1)).sum : Nat) : Int) by unfold wrap64; omega]
    have := l2_ok true n x7 L i hlt (((C.take (i + 1)).sum : Nat) : Int) (by omega) (by omega) (fun r hr => by have := hlen r hr; omega) (fun j hj => hdiff i j hlt hj) i k 0 (by omega) (by omega)
    rw [show ((0 : Nat) : Int) = 0 from rfl] at this
    rw [this, w64n (by omega)]
    have hk2 : d * 400 + 400 + (i + 1) < k := by rw [Nat.succ_mul] at hk; generalize d * 400 = e at *; clear this hst hle v1 e1 hlen hval hdiff; omega
    exact ih (k - i - 1) (i + 1) (by clear hk hk2 this hst hle v1 e1 hlen hval hdiff; omega) (lt_sub2 hk2)
theorem l0_ok (n : Nat) (b : List (List S39)) (hb : b.length ≤ 150) (V : Option Bool) : ∀ (d k i : Nat), i + d = b.length → d < k →
    law20_AggCounts.l0 k true (n : Int) ((b.take i).filter fun r => decide (n ≤ r.length)) b (i : Int) = (agg_Group.f (k - d - 1) (b.filter fun r => decide (n ≤ r.length)) (n : Int) [(⟨1, 0⟩ : S36)]).bind fun bt => if bt.2 = 0 then law20_AggCounts.l1 (k - d - 1) true (n : Int) (b.filter fun r => decide (n ≤ r.length)) bt.1 0 0 else some false := by
  intro d
  induction d with
  | zero =>
    intro k i hi hk
    obtain ⟨k, rfl⟩ : ∃ m, k = m + 1 := ⟨k - 1, by omega⟩
    simp only [law20_AggCounts.l0]
    rw [if_neg (by omega), List.take_of_length_le (by omega)]
    rfl
  | succ d ih =>
    intro k i hi hk
    obtain ⟨k, rfl⟩ : ∃ m, k = m + 1 := ⟨k - 1, by omega⟩
    have hlt : i < b.length := by omega
    have hfl : ((b.take i).filter fun r => decide (n ≤ r.length)).length ≤ 150 := Nat.le_trans (List.length_filter_le _ _) (by rw [List.length_take]; omega)
    have IH := ih k (i + 1) (by omega) (by omega)
    rw [List.take_succ_eq_append_getElem hlt, List.filter_append] at IH
    simp only [law20_AggCounts.l0]
    rw [if_pos (by omega), if_pos (by omega), rdL3 _ _ hlt, w64n (by omega), show k + 1 - (d + 1) - 1 = k - d - 1 by omega]
    by_cases h : n ≤ b[i].length
    · rw [if_pos (by omega), if_pos (by omega)]
      simp only [List.filter_cons, List.filter_nil, h, decide_true, if_true] at IH
      exact IH
    · rw [if_neg (by omega)]
      simp only [List.filter_cons, List.filter_nil, h, decide_false, Bool.false_eq_true, if_false, List.append_nil] at IH
      exact IH

theorem pureAggCounts : law20_AggCounts.Pure := by
  intro l0 a1 hw hu
  have hu8 : 0 ≤ a1 ∧ a1 ≤ 255 := by simpa [Lit.wf, IntKind.min, IntKind.max, IntKind.signed, IntKind.bits] using hu
  obtain ⟨n, hn, hn3⟩ : ∃ n : Nat, wrap64 (Int.tmod a1 4) = (n : Int) ∧ n ≤ 3 := by
    rw [Int.tmod_eq_emod_of_nonneg hu8.1]
    refine ⟨(a1 % 4).toNat, ?_, ?_⟩
    · unfold wrap64; omega
    · omega
  refine ⟨100000, ?_⟩
  unfold law20_AggCounts.f
  rw [shown_true, Option.bind_some, few_f l0 _ (by omega), Option.bind_some, hn]
  have hb := few_len l0
  generalize fewOf l0 = b at *
  have h0 := l0_ok n b hb none b.length 100000 0 (by omega) (by omega)
  rw [show ((0 : Nat) : Int) = 0 from rfl, List.take_zero, List.filter_nil] at h0
  rw [h0]
  have hal : (b.filter fun r => decide (n ≤ r.length)).length ≤ 150 := Nat.le_trans (List.length_filter_le _ _) hb
  have hall : ∀ r ∈ b.filter (fun r => decide (n ≤ r.length)), (n : Int) ≤ (r.length : Int) := fun r hr => by
    have := (List.mem_filter.1 hr).2
    rw [decide_eq_true_eq] at this
    omega
  generalize (b.filter fun r => decide (n ≤ r.length)) = a at *
  rw [group_counts _ a n (by omega) (by omega) (by omega) hall, Option.bind_some, if_pos rfl]
  have hgood := goodG_of (n : Int) a hall (by omega)
  have hsum : ((groupsF n a).map List.length).sum = a.length := by
    unfold groupsF
    split
    · simp
    · rw [groups_sum]
  have hnum : (groupsF n a).length ≤ a.length ∨ n = 0 ∧ (groupsF (n : Int) a).length = 1 := by
    unfold groupsF
    by_cases hz : (n : Int) = 0
    · rw [if_pos hz]; exact .inr ⟨by omega, rfl⟩
    · rw [if_neg hz]
      have := good_of (n : Int) a hall a.length (Nat.le_refl _)
      rw [List.take_of_length_le (Nat.le_refl _)] at this
      exact .inl this.1
  have hpair : ∀ (i j : Nat) (hi : i < (groupsF (n : Int) a).length) (hj : j < i), 0 < n → headOf (n : Int) (groupsF (n : Int) a)[i] ≠ headOf (n : Int) ((groupsF (n : Int) a)[j]'(by omega)) := by
    intro i j hi hj hp
    have e : groupsF (n : Int) a = (firsts (a.map (keyN n))).map (grp n a) := by
      unfold groupsF; rw [if_neg (by omega), Int.toNat_natCast, groups_eq]
    have hh : ∀ (i : Nat) (hi : i < (firsts (a.map (keyN n))).length), headOf (n : Int) (grp n a (firsts (a.map (keyN n)))[i]) = (firsts (a.map (keyN n)))[i] := by
      intro i hi
      unfold headOf
      rw [if_pos (by omega), Int.toNat_natCast]
      exact (grp_head n a _ ((mem_firsts _ _).1 (List.getElem_mem hi))).2
    have hi2 : i < (firsts (a.map (keyN n))).length := by rw [e, List.length_map] at hi; exact hi
    simp only [e, List.getElem_map]
    rw [hh i hi2, hh j (by omega)]
    intro e2
    have := (List.getElem_inj (nodup_firsts (a.map (keyN n)))).1 e2
    omega
  have hheads : ∀ g ∈ groupsF (n : Int) a, (headOf (n : Int) g).length = n := by
    intro g hg
    unfold headOf
    split
    · rename_i hp
      have := (hgood.2 hp g hg).2
      rw [List.length_take]; omega
    · simp; omega
  have hone : 0 < n ∨ (groupsF (n : Int) a).length = 1 := by
    rcases Nat.eq_zero_or_pos n with h | h
    · right
      unfold groupsF
      rw [if_pos (by omega)]; rfl
    · exact .inl h
  have := l1_ok n a ((groupsF (n : Int) a).map fun g => headOf n g ++ [cntV g]) ((groupsF (n : Int) a).map List.length) (by simp) hn3 (by rw [List.length_map]; omega) (fun r hr => by
      obtain ⟨g, hg, rfl⟩ := List.mem_map.1 hr
      rw [List.length_append, hheads g hg]; rfl) (fun i hi => by
      rw [List.length_map] at hi
      simp only [List.getElem_map]
      rw [rd39 _ _ (by rw [List.length_append, hheads _ (List.getElem_mem hi)]; simp), List.getElem_append_right (by rw [hheads _ (List.getElem_mem hi)]; exact Nat.le_refl _)]
      simp [cntV]) (fun i j hi hj => by
      rw [List.length_map] at hi
      simp only [List.getElem_map]
      have hp : 0 < n := by
        rcases hone with h | h
        · exact h
        · omega
      rw [List.take_left' (hheads _ (List.getElem_mem hi)), List.take_left' (hheads _ (List.getElem_mem (by omega)))]
      apply Bool.eq_false_iff.2
      intro h
      exact hpair i j hi hj hp ((eqRow_iff _ _).1 h)) hsum hal (by rw [List.length_map]; exact hone) (groupsF (n : Int) a).length (100000 - b.length - 1) 0 (by simp) (by omega)
  exact this
end Go.Proofs.Ytedgfhijkkedaaa.PAgg
namespace Go.Proofs.Ytedgfhijkkedaaa.Pure
theorem AggCounts : PAgg.law20_AggCounts.Pure := PAgg.pureAggCounts
end Go.Proofs.Ytedgfhijkkedaaa.Pure
