/-
  The sum of numbers one row behind the other is the sum of both sums, where all three can be: for every input. (AggSplits)
-/
import Derived.Test.YtedgfhijkkedaaaPSumx3
namespace Go.Proofs.Ytedgfhijkkedaaa.Pure.Splits
open Go.RowKit Go.Proofs.Ytedgfhijkkedaaa.PSum Go.Proofs.YtedgfhijkkedaaaW.PrintWords Go.Proofs.YtedgfhijkkedaaaW.PrintLast
open Go.Proofs.Ytedgfhijkkedaaa.Hand (sumOut aggSum)

theorem wf_i64 {x : Int} (h : (Lit.int .i64 x).wf = true) : -9223372036854775808 ≤ x ∧ x ≤ 9223372036854775807 := by
  simpa [Lit.wf, IntKind.min, IntKind.max, IntKind.signed, IntKind.bits] using h
theorem wf_i32 {x : Int} (h : (Lit.int .i32 x).wf = true) : -2147483648 ≤ x ∧ x ≤ 2147483647 := by
  simpa [Lit.wf, IntKind.min, IntKind.max, IntKind.signed, IntKind.bits] using h
theorem w64 {n : Int} (h1 : -9223372036854775808 ≤ n) (h2 : n ≤ 9223372036854775807) : wrap64 n = n := by unfold wrap64; omega
theorem rd_mem {l : List Int} {i : Int} (h0 : 0 ≤ i) (h1 : i < (l.length : Int)) : rd l i ∈ l := by
  unfold rd
  have h : i.toNat < l.length := by omega
  rw [List.getD_eq_getElem?_getD, List.getElem?_eq_getElem h]
  exact List.getElem_mem h
theorem rd_nat {l : List Int} {i : Nat} (h1 : i < l.length) : rd l (i : Int) = l[i] := by
  unfold rd
  rw [Int.toNat_natCast, List.getD_eq_getElem?_getD, List.getElem?_eq_getElem h1]
  rfl
theorem sum_f {l : List Int} (h : ∀ x ∈ l, -9223372036854775808 ≤ x ∧ x ≤ 9223372036854775807) (hl : l.length ≤ 17592186044416) : agg_Sum.f l = some (sumOut l.sum) := by
  unfold agg_Sum.f aggSum
  rw [if_pos ⟨h, hl⟩]
theorem shown_true : astragallaw20_shown.f = some true := by
  unfold astragallaw20_shown.f
  rw [sum_f (by decide) (by decide), sum_f (by decide) (by decide)]
  decide
theorem sum_small (l : List Int) (hb : ∀ x ∈ l, -2147483648 ≤ x ∧ x ≤ 2147483647) : -2147483648 * (l.length : Int) ≤ l.sum ∧ l.sum ≤ 2147483648 * (l.length : Int) := by
  induction l with
  | nil => simp
  | cons a l ih =>
    have h1 := hb a (List.mem_cons_self ..)
    have h2 := ih (fun x hx => hb x (List.mem_cons_of_mem _ hx))
    simp only [List.sum_cons, List.length_cons]
    omega
theorem take_mem {P : Int → Prop} {l : List Int} (h : ∀ x ∈ l, P x) (i : Nat) : ∀ x ∈ l.take i, P x := fun x hx => h x (List.mem_of_mem_take hx)


theorem fits {s : Int} (h1 : -9223372036854775808 ≤ s) (h2 : s ≤ 9223372036854775807) : sumOut s = (s, 0) := by unfold sumOut; rw [if_pos ⟨h1, h2⟩]
theorem w64_id {n : Int} : wrap64 n = n ↔ (-9223372036854775808 ≤ n ∧ n ≤ 9223372036854775807) := by unfold wrap64; omega

theorem j3_true (k : Nat) (hk : 0 < k) (n : Int) (a b : List Int) (ha : ∀ x ∈ a, -2147483648 ≤ x ∧ x ≤ 2147483647) (hb : ∀ x ∈ b, -2147483648 ≤ x ∧ x ≤ 2147483647) (hla : a.length ≤ 500) (hlb : b.length ≤ 500)
    (h1 : -9223372036854775808 ≤ n) (h2 : n ≤ 9223372036854775807) : astragallaw20_AggSplits.j3 k n true a b = some true := by
  obtain ⟨k, rfl⟩ : ∃ m, k = m + 1 := ⟨k - 1, by omega⟩
  have sa := sum_small a ha
  have sb := sum_small b hb
  have hB := Int.natAbs_tdiv n 2
  have hC : n.natAbs / (2 : Int).natAbs ≤ n.natAbs := Nat.div_le_self _ _
  have hD : n.natAbs / (2 : Int).natAbs = n.natAbs / 2 := rfl
  have hE : ∀ q : Int, q = n.tdiv 2 → (-4611686018427387904 ≤ q ∧ q ≤ 4611686018427387903 ∧ ((0 ≤ n → 0 ≤ q) ∧ (n ≤ 0 → q ≤ 0)) ∧ q.natAbs = n.natAbs / 2) := by
    intro q hq
    subst hq
    have p1 : 0 ≤ n → 0 ≤ n.tdiv 2 := fun h => Int.tdiv_nonneg h (by decide)
    have p2 : n ≤ 0 → n.tdiv 2 ≤ 0 := fun h => by
      have := Int.neg_tdiv n 2
      have q1 := Int.tdiv_nonneg (a := -n) (b := 2) (by omega) (by decide)
      omega
    replace hB : (n.tdiv 2).natAbs = n.natAbs / 2 := hB
    refine ⟨?_, ?_, ⟨p1, p2⟩, hB⟩ <;> omega
  obtain ⟨q1, q2, ⟨q3, q4⟩, q5⟩ := hE _ rfl
  simp only [astragallaw20_AggSplits.j3]
  rw [sum_f (fun x hx => by have := ha x hx; omega) (by omega), sum_f (fun x hx => by have := hb x hx; omega) (by omega), fits (by omega) (by omega), fits (by omega) (by omega)]
  simp only [Option.bind_some, List.nil_append]
  generalize n.tdiv 2 = q at *
  rw [if_pos (by simp only [List.length_nil]; omega), if_pos (by omega), w64 (n := q) (by omega) (by omega), w64 (n := -q) (by omega) (by omega)]
  rw [sum_f (l := a ++ b) (fun x hx => by rcases List.mem_append.1 hx with h | h; · have := ha x h; omega
                                          · have := hb x h; omega) (by rw [List.length_append]; omega)]
  rw [sum_f (l := [n, 0, -q]) (fun x hx => by simp only [List.mem_cons, List.not_mem_nil, or_false] at hx; omega) (by simp)]
  have e1 : (a ++ b).sum = a.sum + b.sum := List.sum_append
  have e2 : [n, 0, -q].sum = n - q := by simp only [List.sum_cons, List.sum_nil]; omega
  rw [e1, e2, fits (by omega) (by omega), fits (by omega) (by omega)]
  simp only [Option.bind_some]
  simp only [if_true]
  rw [w64 (n := a.sum + b.sum) (by omega) (by omega), w64 (n := n - q) (by omega) (by omega)]
  simp

theorem l1_true (x1 : List Int) (n : Int) (a : List Int) (ha : ∀ x ∈ a, -2147483648 ≤ x ∧ x ≤ 2147483647) (hla : a.length ≤ 500) (hb : ∀ x ∈ x1, -2147483648 ≤ x ∧ x ≤ 2147483647)
    (h1 : -9223372036854775808 ≤ n) (h2 : n ≤ 9223372036854775807) (d : Nat) :
    ∀ (k i : Nat), 500 - i = d → i ≤ 500 → i ≤ x1.length → d + 1 < k → astragallaw20_AggSplits.l1 k x1 n true a (x1.take i) (i : Int) = some true := by
  induction d with
  | zero =>
    intro k i hd hi hi2 hk
    obtain ⟨k, rfl⟩ : ∃ m, k = m + 1 := ⟨k - 1, by omega⟩
    simp only [astragallaw20_AggSplits.l1]
    have hj := j3_true k (by omega) n a (x1.take i) ha (take_mem hb i) hla (by rw [List.length_take]; omega) h1 h2
    split
    · rw [if_neg (by omega)]; exact hj
    · exact hj
  | succ d ih =>
    intro k i hd hi hi2 hk
    obtain ⟨k, rfl⟩ : ∃ m, k = m + 1 := ⟨k - 1, by omega⟩
    have hj := j3_true k (by omega) n a (x1.take i) ha (take_mem hb i) hla (by rw [List.length_take]; omega) h1 h2
    by_cases hlt : i < x1.length
    · have hr := hb _ (List.getElem_mem hlt)
      have hst : x1.take (i + 1) = x1.take i ++ [x1[i]] := List.take_succ_eq_append_getElem hlt
      simp only [astragallaw20_AggSplits.l1]
      rw [if_pos (by omega), if_pos (by omega), if_pos (by omega), if_pos (by rw [List.length_take]; omega), rd_nat hlt, w64 (n := x1[i]) (by omega) (by omega), ← hst, w64 (by omega) (by omega)]
      exact ih k (i + 1) (by omega) (by omega) (by omega) (by omega)
    · simp only [astragallaw20_AggSplits.l1]
      rw [if_neg (by omega)]
      exact hj

theorem l0_true (x0 x1 : List Int) (n : Int) (ha : ∀ x ∈ x0, -2147483648 ≤ x ∧ x ≤ 2147483647) (hb : ∀ x ∈ x1, -2147483648 ≤ x ∧ x ≤ 2147483647)
    (h1 : -9223372036854775808 ≤ n) (h2 : n ≤ 9223372036854775807) (d : Nat) :
    ∀ (k i : Nat), 500 - i = d → i ≤ 500 → i ≤ x0.length → d + 505 < k → astragallaw20_AggSplits.l0 k x0 x1 n true (x0.take i) (i : Int) = some true := by
  have hj : ∀ (k i : Nat), 503 < k → i ≤ 500 → astragallaw20_AggSplits.j1 k x1 n true (x0.take i) [] = some true := by
    intro k i hk hi
    obtain ⟨k, rfl⟩ : ∃ m, k = m + 1 := ⟨k - 1, by omega⟩
    have h := l1_true x1 n (x0.take i) (take_mem ha i) (by rw [List.length_take]; omega) hb h1 h2 500 k 0 (by omega) (by omega) (by omega) (by omega)
    simp only [astragallaw20_AggSplits.j1]
    exact h
  induction d with
  | zero =>
    intro k i hd hi hi2 hk
    obtain ⟨k, rfl⟩ : ∃ m, k = m + 1 := ⟨k - 1, by omega⟩
    simp only [astragallaw20_AggSplits.l0]
    split
    · rw [if_neg (by omega)]; exact hj _ _ (by omega) (by omega)
    · exact hj _ _ (by omega) (by omega)
  | succ d ih =>
    intro k i hd hi hi2 hk
    obtain ⟨k, rfl⟩ : ∃ m, k = m + 1 := ⟨k - 1, by omega⟩
    by_cases hlt : i < x0.length
    · have hr := ha _ (List.getElem_mem hlt)
      have hst : x0.take (i + 1) = x0.take i ++ [x0[i]] := List.take_succ_eq_append_getElem hlt
      simp only [astragallaw20_AggSplits.l0]
      rw [if_pos (by omega), if_pos (by omega), if_pos (by omega), if_pos (by rw [List.length_take]; omega), rd_nat hlt, w64 (n := x0[i]) (by omega) (by omega), ← hst, w64 (by omega) (by omega)]
      exact ih k (i + 1) (by omega) (by omega) (by omega) (by omega)
    · simp only [astragallaw20_AggSplits.l0]
      rw [if_neg (by omega)]
      exact hj _ _ (by omega) (by omega)

end Go.Proofs.Ytedgfhijkkedaaa.Pure.Splits
namespace Go.Proofs.Ytedgfhijkkedaaa.Pure
open Go.RowKit Go.Proofs.Ytedgfhijkkedaaa.PSum Go.Proofs.YtedgfhijkkedaaaW.PrintWords Go.Proofs.YtedgfhijkkedaaaW.PrintLast
theorem AggSplits : astragallaw20_AggSplits.Pure := by
  intro l0 l1 a2 _ _ hw0 _ _ hw1 hw2
  have hb2 := Splits.wf_i64 hw2
  refine ⟨1010, ?_⟩
  unfold astragallaw20_AggSplits.f
  rw [Splits.shown_true]
  simp only [Option.bind_some]
  exact Splits.l0_true l0 l1 a2 (fun x hx => Splits.wf_i32 (hw0 x hx)) (fun x hx => Splits.wf_i32 (hw1 x hx)) hb2.1 hb2.2 500 1010 0 (by omega) (by omega) (by omega) (by omega)

end Go.Proofs.Ytedgfhijkkedaaa.Pure
