/-
  A sum is the same in whatever order, and with a number and that turned round behind it; small numbers' sum is what it is one after the other: for every input. (AggSums)
-/
import Derived.Test.YtedgfhijkkedaaaPSumx2
namespace Go.Proofs.Ytedgfhijkkedaaa.Pure
open Go.RowKit Go.Proofs.Ytedgfhijkkedaaa.PSum Go.Proofs.YtedgfhijkkedaaaW.PrintWords Go.Proofs.YtedgfhijkkedaaaW.PrintLast
open Go.Proofs.Ytedgfhijkkedaaa.Hand (sumOut aggSum)

theorem wf_i64 {x : Int} (h : (Lit.int .i64 x).wf = true) : -9223372036854775808 ≤ x ∧ x ≤ 9223372036854775807 := by
  simpa [Lit.wf, IntKind.min, IntKind.max, IntKind.signed, IntKind.bits] using h
theorem wf_i32 {x : Int} (h : (Lit.int .i32 x).wf = true) : -2147483648 ≤ x ∧ x ≤ 2147483647 := by
  simpa [Lit.wf, IntKind.min, IntKind.max, IntKind.signed, IntKind.bits] using h
theorem w64 {n : Int} (h1 : -9223372036854775808 ≤ n) (h2 : n ≤ 9223372036854775807) : wrap64 n = n := by unfold wrap64; omega
theorem rd_mem {l : List Int} {i : Int} (h0 : 0 ≤ i) (h1 : i < (l.length : Int)) : rd l i ∈ l := by
  unfold rd
  have h : i.toNat < l.length := by omega
  rw [List.getD_eq_getElem?_getD, List.getElem?_eq_getElem h]
  exact List.getElem_mem h
theorem rd_nat {l : List Int} {i : Nat} (h1 : i < l.length) : rd l (i : Int) = l[i] := by
  unfold rd
  rw [Int.toNat_natCast, List.getD_eq_getElem?_getD, List.getElem?_eq_getElem h1]
  rfl
theorem sum_f {l : List Int} (h : ∀ x ∈ l, -9223372036854775808 ≤ x ∧ x ≤ 9223372036854775807) (hl : l.length ≤ 17592186044416) : agg_Sum.f l = some (sumOut l.sum) := by
  unfold agg_Sum.f aggSum
  rw [if_pos ⟨h, hl⟩]
theorem shown_true : astragallaw20_shown.f = some true := by
  unfold astragallaw20_shown.f
  rw [sum_f (by decide) (by decide), sum_f (by decide) (by decide)]
  decide
theorem sum_small (l : List Int) (hb : ∀ x ∈ l, -2147483648 ≤ x ∧ x ≤ 2147483647) : -2147483648 * (l.length : Int) ≤ l.sum ∧ l.sum ≤ 2147483648 * (l.length : Int) := by
  induction l with
  | nil => simp
  | cons a l ih =>
    have h1 := hb a (List.mem_cons_self ..)
    have h2 := ih (fun x hx => hb x (List.mem_cons_of_mem _ hx))
    simp only [List.sum_cons, List.length_cons]
    omega
theorem take_mem {P : Int → Prop} {l : List Int} (h : ∀ x ∈ l, P x) (i : Nat) : ∀ x ∈ l.take i, P x := fun x hx => h x (List.mem_of_mem_take hx)

theorem l1_true (x1 : List Int) (a e : Int) (hb : ∀ x ∈ x1, -2147483648 ≤ x ∧ x ≤ 2147483647) (hl : x1.length ≤ 1000) (d : Nat) :
    ∀ (k i : Nat), x1.length - i = d → i ≤ x1.length → d < k → astragallaw20_AggSums.l1 k x1 true a e a e a e (x1.take i) (x1.take i).sum (i : Int) = some true := by
  induction d with
  | zero =>
    intro k i hd hi hk
    obtain ⟨k, rfl⟩ : ∃ m, k = m + 1 := ⟨k - 1, by omega⟩
    obtain rfl : i = x1.length := by omega
    simp only [astragallaw20_AggSums.l1]
    rw [if_neg (by omega), List.take_length, sum_f (fun x hx => by have := hb x hx; omega) (by omega)]
    have hs := sum_small x1 hb
    have e1 : sumOut x1.sum = (x1.sum, 0) := by unfold sumOut; rw [if_pos (by omega)]
    rw [e1]
    simp
  | succ d ih =>
    intro k i hd hi hk
    obtain ⟨k, rfl⟩ : ∃ m, k = m + 1 := ⟨k - 1, by omega⟩
    have hlt : i < x1.length := by omega
    have hr := hb _ (List.getElem_mem hlt)
    have hs := sum_small _ (take_mem hb (i + 1))
    have hlen : (x1.take (i + 1)).length = i + 1 := by rw [List.length_take]; omega
    have hst : x1.take (i + 1) = x1.take i ++ [x1[i]] := List.take_succ_eq_append_getElem hlt
    have hss : (x1.take (i + 1)).sum = (x1.take i).sum + x1[i] := by rw [hst, List.sum_append]; simp
    simp only [astragallaw20_AggSums.l1]
    rw [if_pos (by omega), if_pos (by omega), if_pos (by rw [List.length_take]; omega), rd_nat hlt, w64 (n := x1[i]) (by omega) (by omega), ← hss, w64 (by omega) (by omega), ← hst, w64 (by omega) (by omega)]
    exact ih k (i + 1) (by omega) (by omega) (by omega)

theorem l0_true (x0 x1 : List Int) (x2 : Int) (hb0 : ∀ x ∈ x0, -9223372036854775808 ≤ x ∧ x ≤ 9223372036854775807) (hl0 : x0.length ≤ 1000) (hb : ∀ x ∈ x1, -2147483648 ≤ x ∧ x ≤ 2147483647) (hl : x1.length ≤ 1000)
    (h2 : -9223372036854775807 ≤ x2) (h3 : x2 ≤ 9223372036854775807) (d : Nat) :
    ∀ (k : Nat), d ≤ x0.length → d + x1.length + 1 < k → astragallaw20_AggSums.l0 k x0 x1 x2 true (x0.drop d).reverse ((d : Int) - 1) = some true := by
  induction d with
  | zero =>
    intro k hd hk
    obtain ⟨k, rfl⟩ : ∃ m, k = m + 1 := ⟨k - 1, by omega⟩
    simp only [astragallaw20_AggSums.l0]
    rw [if_neg (by omega), List.drop_zero, sum_f hb0 (by omega), sum_f (fun x hx => hb0 x (List.mem_reverse.1 hx)) (by rw [List.length_reverse]; omega)]
    simp only [Option.bind_some]
    rw [if_pos (by simp only [List.length_cons, List.length_nil]; omega), if_pos (by simp only [List.length_append, List.length_cons, List.length_nil]; omega), w64 (by omega) (by omega),
      sum_f (fun x hx => by
        simp only [List.mem_append, List.mem_singleton] at hx
        rcases hx with (rfl | hx) | rfl
        · omega
        · exact hb0 x hx
        · omega) (by simp only [List.length_append, List.length_cons, List.length_nil]; omega)]
    have e1 : x0.reverse.sum = x0.sum := List.sum_reverse x0
    have e2 : ([x2] ++ x0 ++ [-x2]).sum = x0.sum := by simp only [List.sum_append, List.sum_cons, List.sum_nil]; omega
    rw [e1, e2]
    simp only [Option.bind_some]
    exact l1_true x1 _ _ hb hl x1.length k 0 (by omega) (by omega) (by omega)
  | succ d ih =>
    intro k hd hk
    obtain ⟨k, rfl⟩ : ∃ m, k = m + 1 := ⟨k - 1, by omega⟩
    have hlt : d < x0.length := by omega
    simp only [astragallaw20_AggSums.l0]
    have e0 : ((d + 1 : Nat) : Int) - 1 = (d : Int) := by omega
    rw [e0, if_pos (by omega), if_pos (by omega), if_pos (by omega), if_pos (by rw [List.length_reverse, List.length_drop]; omega), rd_nat hlt, w64 (by omega) (by omega)]
    have e1 : (x0.drop (d + 1)).reverse ++ [x0[d]] = (x0.drop d).reverse := by rw [List.drop_eq_getElem_cons hlt, List.reverse_cons]
    rw [e1]
    exact ih k (by omega) (by omega)

theorem AggSums : astragallaw20_AggSums.Pure := by
  intro l0 l1 a2 _ _ hw0 _ _ hw1 hw2
  have hb2 := wf_i64 hw2
  refine ⟨l0.length + l1.length + 4, ?_⟩
  unfold astragallaw20_AggSums.f
  rw [shown_true]
  simp only [Option.bind_some]
  by_cases c1 : (l0.length : Int) > 1000
  · rw [if_pos c1]; simp [astragallaw20_AggSums.j0]
  rw [if_neg c1]
  by_cases c2 : (l1.length : Int) > 1000
  · rw [if_pos c2]; simp [astragallaw20_AggSums.j0]
  rw [if_neg c2]
  by_cases c3 : a2 = -9223372036854775808
  · subst c3; simp [astragallaw20_AggSums.j0]
  have c4 : (a2 == (-9223372036854775808)) = false := by simpa using c3
  rw [c4]
  simp only [astragallaw20_AggSums.j0]
  rw [if_neg (by simp)]
  have h := l0_true l0 l1 a2 (fun x hx => wf_i64 (hw0 x hx)) (by omega) (fun x hx => wf_i32 (hw1 x hx)) (by omega) (by omega) (by omega) l0.length (l0.length + l1.length + 3) (by omega) (by omega)
  rw [List.drop_length, List.reverse_nil] at h
  rw [w64 (by omega) (by omega)]
  exact h

end Go.Proofs.Ytedgfhijkkedaaa.Pure
