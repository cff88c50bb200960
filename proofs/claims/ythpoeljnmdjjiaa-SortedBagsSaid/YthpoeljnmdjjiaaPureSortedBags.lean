/-
  The plain law of SortedBags: a bag is itself in whatever order; with a row turned, or one less, it is another one.
-/
import Derived.Test.YthpoeljnmdjjiaaPSrnx12
import Derived.Test.YthpoeljnmdjjiaaSpA
namespace Go.Proofs.Ythpoeljnmdjjiaa.Pure
open Go.RowKit Go.Proofs.Ythpoeljnmdjjiaa.PSrn Go.Proofs.Ythpoeljnmdjjiaa.Hand Go.Proofs.Ythpoeljnmdjjiaa.Srt Go.Proofs.YthpoeljnmdjjiaaW.PrintWords Go.Proofs.YthpoeljnmdjjiaaW.PrintLast
set_option linter.unusedVariables false

/-- How many values in all. -/
def tot : List (List S28) → Nat
  | [] => 0
  | r :: t => r.length + tot t
theorem tot_perm {a b : List (List S28)} (h : a.Perm b) : tot a = tot b := by
  induction h with
  | nil => rfl
  | cons x _ ih => unfold tot; omega
  | swap x y l => simp only [tot]; omega
  | trans _ _ h1 h2 => omega
theorem tot_set : ∀ (a : List (List S28)) (k : Nat) (x : List S28) (h : k < a.length), tot (a.set k x) + a[k].length = tot a + x.length
  | [], k, x, h => by simp at h
  | r :: t, 0, x, h => by simp only [List.set_cons_zero, List.getElem_cons_zero, tot]; omega
  | r :: t, k + 1, x, h => by
    have := tot_set t k x (by simpa using h)
    simp only [List.set_cons_succ, List.getElem_cons_succ, tot]
    omega
theorem w1 {i : Nat} (h : i ≤ 1000000) : wrap64 ((i : Int) + 1) = ((i + 1 : Nat) : Int) := by unfold wrap64; omega
theorem by_f2 (rows : List (List S28)) (key : List Int) (hl : rows.length ≤ 1000) (hs : Short rows) : sorted_By.f rows key = some (ordR rows key) := by_f rows key hl hs
theorem bags_l0 (x1 : List Int) (x2 : Int) (x9 : Bool) (a : List (List S28)) (p q : Int) (s : ByteArray) (ha : a.length ≤ 150) (h0 : 0 < a.length) : ∀ (d k : Nat), d ≤ a.length →
    law16_SortedBags.l0 (d + 1 + k) x1 x2 x9 a (a.drop d).reverse ((d : Int) - 1) p q s = law16_SortedBags.l1 k x1 x9 a a.reverse (Int.tmod (wrap64 x2) (a.length : Int)) [] 0 p q s := by
  intro d
  induction d with
  | zero =>
    intro k hd
    rw [show 0 + 1 + k = k + 1 by omega, law16_SortedBags.l0, if_neg (by omega), if_neg (by omega), List.drop_zero]
  | succ d ih =>
    intro k hd
    have hdl : d < a.length := by omega
    have e : (a.drop (d + 1)).reverse ++ [a[d]] = (a.drop d).reverse := by rw [List.drop_eq_getElem_cons hdl, List.reverse_cons]
    have ed : (((d + 1 : Nat) : Int) - 1) = (d : Int) := by omega
    have ew : wrap64 ((d : Int) - 1) = (d : Int) - 1 := by unfold wrap64; omega
    rw [show d + 1 + 1 + k = (d + 1 + k) + 1 by omega, law16_SortedBags.l0, ed, if_pos (by omega), if_pos (by omega), if_pos (by omega), if_pos (by rw [List.length_reverse, List.length_drop]; omega), rdL3 a d hdl, e, ew]
    exact ih k (by omega)
theorem bags_l1 (x1 : List Int) (x9 : Bool) (a x11 : List (List S28)) (p q : Int) (s : ByteArray) (ha : a.length ≤ 150) (hs : Short a) (c : Nat) (hc : c < a.length) : ∀ (d i k : Nat), i + d = a.length →
    law16_SortedBags.l1 (d + k) x1 x9 a x11 (c : Int) ((a.set c (a[c] ++ [(⟨p, q, s⟩ : S28)])).take i) (i : Int) p q s = law16_SortedBags.l1 k x1 x9 a x11 (c : Int) (a.set c (a[c] ++ [(⟨p, q, s⟩ : S28)])) (a.length : Int) p q s := by
  intro d
  induction d with
  | zero =>
    intro i k hi
    obtain rfl : i = a.length := by omega
    rw [Nat.zero_add, List.take_of_length_le (by rw [List.length_set]; exact Nat.le_refl _)]
  | succ d ih =>
    intro i k hi
    have hil : i < a.length := by omega
    have h9 := hs _ (List.getElem_mem hil)
    have hl : ((a.set c (a[c] ++ [(⟨p, q, s⟩ : S28)])).take i).length = i := by rw [List.length_take, List.length_set]; omega
    have e : (a.set c (a[c] ++ [(⟨p, q, s⟩ : S28)])).take (i + 1) = (a.set c (a[c] ++ [(⟨p, q, s⟩ : S28)])).take i ++ [if c = i then a[c] ++ [(⟨p, q, s⟩ : S28)] else a[i]] := by
      rw [List.take_succ_eq_append_getElem (by rw [List.length_set]; exact hil), List.getElem_set]
    rw [show d + 1 + k = (d + k) + 1 by omega, law16_SortedBags.l1, if_pos (by omega), Option.bind_some, if_pos (by omega), rdL3 a i hil, if_pos (by simp; omega), Option.bind_some, List.nil_append, w1 (by omega), ← ih (i + 1) k (by omega), e]
    by_cases h : c = i
    · subst h
      rw [if_pos rfl, if_pos (by omega), if_pos (by omega), if_pos rfl]
    · rw [if_neg (by omega), if_pos (by omega), if_neg h]
theorem SortedBags : law16_SortedBags.Pure := by
  intro l0 l1 a2 a30 a31 a32 h0 h1 h2 h3 h4 h5 h6 h7
  have hlen : l0.length ≤ 9223372036854775807 := Nat.le_trans h0.1 (by decide)
  have hL := fewL_len l0
  have hS := fewL_short l0
  have hsh : law16_shown.f = some true := rfl
  by_cases c1 : (l1.length : Int) > 9
  · refine ⟨1200, ?_⟩
    unfold law16_SortedBags.f
    rw [hsh, Option.bind_some, few_f _ l0 hlen (by omega), Option.bind_some, if_pos c1, law16_SortedBags.j0, if_pos rfl]
  · by_cases c2 : (fewL l0).length = 0
    · refine ⟨1200, ?_⟩
      unfold law16_SortedBags.f
      rw [hsh, Option.bind_some, few_f _ l0 hlen (by omega), Option.bind_some, if_neg c1, show (((fewL l0).length : Int) == 0) = true by rw [c2]; rfl, law16_SortedBags.j0, if_pos rfl]
    · refine ⟨((fewL l0).length + 1 + ((fewL l0).length + (1200 + 1))) + 1, ?_⟩
      unfold law16_SortedBags.f
      rw [hsh, Option.bind_some, few_f _ l0 hlen (by omega), Option.bind_some, if_neg c1, show (((fewL l0).length : Int) == 0) = false by rw [beq_eq_false_iff_ne]; omega, law16_SortedBags.j0, if_neg (by decide)]
      generalize fewL l0 = a at *
      have ew : wrap64 ((a.length : Int) - 1) = (a.length : Int) - 1 := by unfold wrap64; omega
      have e0 := bags_l0 l1 a2 true a a30 a31 a32 hL (by omega) a.length (a.length + (1200 + 1)) (Nat.le_refl _)
      rw [List.drop_eq_nil_of_le (Nat.le_refl _), List.reverse_nil] at e0
      rw [ew, e0]
      have h4' : 0 ≤ a2 ∧ a2 ≤ 65535 := by simpa [Lit.wf, IntKind.min, IntKind.max, IntKind.signed, IntKind.bits] using h4
      have ew2 : wrap64 a2 = a2 := by unfold wrap64; omega
      have hm0 : 0 ≤ Int.tmod a2 (a.length : Int) := Int.tmod_nonneg _ h4'.1
      have hm1 : Int.tmod a2 (a.length : Int) < (a.length : Int) := Int.tmod_lt_of_pos _ (by omega)
      rw [ew2]
      obtain ⟨c, hc⟩ : ∃ c : Nat, Int.tmod a2 (a.length : Int) = (c : Int) := ⟨(Int.tmod a2 (a.length : Int)).toNat, by omega⟩
      rw [hc] at hm1 ⊢
      have hca : c < a.length := by omega
      have e1 := bags_l1 l1 true a a.reverse a30 a31 a32 hL hS c hca a.length 0 (1200 + 1) (by omega)
      rw [List.take_zero, show ((0 : Nat) : Int) = 0 from rfl] at e1
      rw [e1, law16_SortedBags.l1, if_neg (by omega), if_pos rfl]
      have oA := ordR_len a l1
      have b1 : bagB a a.reverse = true := (bagB_iff _ _).2 (List.reverse_perm a).symm
      have b2 : bagB a.reverse (ordR a l1) = true := (bagB_iff _ _).2 ((List.reverse_perm a).trans (ordR_perm a l1).symm)
      have b3 : bagB a (a.set c (a[c] ++ [(⟨a30, a31, a32⟩ : S28)])) = false := by
        refine Bool.eq_false_iff.2 (fun h => ?_)
        have h1 := tot_perm ((bagB_iff _ _).1 h)
        have h2 := tot_set a c (a[c] ++ [(⟨a30, a31, a32⟩ : S28)]) hca
        rw [List.length_append, List.length_singleton] at h2
        omega
      have b4 : bagB a (a.drop 1) = false := by
        refine Bool.eq_false_iff.2 (fun h => ?_)
        have h1 := ((bagB_iff _ _).1 h).length_eq
        rw [List.length_drop] at h1
        omega
      rw [bag_f a a.reverse (by omega) (by rw [List.length_reverse]; omega), Option.bind_some, b1, if_pos rfl, by_f a l1 (by omega) hS, Option.bind_some, bag_f a.reverse _ (by rw [List.length_reverse]; omega) (by omega), Option.bind_some, b2, if_pos rfl,
        bag_f a _ (by omega) (by rw [List.length_set]; omega), Option.bind_some, b3, if_neg (by decide), if_pos (by omega), bag_f a _ (by omega) (by rw [List.length_drop]; omega), Option.bind_some, b4]
      rfl
end Go.Proofs.Ythpoeljnmdjjiaa.Pure
