/-
  In whichever order rows come, groups with counts, sums, and ends of values that may be are the same bag, or refused alike: for every input. (AggOrder)
-/
import Derived.Test.YtedgfhijkkedaaaPAggx15
import Derived.Test.YtedgfhijkkedaaaGpC
import Derived.Test.YtedgfhijkkedaaaGpF
namespace Go.Proofs.Ytedgfhijkkedaaa.PAgg
open Go.RowKit Go.Proofs.YtedgfhijkkedaaaW.PrintWords Go.Proofs.YtedgfhijkkedaaaW.PrintLast
open Go.Proofs.Ytedgfhijkkedaaa.Hand (U cl ck cl_U u64 u64_U cmpI valCmp valMay strCmp)
set_option linter.unusedVariables false
set_option linter.unusedSimpArgs false

/-! ## Bags -/
/-- What is not yet taken. -/
def left : List Bool → List (List S39) → List (List S39)
  | u :: us, y :: ys => if u = true then left us ys else y :: left us ys
  | _, _ => []
theorem left_take : ∀ (us : List Bool) (ys : List (List S39)) (j : Nat) (hj : j < us.length) (hy : j < ys.length), us[j] = false → (left us ys).Perm (ys[j] :: left (us.set j true) ys)
  | u :: us, y :: ys, 0, _, _, h => by
    simp only [List.getElem_cons_zero] at h
    subst h
    simp [left]
  | u :: us, y :: ys, j + 1, hj, hy, h => by
    simp only [List.getElem_cons_succ] at h
    have := left_take us ys j (by simpa using hj) (by simpa using hy) h
    simp only [List.set_cons_succ, left, List.getElem_cons_succ]
    by_cases c : u = true
    · rw [if_pos c, if_pos c]; exact this
    · rw [if_neg c, if_neg c]
      exact (this.cons y).trans (List.Perm.swap _ _ _)
theorem left_mem : ∀ (us : List Bool) (ys : List (List S39)) (r : List S39), us.length = ys.length → r ∈ left us ys → ∃ (j : Nat) (hj : j < us.length) (hy : j < ys.length), us[j] = false ∧ ys[j] = r
  | [], [], r, _, h => by simp [left] at h
  | u :: us, y :: ys, r, hl, h => by
    unfold left at h
    by_cases c : u = true
    · rw [if_pos c] at h
      obtain ⟨j, a, b, e1, e2⟩ := left_mem us ys r (by simpa using hl) h
      exact ⟨j + 1, by simp; omega, by simp; omega, by simpa using e1, by simpa using e2⟩
    · rw [if_neg c] at h
      rcases List.mem_cons.1 h with rfl | h
      · exact ⟨0, by simp, by simp, by simpa using c, rfl⟩
      · obtain ⟨j, a, b, e1, e2⟩ := left_mem us ys r (by simpa using hl) h
        exact ⟨j + 1, by simp; omega, by simp; omega, by simpa using e1, by simpa using e2⟩
theorem left_all : ∀ ys : List (List S39), left (List.replicate ys.length false) ys = ys
  | [] => rfl
  | y :: ys => by
    rw [List.length_cons, List.replicate_succ]
    unfold left
    rw [if_neg (by simp), left_all ys]
theorem rdOf_at (us : List Bool) (j : Nat) (h : j < us.length) : rdOf false us (j : Int) = us[j] := by
  unfold rdOf
  rw [List.getD_eq_getElem?_getD, Int.toNat_natCast, List.getElem?_eq_getElem h]; rfl
theorem bag_scan (x0 x1 : List (List S39)) (h0 : x0.length ≤ 1000) (h1 : x1.length ≤ 1000) (hr : ∀ r ∈ x0, r.length ≤ 1000) (i : Nat) (hi : i < x0.length) (us : List Bool) (hu : us.length = x1.length) :
    ∀ (d k j : Nat), j + d = x1.length → 2 * d + 1010 < k → (∃ (j' : Nat) (hj : j' < us.length) (hy : j' < x1.length), j ≤ j' ∧ us[j'] = false ∧ x1[j'] = x0[i]) →
      ∃ (j' k' : Nat) (hj : j' < us.length) (hy : j' < x1.length), us[j'] = false ∧ x1[j'] = x0[i] ∧ k < k' + 2 * d + 3 ∧ ref16_Bag.l1 k x0 x1 us (i : Int) false (j : Int) = ref16_Bag.l0 k' x0 x1 (us.set j' true) (wrap64 ((i : Int) + 1)) := by
  intro d
  induction d with
  | zero =>
    rintro k j hj hk ⟨j', a, b, c, _⟩
    omega
  | succ d ih =>
    rintro k j hj hk ⟨j', a, b, c, e1, e2⟩
    obtain ⟨k, rfl⟩ : ∃ m, k = m + 2 := ⟨k - 2, by omega⟩
    have hlt : j < x1.length := by omega
    have hrow := hr x0[i] (List.getElem_mem hi)
    by_cases hq : us[j]'(by omega) = true
    · have hjj : j + 1 ≤ j' := by
        rcases Nat.lt_or_ge j j' with h | h
        · exact h
        · obtain rfl : j = j' := by omega
          rw [hq] at e1; cases e1
      obtain ⟨j2, k2, a2, b2, p, q, r, s⟩ := ih k (j + 1) (by omega) (by omega) ⟨j', a, b, hjj, e1, e2⟩
      refine ⟨j2, k2, a2, b2, p, q, by omega, ?_⟩
      rw [ref16_Bag.l1, if_pos (by omega), ref16_Bag.j2, Bool.not_false, if_pos rfl, if_pos (by omega), if_pos (by omega), rdOf_at us j (by omega), if_pos hq, w64n (by omega)]
      exact s
    · by_cases he : eqRow x0[i] x1[j] = true
      · refine ⟨j, ?_⟩
        have hs : ref16_Bag.l1 (k + 2) x0 x1 us (i : Int) false (j : Int) = ref16_Bag.l1 k x0 x1 (us.set j true) (i : Int) true ((j + 1 : Nat) : Int) := by
          rw [ref16_Bag.l1, if_pos (by omega), ref16_Bag.j2, Bool.not_false, if_pos rfl, if_pos (by omega), if_pos (by omega), rdOf_at us j (by omega), if_neg hq, if_pos (by omega), if_pos (by omega), if_pos (by omega), rdL3 _ _ hi, rdL3 _ _ hlt,
            same_f _ _ (by omega) k (by omega), Option.bind_some, if_pos he, Int.toNat_natCast, w64n (by omega)]
        obtain ⟨k, rfl⟩ : ∃ m, k = m + 2 := ⟨k - 2, by omega⟩
        refine ⟨k, by omega, hlt, by simpa using hq, ((eqRow_iff _ _).1 he).symm, by omega, ?_⟩
        rw [hs, ref16_Bag.l1]
        split
        · rw [ref16_Bag.j2, if_neg (by simp), if_pos rfl]
        · rw [ref16_Bag.j2, if_neg (by simp), if_pos rfl]
      · have hjj : j + 1 ≤ j' := by
          rcases Nat.lt_or_ge j j' with h | h
          · exact h
          · obtain rfl : j = j' := by omega
            exact absurd ((eqRow_iff _ _).2 e2.symm) he
        obtain ⟨j2, k2, a2, b2, p, q, r, s⟩ := ih k (j + 1) (by omega) (by omega) ⟨j', a, b, hjj, e1, e2⟩
        refine ⟨j2, k2, a2, b2, p, q, by omega, ?_⟩
        rw [ref16_Bag.l1, if_pos (by omega), ref16_Bag.j2, Bool.not_false, if_pos rfl, if_pos (by omega), if_pos (by omega), rdOf_at us j (by omega), if_neg hq, if_pos (by omega), if_pos (by omega), if_pos (by omega), rdL3 _ _ hi, rdL3 _ _ hlt,
          same_f _ _ (by omega) k (by omega), Option.bind_some, if_neg he, w64n (by omega)]
        exact s
theorem bag_l (x0 x1 : List (List S39)) (h0 : x0.length ≤ 1000) (h1 : x1.length ≤ 1000) (hr : ∀ r ∈ x0, r.length ≤ 1000) :
    ∀ (d k i : Nat) (us : List Bool), i + d = x0.length → d * 3100 + 3100 < k → us.length = x1.length → (left us x1).Perm (x0.drop i) → ref16_Bag.l0 k x0 x1 us (i : Int) = some true := by
  intro d
  induction d with
  | zero =>
    intro k i us hi hk hu hp
    obtain ⟨k, rfl⟩ : ∃ m, k = m + 1 := ⟨k - 1, by omega⟩
    rw [ref16_Bag.l0, if_neg (by omega)]
  | succ d ih =>
    intro k i us hi hk hu hp
    obtain ⟨k, rfl⟩ : ∃ m, k = m + 1 := ⟨k - 1, by omega⟩
    have hlt : i < x0.length := by omega
    rw [List.drop_eq_getElem_cons hlt] at hp
    obtain ⟨j0, a0, b0, e1, e2⟩ := left_mem us x1 x0[i] hu (hp.mem_iff.2 (List.mem_cons_self ..))
    obtain ⟨D, hD⟩ : ∃ D, D = d * 3100 := ⟨_, rfl⟩
    have hk2 : D + 6200 < k + 1 := by rw [Nat.succ_mul, ← hD] at hk; exact hk
    obtain ⟨j, k', a, b, f1, f2, f3, f4⟩ := bag_scan x0 x1 h0 h1 hr i hlt us hu x1.length k 0 (by omega) (by omega) ⟨j0, a0, b0, Nat.zero_le _, e1, e2⟩
    rw [ref16_Bag.l0, if_pos (by omega)]
    rw [show ((0 : Nat) : Int) = 0 from rfl] at f4
    rw [f4, w64n (by omega)]
    refine ih k' (i + 1) (us.set j true) (by omega) (by rw [← hD]; clear hD ih hk; omega) (by rw [List.length_set]; exact hu) ?_
    have hq := left_take us x1 j a b f1
    rw [f2] at hq
    exact (List.perm_cons _).1 (hq.symm.trans hp)
theorem bag_f (x0 x1 : List (List S39)) (h0 : x0.length ≤ 1000) (hr : ∀ r ∈ x0, r.length ≤ 1000) (hp : x1.Perm x0) (k : Nat) (hk : 5000000 < k) : ref16_Bag.f k x0 x1 = some true := by
  have hl := hp.length_eq
  unfold ref16_Bag.f
  rw [if_pos (by omega), if_pos (by omega), if_pos (by omega), Int.toNat_natCast]
  exact bag_l x0 x1 h0 (by omega) hr x0.length k 0 _ (by omega) (by omega) (by simp) (by rw [left_all]; exact hp)

/-! ## Values that may be -/
theorem parts_f {a : Int} (h : U a) : ref04_Parts.f a = some (decide (a ≥ 9223372036854775808), a / 4503599627370496 % 2048, a % 4503599627370496) := by
  obtain ⟨h1, h2⟩ := h
  unfold ref04_Parts.f
  rw [Int.tdiv_eq_ediv_of_nonneg h1, IntKind.wrap_u64, Int.tmod_eq_emod_of_nonneg (by omega), Int.tmod_eq_emod_of_nonneg h1]
  congr 3
  omega
theorem isnan_f {a : Int} (h : U a) : ref04_IsNan.f a = some (decide (a % 9223372036854775808 > 9218868437227405312)) := by
  unfold ref04_IsNan.f
  rw [parts_f h]
  simp only [Option.bind_some]
  obtain ⟨h1, h2⟩ := h
  split
  · congr 1
    rw [Bool.eq_iff_iff, bne_iff_ne, decide_eq_true_iff]
    omega
  · congr 1
    symm
    rw [decide_eq_false_iff_not]
    omega
theorem rclean_f {a : Int} (h : U a) : ref04_Clean.f a = some (cl a) := by
  unfold ref04_Clean.f
  rw [isnan_f h]
  simp only [Option.bind_some, cl, decide_eq_true_iff]
  split <;> rfl
theorem empty_bool (s : ByteArray) : (s.toList == ([] : List UInt8)) = decide (s.size = 0) := by
  rw [ByteArray.toList_eq, Bool.eq_iff_iff, beq_iff_eq, decide_eq_true_iff]
  cases s with | mk d => simp [ByteArray.size]
theorem empty_iff (s : ByteArray) : s.toList = ([] : List UInt8) ↔ s.size = 0 := by
  rw [← beq_iff_eq, empty_bool, decide_eq_true_iff]
theorem may_f (v : S39) : ref05_May.f v.f0 v.f1 v.f2 = some (valMay v.f0 v.f1 v.f2) := by
  unfold ref05_May.f valMay
  split
  · split
    · rename_i h; rw [empty_bool]; simp [h]
    · rename_i h; simp [h]
  · split
    · rw [empty_bool]
    · split
      · split
        · rename_i h
          rw [empty_iff] at h
          have := rclean_f (u64_U v.f1)
          unfold u64 at this
          rw [this, Option.bind_some, h]
          unfold u64
          simp only [decide_true, Bool.true_and]
          congr 1
        · rename_i h
          rw [empty_iff] at h
          simp [h]
      · split
        · split
          · rename_i h
            rw [h]
            congr 1
            simp only [decide_true, Bool.true_and]
            rw [Bool.eq_iff_iff, decide_eq_true_iff, decide_eq_true_iff]
            omega
          · rename_i h; simp [h]
        · rfl
def mayV (v : S39) : Bool := valMay v.f0 v.f1 v.f2
/-! ## The law's loops -/
theorem order_l1 (l2 : List S36) (n : Nat) (A B b : List (List S39)) (i : Nat) (hi : i < b.length) (hA : A.length ≤ 1000) (hB : B.length ≤ 1000) (hr : b[i].length ≤ 1000) :
    ∀ (d k j : Nat) (acc : Bool), j + d = b[i].length → d < k →
      law20_AggOrder.l1 k l2 true (n : Int) A B b (i : Int) acc (j : Int) = if (acc && (b[i].drop j).all mayV) = true then law20_AggOrder.l0 (k - d - 1) l2 true (n : Int) (A ++ [b[i]]) ([b[i]] ++ B) b (wrap64 ((i : Int) + 1)) else law20_AggOrder.l0 (k - d - 1) l2 true (n : Int) A B b (wrap64 ((i : Int) + 1)) := by
  intro d
  induction d with
  | zero =>
    intro k j acc hj hk
    obtain ⟨k, rfl⟩ : ∃ m, k = m + 1 := ⟨k - 1, by omega⟩
    rw [law20_AggOrder.l1, if_pos (by omega), if_pos (by omega), rdL3 _ _ hi, if_neg (by omega), List.drop_eq_nil_of_le (by omega), List.all_nil, Bool.and_true]
    by_cases c : acc = true
    · rw [if_pos c, if_pos c, if_pos (by omega), Option.bind_some, if_pos (by simp; omega)]; rfl
    · rw [if_neg c, if_neg c]; rfl
  | succ d ih =>
    intro k j acc hj hk
    obtain ⟨k, rfl⟩ : ∃ m, k = m + 1 := ⟨k - 1, by omega⟩
    have hlt : j < b[i].length := by omega
    rw [law20_AggOrder.l1, if_pos (by omega), if_pos (by omega), rdL3 _ _ hi, if_pos (by omega), List.drop_eq_getElem_cons hlt, List.all_cons, w64n (by omega), show k + 1 - (d + 1) - 1 = k - d - 1 by omega]
    by_cases c : acc = true
    · rw [if_pos c, if_pos (by omega), rd39 _ _ hlt, may_f, Option.bind_some, ih k (j + 1) _ (by omega) (by omega), c, Bool.true_and]
      rfl
    · rw [if_neg c, ih k (j + 1) _ (by omega) (by omega), Bool.eq_false_iff.2 c]
      rfl
def keepR (n : Nat) (r : List S39) : Bool := decide (n ≤ r.length) && r.all mayV
def fin (k : Nat) (l2 : List S36) (n : Int) (A B : List (List S39)) : Option Bool :=
  if (l2.length : Int) > 20 then some true else (agg_Group.f k A n l2).bind fun bt => (agg_Group.f k B n l2).bind fun bu => if bt.2 = bu.2 then (ref16_Bag.f k bt.1 bu.1).bind fun t => some t else some false
theorem order_l0 (l2 : List S36) (n : Nat) (b : List (List S39)) (hb : b.length ≤ 150) (hr : ∀ r ∈ b, r.length ≤ 9) :
    ∀ (d k i : Nat), i + d = b.length → 12 * d < k → ∃ k', k < k' + 12 * d + 2 ∧
      law20_AggOrder.l0 k l2 true (n : Int) ((b.take i).filter (keepR n)) ((b.take i).filter (keepR n)).reverse b (i : Int) = fin k' l2 (n : Int) (b.filter (keepR n)) (b.filter (keepR n)).reverse := by
  intro d
  induction d with
  | zero =>
    intro k i hi hk
    obtain ⟨k, rfl⟩ : ∃ m, k = m + 1 := ⟨k - 1, by omega⟩
    refine ⟨k, by omega, ?_⟩
    rw [law20_AggOrder.l0, if_neg (by omega), List.take_of_length_le (by omega)]
    unfold fin
    simp only [if_true]
  | succ d ih =>
    intro k i hi hk
    obtain ⟨k, rfl⟩ : ∃ m, k = m + 1 := ⟨k - 1, by omega⟩
    have hlt : i < b.length := by omega
    have hrow := hr b[i] (List.getElem_mem hlt)
    have hfl : ((b.take i).filter (keepR n)).length ≤ 150 := Nat.le_trans (List.length_filter_le _ _) (by rw [List.length_take]; omega)
    obtain ⟨k', a, e⟩ := ih (k - b[i].length - 1) (i + 1) (by omega) (by omega)
    refine ⟨k', by omega, ?_⟩
    rw [← e, law20_AggOrder.l0, if_pos (by omega), if_pos (by omega), rdL3 _ _ hlt]
    have h := order_l1 l2 n ((b.take i).filter (keepR n)) ((b.take i).filter (keepR n)).reverse b i hlt (by omega) (by rw [List.length_reverse]; omega) (by omega) b[i].length k 0 (decide ((b[i].length : Int) ≥ (n : Int))) (by omega) (by omega)
    rw [show ((0 : Nat) : Int) = 0 from rfl, List.drop_zero] at h
    rw [h, w64n (by omega), List.take_succ_eq_append_getElem hlt, List.filter_append]
    have hkeep : (decide ((b[i].length : Int) ≥ (n : Int)) && b[i].all mayV) = keepR n b[i] := by
      unfold keepR
      congr 1
      rw [decide_eq_decide]
      omega
    rw [hkeep]
    by_cases c : keepR n b[i] = true
    · rw [if_pos c, show [b[i]].filter (keepR n) = [b[i]] by simp [c], List.reverse_append]
      rfl
    · rw [if_neg c, show [b[i]].filter (keepR n) = [] by simp [c], List.append_nil]
end Go.Proofs.Ytedgfhijkkedaaa.PAgg
namespace Go.Proofs.Ytedgfhijkkedaaa.Pure
open Go.RowKit Go.Proofs.Ytedgfhijkkedaaa.PAgg Go.Proofs.YtedgfhijkkedaaaW.PrintWords Go.Proofs.YtedgfhijkkedaaaW.PrintLast
theorem AggOrder : PAgg.law20_AggOrder.Pure := by
  intro l0 a1 l2 hw hu _
  have hu8 : 0 ≤ a1 ∧ a1 ≤ 255 := by simpa [Lit.wf, IntKind.min, IntKind.max, IntKind.signed, IntKind.bits] using hu
  obtain ⟨n, hn, hn3⟩ : ∃ n : Nat, wrap64 (Int.tmod a1 4) = (n : Int) ∧ n ≤ 3 := by
    rw [Int.tmod_eq_emod_of_nonneg hu8.1]
    refine ⟨(a1 % 4).toNat, ?_, ?_⟩
    · unfold wrap64; omega
    · omega
  refine ⟨6000000, ?_⟩
  unfold law20_AggOrder.f
  rw [shown_true, Option.bind_some, few_f l0 _ (by omega), Option.bind_some, hn]
  have hb := few_len l0
  have hr := few_row l0
  have hi : ∀ r ∈ fewOf l0, ∀ v ∈ r, -9223372036854775808 ≤ v.f1 ∧ v.f1 < 9223372036854775808 := by
    intro r hr v hv
    obtain ⟨r0, h0, h1⟩ := few_mem l0 r hr v hv
    have := ((hw.2.2 r0 h0).2.2 v h1).2.1
    have h2 : -9223372036854775808 ≤ v.f1 ∧ v.f1 ≤ 9223372036854775807 := by simpa [Lit.wf, IntKind.min, IntKind.max, IntKind.signed, IntKind.bits] using this
    omega
  generalize fewOf l0 = b at *
  obtain ⟨k', hk, e⟩ := order_l0 l2 n b hb hr b.length 6000000 0 (by omega) (by omega)
  rw [show ((0 : Nat) : Int) = 0 from rfl, List.take_zero, List.filter_nil, List.reverse_nil] at e
  rw [e]
  unfold fin
  split
  · rfl
  · rename_i hl
    have hal : (b.filter (keepR n)).length ≤ 150 := Nat.le_trans (List.length_filter_le _ _) hb
    have hok : ∀ r ∈ b.filter (keepR n), n ≤ r.length ∧ ∀ v ∈ r, okV v := by
      intro r hr
      obtain ⟨h1, h2⟩ := List.mem_filter.1 hr
      unfold keepR at h2
      rw [Bool.and_eq_true, decide_eq_true_eq, List.all_eq_true] at h2
      exact ⟨h2.1, fun v hv => ⟨hi r h1 v hv, h2.2 v hv⟩⟩
    generalize b.filter (keepR n) = a at *
    have hr1 : ∀ r ∈ a.reverse, r ∈ a := fun r hr => List.mem_reverse.1 hr
    obtain ⟨herr, hperm⟩ := rows_rev (n : Int) l2 a (fun r hr => (hok r hr).2)
    have g1 := group_f k' a (n : Int) l2 (by omega) (by omega) (by omega) (by omega) (fun r hr => by have := (hok r hr).1; omega) (fun r hr v hv => okV_i64 ((hok r hr).2 v hv)) (by omega)
    have g2 := group_f k' a.reverse (n : Int) l2 (by omega) (by omega) (by rw [List.length_reverse]; omega) (by omega) (fun r hr => by have := (hok r (hr1 r hr)).1; omega) (fun r hr v hv => okV_i64 ((hok r (hr1 r hr)).2 v hv)) (by rw [List.length_reverse]; omega)
    unfold agg_Group.f
    rw [g1, g2, Option.bind_some, Option.bind_some, herr]
    by_cases c : (groupsF (n : Int) a).any (errG l2) = true
    · rw [if_pos c, if_pos c, if_pos rfl, bag_f _ _ (by simp) (fun r hr => by cases hr) (List.Perm.refl _) k' (by omega)]
      rfl
    · rw [if_neg c, if_neg c, if_pos rfl]
      have hgl : (groupsF (n : Int) a).length ≤ 151 := by
        unfold groupsF
        split
        · simp
        · have := good_of (n : Int) a (fun r hr => by have := (hok r hr).1; omega) a.length (Nat.le_refl _)
          rw [List.take_of_length_le (Nat.le_refl _)] at this
          have := this.1
          omega
      rw [bag_f _ _ (by rw [List.length_map]; omega) (fun r hr => by
        obtain ⟨g, _, rfl⟩ := List.mem_map.1 hr
        unfold rowG
        rw [List.length_append, List.length_map]
        have : (headOf (n : Int) g).length ≤ n := by
          unfold headOf
          split
          · rw [List.length_take]; omega
          · simp
        omega) hperm k' (by omega)]
      rfl
end Go.Proofs.Ytedgfhijkkedaaa.Pure
