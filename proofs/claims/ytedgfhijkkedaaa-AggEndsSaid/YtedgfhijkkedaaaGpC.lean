/-
  The least and the greatest of values; rows turned round.
-/
import Derived.Test.YtedgfhijkkedaaaGpB
namespace Go.Proofs.Ytedgfhijkkedaaa.PAgg
open Go.RowKit
open Go.Proofs.Ytedgfhijkkedaaa.Hand (U cl ck cl_U u64 u64_U cmpI valCmp valMay strCmp valCmp_anti valCmp_trans valCmp_self valCmp_zero sumOut)
set_option linter.unusedVariables false
set_option linter.unusedSimpArgs false

theorem cv_anti (x y : S39) : cv y x = - cv x y := valCmp_anti _ _ _ _ _ _
theorem cv_trans {x y z : S39} (h1 : cv x y ≤ 0) (h2 : cv y z ≤ 0) : cv x z ≤ 0 := valCmp_trans h1 h2
theorem cv_self (x : S39) : cv x x = 0 := valCmp_self _ _ _
/-- The pick of a row by an order. -/
theorem pick_spec (lt : S39 → S39 → Bool) (le : S39 → S39 → Prop) (hr : ∀ x, le x x) (ht : ∀ x y z, le x y → le y z → le x z) (h1 : ∀ x m, lt x m = true → le x m) (h0 : ∀ x m, lt x m = false → le m x) :
    ∀ (t : List S39) (m : S39), pickB lt t m ∈ m :: t ∧ ∀ x ∈ m :: t, le (pickB lt t m) x
  | [], m => ⟨List.mem_cons_self .., fun x hx => by rw [List.mem_singleton.1 hx]; exact hr m⟩
  | y :: t, m => by
    unfold pickB
    by_cases c : lt y m = true
    · rw [if_pos c]
      obtain ⟨a, b⟩ := pick_spec lt le hr ht h1 h0 t y
      refine ⟨List.mem_cons_of_mem _ a, fun x hx => ?_⟩
      rcases List.mem_cons.1 hx with rfl | hx
      · exact ht _ _ _ (b y (List.mem_cons_self ..)) (h1 _ _ c)
      · exact b x hx
    · rw [if_neg c]
      obtain ⟨a, b⟩ := pick_spec lt le hr ht h1 h0 t m
      refine ⟨?_, fun x hx => ?_⟩
      · rcases List.mem_cons.1 a with h | h
        · rw [h]; exact List.mem_cons_self ..
        · exact List.mem_cons_of_mem _ (List.mem_cons_of_mem _ h)
      · rcases List.mem_cons.1 hx with rfl | hx
        · exact b _ (List.mem_cons_self ..)
        · rcases List.mem_cons.1 hx with rfl | hx
          · exact ht _ _ _ (b m (List.mem_cons_self ..)) (h0 _ _ (Bool.eq_false_iff.2 c))
          · exact b x (List.mem_cons_of_mem _ hx)
theorem min_spec (l : List S39) (h : 0 < l.length) : minOf l ∈ l ∧ ∀ x ∈ l, cv (minOf l) x ≤ 0 := by
  cases l with
  | nil => cases h
  | cons m t =>
    exact pick_spec (fun x m => decide (cv x m < 0)) (fun x y => cv x y ≤ 0) (fun x => by rw [cv_self]; exact Int.le_refl _) (fun x y z => cv_trans) (fun x m h => by rw [decide_eq_true_eq] at h; omega)
      (fun x m h => by rw [decide_eq_false_iff_not] at h; rw [cv_anti x m]; omega) t m
theorem max_spec (l : List S39) (h : 0 < l.length) : maxOf l ∈ l ∧ ∀ x ∈ l, cv x (maxOf l) ≤ 0 := by
  cases l with
  | nil => cases h
  | cons m t =>
    exact pick_spec (fun x m => decide (cv x m > 0)) (fun x y => cv y x ≤ 0) (fun x => by rw [cv_self]; exact Int.le_refl _) (fun x y z a b => cv_trans b a) (fun x m h => by rw [decide_eq_true_eq] at h; rw [cv_anti x m]; omega)
      (fun x m h => by rw [decide_eq_false_iff_not] at h; omega) t m
/-- A value that may be, and is a whole number of 64 bits. -/
def okV (v : S39) : Prop := (-9223372036854775808 ≤ v.f1 ∧ v.f1 < 9223372036854775808) ∧ valMay v.f0 v.f1 v.f2 = true
theorem cv_eq {x y : S39} (hx : okV x) (hy : okV y) (h1 : cv x y ≤ 0) (h2 : cv y x ≤ 0) : x = y := by
  have h0 : cv x y = 0 := by rw [cv_anti x y] at h2; omega
  obtain ⟨a, b, c⟩ := (valCmp_zero hx.1 hy.1 hx.2 hy.2).1 h0
  cases x; cases y
  simp only at a b c
  subst a b c
  rfl
theorem end_rev (l : List S39) (hl : ∀ v ∈ l, okV v) : endOf minOf l.reverse = endOf minOf l ∧ endOf maxOf l.reverse = endOf maxOf l := by
  unfold endOf
  rw [List.length_reverse]
  by_cases h : l.length = 0
  · rw [if_pos h, if_pos h, if_pos h, if_pos h]; exact ⟨rfl, rfl⟩
  · rw [if_neg h, if_neg h, if_neg h, if_neg h]
    obtain ⟨a1, a2⟩ := min_spec l (by omega)
    obtain ⟨b1, b2⟩ := min_spec l.reverse (by rw [List.length_reverse]; omega)
    obtain ⟨c1, c2⟩ := max_spec l (by omega)
    obtain ⟨d1, d2⟩ := max_spec l.reverse (by rw [List.length_reverse]; omega)
    rw [List.mem_reverse] at b1 d1
    exact ⟨cv_eq (hl _ b1) (hl _ a1) (b2 _ (List.mem_reverse.2 a1)) (a2 _ b1), cv_eq (hl _ d1) (hl _ c1) (c2 _ d1) (d2 _ (List.mem_reverse.2 c1))⟩
theorem sum_rev : ∀ l : List Int, l.reverse.sum = l.sum
  | [] => rfl
  | a :: t => by
    rw [List.reverse_cons, List.sum_append, sum_rev t, List.sum_cons, List.sum_cons, List.sum_nil]
    omega
theorem col_rev (col : Int) (g : List (List S39)) : colOf col g.reverse = (colOf col g).reverse := by
  unfold colOf
  rw [List.map_reverse, List.filter_reverse]
theorem nums_rev (l : List S39) : numsOf l.reverse = (numsOf l).reverse := by
  unfold numsOf
  rw [List.filter_reverse, List.map_reverse]
theorem tot_rev (l : List S39) : totV l.reverse = totV l := by
  unfold totV
  rw [nums_rev, List.length_reverse, sum_rev]
theorem one_rev (g : List (List S39)) (op col : Int) (hg : ∀ r ∈ g, ∀ v ∈ r, okV v) : oneV g.reverse op col = oneV g op col := by
  have hc : ∀ v ∈ colOf col g, okV v := fun v hv => by
    obtain ⟨_, r, hr, hvr, _⟩ := colOf_mem col g v hv
    exact hg r hr v hvr
  unfold oneV
  rw [List.length_reverse, col_rev, tot_rev, (end_rev _ hc).1, (end_rev _ hc).2]
theorem okV_i64 {v : S39} (h : okV v) : i64V v := ⟨h.1.1, by have := h.1.2; omega⟩

/-! ## Rows of groups, with errors -/
def errG (l : List S36) (g : List (List S39)) : Bool := l.any fun a => decide ((oneV g a.f0 a.f1).2 ≠ 0)
theorem sum_err (s : Int) : (sumOut s).2 = 0 ∨ (sumOut s).2 = 8 := by
  unfold sumOut
  split
  · exact .inl rfl
  · exact .inr rfl
theorem tot_err (l : List S39) : (totV l).2 = 0 ∨ (totV l).2 = 8 := by
  unfold totV
  split
  · exact .inl rfl
  · split
    · exact .inl rfl
    · exact sum_err _
theorem one_err (g : List (List S39)) (op col : Int) : (oneV g op col).2 = 0 ∨ (oneV g op col).2 = 8 := by
  unfold oneV
  split
  · exact .inl rfl
  · split
    · exact tot_err _
    · split
      · exact .inl rfl
      · split <;> exact .inl rfl
def rowG (n : Int) (l : List S36) (g : List (List S39)) : List S39 := headOf n g ++ l.map fun a => (oneV g a.f0 a.f1).1
theorem aggRow_f (k : Nat) (g : List (List S39)) (hf : ∀ op col, oneF k g op col = some (oneV g op col)) : ∀ (l : List S36) (acc : List S39), aggRow k g l acc = some (if errG l g = true then ([], 8) else (acc ++ l.map (fun a => (oneV g a.f0 a.f1).1), 0))
  | [], acc => by simp [aggRow, errG]
  | a :: t, acc => by
    unfold aggRow
    rw [hf, Option.bind_some]
    have he : errG (a :: t) g = (decide ((oneV g a.f0 a.f1).2 ≠ 0) || errG t g) := by unfold errG; rw [List.any_cons]
    rw [he]
    rcases one_err g a.f0 a.f1 with h | h
    · rw [if_pos h, aggRow_f k g hf t, h]
      simp
    · rw [if_neg (by omega), h]
      simp
theorem aggAll_f (k : Nat) (n : Int) (l : List S36) : ∀ (gs : List (List (List S39))) (acc : List (List S39)), (∀ g ∈ gs, ∀ op col, oneF k g op col = some (oneV g op col)) →
    aggAll k n l gs acc = some (if gs.any (errG l) = true then ([], 8) else (acc ++ gs.map (rowG n l), 0))
  | [], acc, _ => by simp [aggAll]
  | g :: t, acc, h => by
    unfold aggAll
    rw [aggRow_f k g (h g (List.mem_cons_self ..)), Option.bind_some, List.any_cons]
    by_cases e : errG l g = true
    · rw [if_pos e, e]; simp
    · rw [if_neg e, if_pos rfl, aggAll_f k n l t _ (fun b hb => h b (List.mem_cons_of_mem _ hb))]
      rw [Bool.eq_false_iff.2 e, Bool.false_or, List.map_cons]
      unfold rowG
      simp
theorem groups_mem (n : Int) (a : List (List S39)) : ∀ g ∈ groupsF n a, g.length ≤ a.length ∧ ∀ r ∈ g, r ∈ a := by
  intro g hg
  unfold groupsF at hg
  split at hg
  · rw [List.mem_singleton.1 hg]; exact ⟨Nat.le_refl _, fun r hr => hr⟩
  · rw [groups_eq] at hg
    obtain ⟨c, _, rfl⟩ := List.mem_map.1 hg
    exact ⟨List.length_filter_le _ _, fun r hr => (List.mem_filter.1 hr).1⟩
theorem group_f (k : Nat) (a : List (List S39)) (n : Int) (l : List S36) (h0 : 0 ≤ n) (h1 : n ≤ 1000000) (ha : a.length ≤ 1000000) (hl : l.length ≤ 1000000) (hall : ∀ r ∈ a, n ≤ (r.length : Int)) (hw : ∀ r ∈ a, ∀ v ∈ r, i64V v) (hk : a.length < k) :
    groupF k a n l = some (if (groupsF n a).any (errG l) = true then ([], 8) else ((groupsF n a).map (rowG n l), 0)) := by
  unfold groupF
  rw [if_neg (by
    rintro (h | h)
    · omega
    · obtain ⟨r, hr, h2⟩ := List.any_eq_true.1 h
      rw [decide_eq_true_eq] at h2
      have := hall r hr
      omega), if_pos ⟨ha, h1, hl⟩, aggAll_f k n l _ _ (fun g hg op col => by
        obtain ⟨m1, m2⟩ := groups_mem n a g hg
        exact one_f g op col (by omega) (fun r hr => hw r (m2 r hr)) k (by omega)), List.nil_append]

/-! ## Rows turned round: the same groups, in another order, each turned round -/
theorem firsts_rev {α : Type} [DecidableEq α] (l : List α) : (firsts l.reverse).Perm (firsts l) := by
  rw [List.perm_ext_iff_of_nodup (nodup_firsts _) (nodup_firsts _)]
  intro c
  rw [mem_firsts, mem_firsts, List.mem_reverse]
theorem groups_rev (n : Int) (a : List (List S39)) : (groupsF n a.reverse).Perm ((groupsF n a).map List.reverse) := by
  unfold groupsF
  split
  · exact List.Perm.refl _
  · rw [groups_eq, groups_eq, List.map_reverse, List.map_map]
    have e : (List.reverse ∘ grp n.toNat a) = grp n.toNat a.reverse := by
      funext c
      show (grp n.toNat a c).reverse = _
      unfold grp
      rw [List.filter_reverse]
    rw [e]
    exact (firsts_rev _).map _
theorem head_rev (n : Int) (a : List (List S39)) : ∀ g ∈ groupsF n a, headOf n g.reverse = headOf n g := by
  intro g hg
  unfold headOf
  by_cases h : 0 < n
  · rw [if_pos h, if_pos h]
    unfold groupsF at hg
    rw [if_neg (by omega), groups_eq] at hg
    obtain ⟨c, hc, rfl⟩ := List.mem_map.1 hg
    obtain ⟨p, q⟩ := grp_head n.toNat a c ((mem_firsts _ _).1 hc)
    have hk : ∀ r ∈ grp n.toNat a c, keyN n.toNat r = c := fun r hr => by
      have := (List.mem_filter.1 hr).2
      rw [decide_eq_true_eq] at this
      exact this
    have hm : rd_L3 (grp n.toNat a c).reverse 0 ∈ grp n.toNat a c := by
      have h2 : 0 < (grp n.toNat a c).reverse.length := by rw [List.length_reverse]; exact p
      have := rdL3 (grp n.toNat a c).reverse 0 h2
      rw [show ((0 : Nat) : Int) = 0 from rfl] at this
      rw [this]
      exact List.mem_reverse.1 (List.getElem_mem h2)
    have := hk _ hm
    unfold keyN at this q
    rw [this, q]
  · rw [if_neg h, if_neg h]
theorem rows_rev (n : Int) (l : List S36) (a : List (List S39)) (ha : ∀ r ∈ a, ∀ v ∈ r, okV v) :
    ((groupsF n a.reverse).any (errG l) = (groupsF n a).any (errG l)) ∧ ((groupsF n a.reverse).map (rowG n l)).Perm ((groupsF n a).map (rowG n l)) := by
  have hp := groups_rev n a
  have hok : ∀ g ∈ groupsF n a, ∀ r ∈ g, ∀ v ∈ r, okV v := fun g hg r hr => ha r ((groups_mem n a g hg).2 r hr)
  constructor
  · rw [Bool.eq_iff_iff, List.any_eq_true, List.any_eq_true]
    have he : ∀ g ∈ groupsF n a, errG l g.reverse = errG l g := fun g hg => by
      unfold errG
      congr 1
      funext x
      rw [one_rev g _ _ (hok g hg)]
    constructor
    · rintro ⟨g, hg, e⟩
      obtain ⟨g', hg', rfl⟩ := List.mem_map.1 (hp.mem_iff.1 hg)
      exact ⟨g', hg', by rw [← he g' hg']; exact e⟩
    · rintro ⟨g, hg, e⟩
      exact ⟨g.reverse, hp.mem_iff.2 (List.mem_map.2 ⟨g, hg, rfl⟩), by rw [he g hg]; exact e⟩
  · refine (hp.map (rowG n l)).trans ?_
    rw [List.map_map]
    refine List.Perm.of_eq (List.map_congr_left (fun g hg => ?_))
    show rowG n l g.reverse = rowG n l g
    unfold rowG
    rw [head_rev n a g hg]
    congr 1
    refine List.map_congr_left (fun x _ => ?_)
    rw [one_rev g _ _ (hok g hg)]
end Go.Proofs.Ytedgfhijkkedaaa.PAgg
