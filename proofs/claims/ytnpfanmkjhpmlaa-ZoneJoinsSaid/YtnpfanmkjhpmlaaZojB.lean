/-
  Zones of values, plainly: their ends bound all between; what a zone says of none, of all.
-/
import Derived.Test.YtnpfanmkjhpmlaaPZojx10
import Derived.Test.YtnpfanmkjhpmlaaPZojx11
import Derived.Test.YtnpfanmkjhpmlaaPZojx14
import Derived.Test.YtnpfanmkjhpmlaaZojA
namespace Go.Proofs.Ytnpfanmkjhpmlaa.Pure
open Go.RowKit Go.Proofs.Ytnpfanmkjhpmlaa.PZoj Go.Proofs.YtnpfanmkjhpmlaaW.PrintWords Go.Proofs.YtnpfanmkjhpmlaaW.PrintLast
open Go.Proofs.Ytnpfanmkjhpmlaa.Hand (U cl ck cl_U u64 u64_U cmpI valCmp strCmp turnedOf)

def vc (a b : S24) : Int := valCmp a.f0 a.f1 a.f2 b.f0 b.f1 b.f2
theorem vc_anti (a b : S24) : vc b a = - vc a b := Hand.valCmp_anti _ _ _ _ _ _
theorem vc_self (a : S24) : vc a a = 0 := Hand.valCmp_self _ _ _
theorem vc_trans {a b c : S24} (h1 : vc a b ≤ 0) (h2 : vc b c ≤ 0) : vc a c ≤ 0 := Hand.valCmp_trans h1 h2
theorem vc_lt_le {a b c : S24} (h1 : vc a b < 0) (h2 : vc b c ≤ 0) : vc a c < 0 := by
  by_cases h : vc a c < 0
  · exact h
  · have h3 : vc c a ≤ 0 := by rw [vc_anti a c]; omega
    have h4 := vc_trans h2 h3
    rw [vc_anti a b] at h4
    omega
theorem vc_le_lt {a b c : S24} (h1 : vc a b ≤ 0) (h2 : vc b c < 0) : vc a c < 0 := by
  by_cases h : vc a c < 0
  · exact h
  · have h3 : vc c a ≤ 0 := by rw [vc_anti a c]; omega
    have h4 := vc_trans h3 h1
    rw [vc_anti b c] at h4
    omega

def stepMin (m v : S24) : S24 := if vc v m < 0 then v else m
def stepMax (m v : S24) : S24 := if vc v m > 0 then v else m
theorem fold_min : ∀ (t : List S24) (m : S24), (t.foldl stepMin m = m ∨ t.foldl stepMin m ∈ t) ∧ vc (t.foldl stepMin m) m ≤ 0 ∧ ∀ x ∈ t, vc (t.foldl stepMin m) x ≤ 0
  | [], m => ⟨.inl rfl, by simp [vc_self], by simp⟩
  | x :: t, m => by
    obtain ⟨h1, h2, h3⟩ := fold_min t (stepMin m x)
    simp only [List.foldl_cons]
    have hm : (stepMin m x = m ∨ stepMin m x = x) ∧ vc (stepMin m x) m ≤ 0 ∧ vc (stepMin m x) x ≤ 0 := by
      unfold stepMin
      split
      · exact ⟨.inr rfl, by omega, by rw [vc_self]; omega⟩
      · refine ⟨.inl rfl, by rw [vc_self]; omega, ?_⟩
        rw [vc_anti x m]; omega
    refine ⟨?_, vc_trans h2 hm.2.1, fun y hy => ?_⟩
    · rcases h1 with h1 | h1
      · rw [h1]
        rcases hm.1 with e | e
        · exact .inl e
        · rw [e]; exact .inr List.mem_cons_self
      · exact .inr (List.mem_cons_of_mem _ h1)
    · rcases List.mem_cons.1 hy with rfl | hy
      · exact vc_trans h2 hm.2.2
      · exact h3 y hy
theorem fold_max : ∀ (t : List S24) (m : S24), (t.foldl stepMax m = m ∨ t.foldl stepMax m ∈ t) ∧ vc m (t.foldl stepMax m) ≤ 0 ∧ ∀ x ∈ t, vc x (t.foldl stepMax m) ≤ 0
  | [], m => ⟨.inl rfl, by simp [vc_self], by simp⟩
  | x :: t, m => by
    obtain ⟨h1, h2, h3⟩ := fold_max t (stepMax m x)
    simp only [List.foldl_cons]
    have hm : (stepMax m x = m ∨ stepMax m x = x) ∧ vc m (stepMax m x) ≤ 0 ∧ vc x (stepMax m x) ≤ 0 := by
      unfold stepMax
      split
      · exact ⟨.inr rfl, by rw [vc_anti x m]; omega, by rw [vc_self]; omega⟩
      · exact ⟨.inl rfl, by rw [vc_self]; omega, by omega⟩
    refine ⟨?_, vc_trans hm.2.1 h2, fun y hy => ?_⟩
    · rcases h1 with h1 | h1
      · rw [h1]
        rcases hm.1 with e | e
        · exact .inl e
        · rw [e]; exact .inr List.mem_cons_self
      · exact .inr (List.mem_cons_of_mem _ h1)
    · rcases List.mem_cons.1 hy with rfl | hy
      · exact vc_trans hm.2.2 h2
      · exact h3 y hy

/-- The values that are not nothing. -/
def nn (l : List S24) : List S24 := l.filter fun v => decide (v.f0 ≠ 0)
theorem rd_at (l : List S24) (i : Nat) (h : i < l.length) : rd_T24 l (i : Int) = l[i] := by
  unfold rd_T24
  rw [List.getD_eq_getElem?_getD, Int.toNat_natCast, List.getElem?_eq_getElem h]; rfl
theorem split_l (l : List S24) (hl : l.length ≤ 1000000) : ∀ (j k i : Nat) (x : List Bool) (y : List S24), i + j = l.length → j < k → x.length ≤ i → y.length ≤ i →
    ref06_Split.l0 k l x y (i : Int) = some (x ++ (l.drop i).map (fun v => v.f0 == 0), y ++ nn (l.drop i)) := by
  intro j
  induction j with
  | zero =>
    intro k i x y hi hk hx hy
    obtain ⟨k, rfl⟩ : ∃ m, k = m + 1 := ⟨k - 1, by omega⟩
    simp only [ref06_Split.l0]
    rw [if_neg (by omega), List.drop_eq_nil_of_le (by omega)]
    simp [nn]
  | succ j ih =>
    intro k i x y hi hk hx hy
    obtain ⟨k, rfl⟩ : ∃ m, k = m + 1 := ⟨k - 1, by omega⟩
    have hil : i < l.length := by omega
    have hw : wrap64 ((i : Int) + 1) = ((i + 1 : Nat) : Int) := by unfold wrap64; omega
    simp only [ref06_Split.l0, rd_at l i hil, hw]
    rw [if_pos (by omega), if_pos (by omega), if_pos (by omega)]
    simp only [Option.bind_some]
    rw [List.drop_eq_getElem_cons hil]
    by_cases h0 : l[i].f0 = 0
    · rw [if_pos h0, ih k (i + 1) _ _ (by omega) (by omega) (by simp; omega) (by omega)]
      generalize l.drop (i + 1) = t
      generalize l[i] = v at h0
      simp [nn, h0]
    · rw [if_neg h0, if_pos (by omega), ih k (i + 1) _ _ (by omega) (by omega) (by simp; omega) (by simp; omega)]
      generalize l.drop (i + 1) = t
      generalize l[i] = v at h0
      simp [nn, h0]
theorem split_f (l : List S24) (hl : l.length ≤ 1000000) (k : Nat) (hk : l.length < k) : ref06_Split.f k l = some (l.map (fun v => v.f0 == 0), nn l) := by
  have := split_l l hl l.length k 0 [] [] (by omega) hk (by simp) (by simp)
  unfold ref06_Split.f
  simpa using this
theorem zone_l (l : List S24) (hl : l.length ≤ 1000000) (M : Nat) (hMM : M ≤ 140737488351232) (hM : ∀ v ∈ l, v.f2.size ≤ M) (rows nulls : Int) : ∀ (j k i : Nat) (m x : S24), i + j = l.length → 0 < i → 2 * j + 2 * M + 4 < k →
    ref11_Zone.l0 k l (i : Int) rows nulls m.f0 m.f1 m.f2 x.f0 x.f1 x.f2 = some (rows, nulls, ((l.drop i).foldl stepMin m).f0, ((l.drop i).foldl stepMin m).f1, ((l.drop i).foldl stepMin m).f2, ((l.drop i).foldl stepMax x).f0, ((l.drop i).foldl stepMax x).f1, ((l.drop i).foldl stepMax x).f2) := by
  intro j
  induction j with
  | zero =>
    intro k i m x hi h0 hk
    obtain ⟨k, rfl⟩ : ∃ m, k = m + 1 := ⟨k - 1, by omega⟩
    simp only [ref11_Zone.l0]
    rw [if_neg (by omega), List.drop_eq_nil_of_le (by omega)]
    rfl
  | succ j ih =>
    intro k i m x hi h0 hk
    obtain ⟨k, rfl⟩ : ∃ m, k = m + 2 := ⟨k - 2, by omega⟩
    have hil : i < l.length := by omega
    have hw : wrap64 ((i : Int) + 1) = ((i + 1 : Nat) : Int) := by unfold wrap64; omega
    have hsz := hM l[i] (List.getElem_mem hil)
    simp only [ref11_Zone.l0]
    rw [if_pos (by omega), if_neg (by omega), if_pos (by omega), rd_at l i hil, rvcmp_f _ _ _ _ _ _ (by omega) _ (by omega)]
    simp only [Option.bind_some, ref11_Zone.j1, rd_at l i hil, hw]
    rw [rvcmp_f _ _ _ _ _ _ (by omega) _ (by omega)]
    rw [List.drop_eq_getElem_cons hil]
    simp only [Option.bind_some, List.foldl_cons]
    have e1 : stepMin m l[i] = if valCmp l[i].f0 l[i].f1 l[i].f2 m.f0 m.f1 m.f2 < 0 then l[i] else m := rfl
    have e2 : stepMax x l[i] = if valCmp l[i].f0 l[i].f1 l[i].f2 x.f0 x.f1 x.f2 > 0 then l[i] else x := rfl
    by_cases c1 : valCmp l[i].f0 l[i].f1 l[i].f2 m.f0 m.f1 m.f2 < 0
    · rw [decide_eq_true c1, if_pos rfl, if_pos (by omega), if_pos (by omega), if_neg (by omega)]
      rw [if_pos c1] at e1
      by_cases c2 : valCmp l[i].f0 l[i].f1 l[i].f2 x.f0 x.f1 x.f2 > 0
      · rw [if_pos c2] at e2 ⊢
        rw [e1, e2, ih k (i + 1) l[i] l[i] (by omega) (by omega) (by omega)]
      · rw [if_neg c2] at e2 ⊢
        rw [e1, e2, ih k (i + 1) l[i] x (by omega) (by omega) (by omega)]
    · rw [decide_eq_false c1, if_neg (by simp), if_neg (by omega), if_pos (by omega), if_pos (by omega)]
      rw [if_neg c1] at e1
      by_cases c2 : valCmp l[i].f0 l[i].f1 l[i].f2 x.f0 x.f1 x.f2 > 0
      · rw [if_pos c2] at e2 ⊢
        rw [e1, e2, ih k (i + 1) m l[i] (by omega) (by omega) (by omega)]
      · rw [if_neg c2] at e2 ⊢
        rw [e1, e2, ih k (i + 1) m x (by omega) (by omega) (by omega)]
def zMin (l : List S24) : S24 := match nn l with | [] => z24 | v :: t => t.foldl stepMin v
def zMax (l : List S24) : S24 := match nn l with | [] => z24 | v :: t => t.foldl stepMax v
def zNulls (l : List S24) : Int := (l.length : Int) - (nn l).length
theorem nn_le (l : List S24) : (nn l).length ≤ l.length := List.length_filter_le _ _
theorem nn_mem {l : List S24} {v : S24} : v ∈ nn l ↔ v ∈ l ∧ v.f0 ≠ 0 := by simp [nn]
theorem zone_f (l : List S24) (hl : l.length ≤ 1000000) (M : Nat) (hMM : M ≤ 140737488351232) (hM : ∀ v ∈ l, v.f2.size ≤ M) (k : Nat) (hk : 2 * l.length + 2 * M + 8 < k) :
    ref11_Zone.f k l = some ((l.length : Int), zNulls l, (zMin l).f0, (zMin l).f1, (zMin l).f2, (zMax l).f0, (zMax l).f1, (zMax l).f2) := by
  have hn := nn_le l
  have hw : wrap64 ((l.length : Int) - (nn l).length) = zNulls l := by unfold wrap64 zNulls; omega
  unfold ref11_Zone.f
  rw [split_f l hl k (by omega)]
  simp only [Option.bind_some, hw]
  have hM2 : ∀ v ∈ nn l, v.f2.size ≤ M := fun v hv => hM v (nn_mem.1 hv).1
  obtain ⟨k, rfl⟩ : ∃ m, k = m + 2 := ⟨k - 2, by omega⟩
  cases e : nn l with
  | nil =>
    simp only [ref11_Zone.l0]
    rw [if_neg (by simp)]
    unfold zMin zMax
    rw [e]; rfl
  | cons v t =>
    rw [e] at hn hM2
    simp only [List.length_cons] at hn
    have hr : rd_T24 (v :: t) 0 = v := rfl
    have h1 : wrap64 (0 + 1) = ((1 : Nat) : Int) := by unfold wrap64; omega
    simp only [ref11_Zone.l0]
    rw [if_pos (by simp only [List.length_cons]; omega), if_pos trivial]
    simp only [ref11_Zone.j1]
    rw [if_pos trivial, if_pos (by omega), if_pos (by simp only [List.length_cons]; omega), if_pos trivial, hr, h1]
    rw [zone_l (v :: t) (by simp; omega) M hMM hM2 _ _ t.length k 1 v v (by simp; omega) (by omega) (by omega)]
    unfold zMin zMax
    rw [e]; rfl
theorem zMin_le {l : List S24} {v : S24} (h : v ∈ nn l) : zMin l ∈ nn l ∧ vc (zMin l) v ≤ 0 := by
  unfold zMin
  cases e : nn l with
  | nil => rw [e] at h; simp at h
  | cons x t =>
    rw [e] at h
    obtain ⟨h1, h2, h3⟩ := fold_min t x
    show t.foldl stepMin x ∈ x :: t ∧ vc (t.foldl stepMin x) v ≤ 0
    refine ⟨?_, ?_⟩
    · rcases h1 with h1 | h1
      · rw [h1]; exact List.mem_cons_self
      · exact List.mem_cons_of_mem _ h1
    · rcases List.mem_cons.1 h with rfl | h
      · exact h2
      · exact h3 v h
theorem zMax_ge {l : List S24} {v : S24} (h : v ∈ nn l) : zMax l ∈ nn l ∧ vc v (zMax l) ≤ 0 := by
  unfold zMax
  cases e : nn l with
  | nil => rw [e] at h; simp at h
  | cons x t =>
    rw [e] at h
    obtain ⟨h1, h2, h3⟩ := fold_max t x
    show t.foldl stepMax x ∈ x :: t ∧ vc v (t.foldl stepMax x) ≤ 0
    refine ⟨?_, ?_⟩
    · rcases h1 with h1 | h1
      · rw [h1]; exact List.mem_cons_self
      · exact List.mem_cons_of_mem _ h1
    · rcases List.mem_cons.1 h with rfl | h
      · exact h2
      · exact h3 v h

def endsP (m x a : S24) (op : Int) : Bool :=
  if op = 1 then decide (vc a m < 0) || decide (vc x a < 0) else if op = 2 then decide (vc m a = 0) && decide (vc x a = 0) else if op = 3 then !decide (vc m a < 0)
  else if op = 4 then decide (vc a m < 0) else if op = 5 then !decide (vc a x < 0) else if op = 6 then decide (vc x a < 0) else true
def noneP (rows nulls : Int) (m x : S24) (op : Int) (a : S24) : Bool :=
  if op = 7 then decide (nulls ≤ 0) else if op = 8 then decide (nulls ≥ rows) else if nulls ≥ rows then true else if m.f0 = a.f0 then endsP m x a op else true
def everyP (rows nulls : Int) (m x : S24) (op : Int) (a : S24) : Bool :=
  if op = 7 then decide (nulls ≥ rows) else if op = 8 then decide (nulls ≤ 0) else if turnedOf op = 0 then false else if nulls > 0 then false else if m.f0 = a.f0 then noneP rows nulls m x (turnedOf op) a else false
def asksP (op : Int) (c : Int) : Bool :=
  if op = 1 then decide (c = 0) else if op = 2 then !decide (c = 0) else if op = 3 then decide (c < 0) else if op = 4 then decide (c ≤ 0) else if op = 5 then decide (c > 0) else if op = 6 then decide (c ≥ 0) else false
def holdsP (op : Int) (a v : S24) : Bool :=
  if op = 7 then decide (v.f0 = 0) else if op = 8 then !decide (v.f0 = 0) else if v.f0 = 0 then false else if v.f0 ≠ a.f0 then false else asksP op (vc v a)
theorem ends_f (rows nulls : Int) (m x a : S24) (c op : Int) : zone_ends.f rows nulls m.f0 m.f1 m.f2 x.f0 x.f1 x.f2 c op a.f0 a.f1 a.f2 = some (endsP m x a op) := by
  unfold zone_ends.f endsP
  simp only [ahead_f, vcmp_f, Option.bind_some]
  show (if op = 1 then (if decide (vc a m < 0) = true then some true else some (decide (vc x a < 0))) else if op = 2 then (if vc m a = 0 then some (vc x a == 0) else some false) else _) = _
  by_cases h1 : op = 1
  · rw [if_pos h1, if_pos h1]
    cases decide (vc a m < 0) <;> rfl
  · rw [if_neg h1, if_neg h1]
    by_cases h2 : op = 2
    · rw [if_pos h2, if_pos h2]
      split
      · rename_i e; rw [decide_eq_true e, Bool.true_and]; rfl
      · rename_i e; rw [decide_eq_false e, Bool.false_and]
    · rw [if_neg h2, if_neg h2]
      repeat' split
      all_goals rfl
theorem none_f (rows nulls : Int) (m x a : S24) (c op : Int) : zone_None.f rows nulls m.f0 m.f1 m.f2 x.f0 x.f1 x.f2 c op a.f0 a.f1 a.f2 = some (noneP rows nulls m x op a) := by
  unfold zone_None.f noneP
  rw [ends_f]
  simp only [Option.bind_some]
  split
  · rfl
  · split
    · rfl
    · split
      · rename_i h; rw [decide_eq_true h]
      · split <;> rfl
theorem every_f (rows nulls : Int) (m x a : S24) (c op : Int) : zone_Every.f rows nulls m.f0 m.f1 m.f2 x.f0 x.f1 x.f2 c op a.f0 a.f1 a.f2 = some (everyP rows nulls m x op a) := by
  unfold zone_Every.f everyP zone_turned.f
  simp only [Option.bind_some]
  rw [none_f]
  simp only [Option.bind_some]
  repeat' split
  all_goals rfl
theorem turned_asks {op : Int} (h : turnedOf op ≠ 0) (c : Int) : asksP op c = !asksP (turnedOf op) c ∧ turnedOf op ≠ 7 ∧ turnedOf op ≠ 8 := by
  unfold turnedOf at *
  have h6 : op = 1 ∨ op = 2 ∨ op = 3 ∨ op = 4 ∨ op = 5 ∨ op = 6 := by
    repeat' split at h
    all_goals omega
  rcases h6 with rfl | rfl | rfl | rfl | rfl | rfl
  all_goals
    refine ⟨?_, by decide, by decide⟩
    simp only [asksP]
    simp
  all_goals (try omega)
  all_goals (rw [Bool.eq_iff_iff]; simp; try omega)
/-- Where the ends say that an atom holds of none between, it does of none. -/
theorem ends_say {m x a v : S24} {op : Int} (h1 : vc m v ≤ 0) (h2 : vc v x ≤ 0) (h : endsP m x a op = true) : asksP op (vc v a) = false := by
  unfold endsP at h
  unfold asksP
  have n1 := vc_anti a v
  have n2 := vc_anti a m
  have n3 := vc_anti a x
  by_cases o1 : op = 1
  · rw [if_pos o1] at h ⊢
    rw [decide_eq_false_iff_not]
    simp only [Bool.or_eq_true, decide_eq_true_eq] at h
    rcases h with h | h
    · have := vc_lt_le h h1; omega
    · have := vc_le_lt h2 h; omega
  · rw [if_neg o1] at h ⊢
    by_cases o2 : op = 2
    · rw [if_pos o2] at h ⊢
      simp only [Bool.and_eq_true, decide_eq_true_eq] at h
      have p := vc_trans h2 (c := a) (by omega)
      have q := vc_trans (a := a) (b := m) (c := v) (by omega) h1
      rw [decide_eq_true (show vc v a = 0 by omega)]; rfl
    · rw [if_neg o2] at h ⊢
      by_cases o3 : op = 3
      · rw [if_pos o3] at h ⊢
        rw [decide_eq_false_iff_not]
        simp only [Bool.not_eq_true', decide_eq_false_iff_not] at h
        have q := vc_trans (a := a) (b := m) (c := v) (by omega) h1
        omega
      · rw [if_neg o3] at h ⊢
        by_cases o4 : op = 4
        · rw [if_pos o4] at h ⊢
          rw [decide_eq_false_iff_not]
          have := vc_lt_le (of_decide_eq_true h) h1; omega
        · rw [if_neg o4] at h ⊢
          by_cases o5 : op = 5
          · rw [if_pos o5] at h ⊢
            rw [decide_eq_false_iff_not]
            simp only [Bool.not_eq_true', decide_eq_false_iff_not] at h
            have q := vc_trans (a := v) (b := x) (c := a) h2 (by omega)
            omega
          · rw [if_neg o5] at h ⊢
            by_cases o6 : op = 6
            · rw [if_pos o6] at h ⊢
              rw [decide_eq_false_iff_not]
              have := vc_le_lt h2 (of_decide_eq_true h); omega
            · rw [if_neg o6]
section
variable {l : List S24} {kind : Int} (hk : ∀ v ∈ l, v.f0 = kind ∨ v.f0 = 0)
include hk
theorem nn_kind {v : S24} (h : v ∈ nn l) : v.f0 = kind := by
  obtain ⟨h1, h2⟩ := nn_mem.1 h
  rcases hk v h1 with h3 | h3
  · exact h3
  · exact absurd h3 h2
theorem none_says {op : Int} {a : S24} (h : noneP l.length (zNulls l) (zMin l) (zMax l) op a = true) : ∀ v ∈ l, holdsP op a v = false := by
  intro v hv
  have hn := nn_le l
  unfold noneP at h
  unfold holdsP
  by_cases h7 : op = 7
  · rw [if_pos h7] at h ⊢
    rw [decide_eq_false_iff_not]
    have h2 := of_decide_eq_true h
    unfold zNulls at h2
    intro h0
    have : (nn l).length < l.length := by
      unfold nn
      rw [List.length_filter_lt_length_iff_exists]
      exact ⟨v, hv, by simpa using h0⟩
    omega
  · rw [if_neg h7] at h ⊢
    by_cases h8 : op = 8
    · rw [if_pos h8] at h ⊢
      have h2 := of_decide_eq_true h
      unfold zNulls at h2
      have h0 : nn l = [] := List.eq_nil_of_length_eq_zero (by omega)
      by_cases hz : v.f0 = 0
      · rw [decide_eq_true hz]; rfl
      · have : v ∈ nn l := nn_mem.2 ⟨hv, hz⟩
        rw [h0] at this; simp at this
    · rw [if_neg h8] at h ⊢
      by_cases hz : v.f0 = 0
      · rw [if_pos hz]
      · rw [if_neg hz]
        have hvn : v ∈ nn l := nn_mem.2 ⟨hv, hz⟩
        by_cases ha : v.f0 = a.f0
        · rw [if_neg (by simp [ha])]
          obtain ⟨m1, m2⟩ := zMin_le hvn
          obtain ⟨x1, x2⟩ := zMax_ge hvn
          have hpos : 0 < (nn l).length := List.length_pos_of_mem hvn
          rw [if_neg (by unfold zNulls; omega), if_pos (by rw [nn_kind hk m1, ← nn_kind hk hvn, ha])] at h
          exact ends_say m2 x2 h
        · rw [if_pos ha]
theorem every_says {op : Int} {a : S24} (h : everyP l.length (zNulls l) (zMin l) (zMax l) op a = true) : ∀ v ∈ l, holdsP op a v = true := by
  intro v hv
  have hn := nn_le l
  unfold everyP at h
  unfold holdsP
  by_cases h7 : op = 7
  · rw [if_pos h7] at h ⊢
    have h2 := of_decide_eq_true h
    unfold zNulls at h2
    have h0 : nn l = [] := List.eq_nil_of_length_eq_zero (by omega)
    by_cases hz : v.f0 = 0
    · rw [decide_eq_true hz]
    · have : v ∈ nn l := nn_mem.2 ⟨hv, hz⟩
      rw [h0] at this; simp at this
  · rw [if_neg h7] at h ⊢
    have hall : zNulls l ≤ 0 → v.f0 ≠ 0 := by
      intro h2 h0
      unfold zNulls at h2
      have : (nn l).length < l.length := by
        unfold nn
        rw [List.length_filter_lt_length_iff_exists]
        exact ⟨v, hv, by simpa using h0⟩
      omega
    by_cases h8 : op = 8
    · rw [if_pos h8] at h ⊢
      rw [decide_eq_false (hall (of_decide_eq_true h))]; rfl
    · rw [if_neg h8] at h ⊢
      by_cases ht : turnedOf op = 0
      · rw [if_pos ht] at h; cases h
      · rw [if_neg ht] at h
        by_cases hnul : zNulls l > 0
        · rw [if_pos hnul] at h; cases h
        · rw [if_neg hnul] at h
          have hz := hall (by omega)
          have hvn : v ∈ nn l := nn_mem.2 ⟨hv, hz⟩
          obtain ⟨m1, m2⟩ := zMin_le hvn
          by_cases ha : (zMin l).f0 = a.f0
          · rw [if_pos ha] at h
            have hva : v.f0 = a.f0 := by rw [← ha, nn_kind hk m1, nn_kind hk hvn]
            obtain ⟨t1, t2, t3⟩ := turned_asks ht (vc v a)
            have h2 := none_says hk h v hv
            unfold holdsP at h2
            rw [if_neg t2, if_neg t3, if_neg hz, if_neg (by simp [hva])] at h2
            rw [if_neg hz, if_neg (by simp [hva]), t1, h2]; rfl
          · rw [if_neg ha] at h; cases h
theorem not_both {op : Int} {a : S24} (hl : l ≠ []) : noneP l.length (zNulls l) (zMin l) (zMax l) op a = false ∨ everyP l.length (zNulls l) (zMin l) (zMax l) op a = false := by
  cases h1 : noneP l.length (zNulls l) (zMin l) (zMax l) op a with
  | false => exact .inl rfl
  | true =>
    cases h2 : everyP l.length (zNulls l) (zMin l) (zMax l) op a with
    | false => exact .inr rfl
    | true =>
      cases l with
      | nil => exact absurd rfl hl
      | cons v t =>
        have a1 := none_says hk h1 v List.mem_cons_self
        have a2 := every_says hk h2 v List.mem_cons_self
        rw [a1] at a2; cases a2
end
end Go.Proofs.Ytnpfanmkjhpmlaa.Pure
