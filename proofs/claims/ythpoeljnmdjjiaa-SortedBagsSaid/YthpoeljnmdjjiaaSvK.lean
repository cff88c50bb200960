/-
  Sorting, plain: the order of whole rows is an order, and unlike ones are not alike; sorted rows are told by what they hold.
-/
import Derived.Test.YthpoeljnmdjjiaaSvJ
namespace Go.Proofs.Ythpoeljnmdjjiaa.PSrn
open Go.RowKit Go.Proofs.Ythpoeljnmdjjiaa.Hand Go.Proofs.Ythpoeljnmdjjiaa.Srt Go.Proofs.YthpoeljnmdjjiaaW.PrintWords Go.Proofs.YthpoeljnmdjjiaaW.PrintLast Go.Proofs.YthpoeljnmdjjiaaW.PrintMore
set_option linter.unusedVariables false
set_option linter.unusedSimpArgs false

/-- First by one, then by another. -/
def thenI (a b : Int) : Int := if a = 0 then b else a
theorem thenI_anti {a b a' b' : Int} (h1 : a' = -a) (h2 : b' = -b) : thenI a' b' = - thenI a b := by
  unfold thenI
  by_cases h : a = 0
  · rw [if_pos h, if_pos (by omega), h2]
  · rw [if_neg h, if_neg (by omega), h1]
/-- A comparison that is an order. -/
structure Ord {α : Type} (c : α → α → Int) : Prop where
  anti : ∀ x y, c y x = - c x y
  trans : ∀ x y z, c x y ≤ 0 → c y z ≤ 0 → c x z ≤ 0
theorem Ord.zero_left {α : Type} {c : α → α → Int} (C : Ord c) {x y : α} (h : c x y = 0) (z : α) : (c x z ≤ 0 ↔ c y z ≤ 0) ∧ (0 ≤ c x z ↔ 0 ≤ c y z) := by
  have a1 := C.anti x y
  have a2 := C.anti x z
  have a3 := C.anti y z
  have t1 := C.trans y x z (by omega)
  have t2 := C.trans x y z (by omega)
  have t3 := fun h => C.trans z x y h (by omega)
  have t4 := fun h => C.trans z y x h (by omega)
  omega
theorem Ord.then_ {α : Type} {c d : α → α → Int} (C : Ord c) (D : Ord d) : Ord (fun x y => thenI (c x y) (d x y)) := by
  refine ⟨fun x y => thenI_anti (C.anti x y) (D.anti x y), fun x y z h1 h2 => ?_⟩
  unfold thenI at *
  have a2 := C.anti y z
  by_cases hxy : c x y = 0
  · rw [if_pos hxy] at h1
    have hz := C.zero_left hxy z
    by_cases hyz : c y z = 0
    · rw [if_pos hyz] at h2
      rw [if_pos (by omega)]
      exact D.trans x y z h1 h2
    · rw [if_neg hyz] at h2
      rw [if_neg (by omega)]
      omega
  · rw [if_neg hxy] at h1
    by_cases hyz : c y z = 0
    · have hz := C.zero_left (x := z) (y := y) (by omega) x
      have a3 := C.anti x z
      have a4 := C.anti x y
      rw [if_neg (by omega)]
      omega
    · rw [if_neg hyz] at h2
      have h3 := C.trans x y z h1 h2
      rw [if_neg ?_]
      · exact h3
      · intro h0
        have hz := C.zero_left h0 y
        have a3 := C.anti y z
        omega
theorem ord_cmpI {α : Type} (f : α → Int) : Ord (fun x y => cmpI (f x) (f y)) := ⟨fun x y => cmpI_anti _ _, fun x y z h1 h2 => cmpI_trans h1 h2⟩
theorem ord_str {α : Type} (f : α → ByteArray) : Ord (fun x y => strCmp (f x) (f y)) := ⟨fun x y => strCmp_anti _ _, fun x y z h1 h2 => strCmp_trans h1 h2⟩
def cmp3 (x y : S28) : Int := thenI (cmpI x.f0 y.f0) (thenI (cmpI x.f1 y.f1) (strCmp x.f2 y.f2))
theorem cmp3_ord : Ord cmp3 := (ord_cmpI S28.f0).then_ ((ord_cmpI S28.f1).then_ (ord_str S28.f2))
theorem eqV_eq {x y : S28} : eqV x y = true ↔ x = y := by
  unfold eqV
  obtain ⟨a, b, c⟩ := x
  obtain ⟨a', b', c'⟩ := y
  simp only [Bool.and_eq_true, beq_iff_eq, S28.mk.injEq]
  constructor
  · rintro ⟨rfl, rfl, h⟩
    refine ⟨rfl, rfl, ?_⟩
    have h2 := (strCmp_zero c c').1 (by unfold strCmp; rw [h, less_irrefl, if_neg (by simp), if_pos rfl])
    exact h2
  · rintro ⟨rfl, rfl, rfl⟩
    exact ⟨rfl, rfl, rfl⟩
theorem cmpF_3 (x y : S28) : cmpF x y = cmp3 x y := by
  unfold cmpF cmp3 thenI
  by_cases h0 : x.f0 = y.f0
  · have e0 : cmpI x.f0 y.f0 = 0 := (cmpI_zero _ _).2 h0
    rw [if_pos e0]
    by_cases h1 : x.f1 = y.f1
    · have e1 : cmpI x.f1 y.f1 = 0 := (cmpI_zero _ _).2 h1
      rw [if_pos e1]
      unfold strCmp eqV
      by_cases h2 : x.f2.toList = y.f2.toList
      · rw [if_pos (by simp [h0, h1, h2]), h2, less_irrefl, if_neg (by simp), if_pos rfl]
      · rw [if_neg (by simp [h2]), if_neg (by simp [h0])]
        by_cases h3 : Op.bytesLess x.f2.toList y.f2.toList = true
        · rw [if_pos (.inr ⟨h1, h3⟩), if_pos h3]
        · rw [if_neg (by rintro (h | ⟨_, h⟩); omega; exact h3 h), if_neg h3, if_neg h2]
    · have e1 : ¬ cmpI x.f1 y.f1 = 0 := fun h => h1 ((cmpI_zero _ _).1 h)
      rw [if_neg e1]
      have h2 : ¬ eqV x y = true := fun h => h1 (congrArg S28.f1 (eqV_eq.1 h))
      rw [if_neg h2, if_neg (by simp [h0])]
      unfold cmpI
      by_cases h3 : x.f1 < y.f1
      · rw [if_pos (.inl h3), if_pos h3]
      · rw [if_neg (by rintro (h | ⟨h, _⟩) <;> omega), if_neg h3, if_pos (by omega)]
  · have e0 : ¬ cmpI x.f0 y.f0 = 0 := fun h => h0 ((cmpI_zero _ _).1 h)
    have h2 : ¬ eqV x y = true := fun h => h0 (congrArg S28.f0 (eqV_eq.1 h))
    rw [if_neg e0, if_neg h2, if_pos h0]
theorem cmpF_zero {x y : S28} : cmpF x y = 0 ↔ x = y := by
  constructor
  · intro h
    rw [← eqV_eq]
    unfold cmpF at h
    by_cases he : eqV x y = true
    · exact he
    · rw [if_neg he] at h
      split at h
      · rename_i h0
        exact absurd ((cmpI_zero _ _).1 h) h0
      · split at h <;> omega
  · rintro rfl
    unfold cmpF
    rw [if_pos (eqV_eq.2 rfl)]
theorem ordF : Ord cmpF := by
  have : cmpF = cmp3 := by funext x y; exact cmpF_3 x y
  rw [this]; exact cmp3_ord
theorem fullRow_cons (x y : S28) (a b : List S28) : fullRow (x :: a) (y :: b) = thenI (cmpF x y) (fullRow a b) := rfl
theorem fullRow_anti : ∀ a b, fullRow b a = - fullRow a b
  | [], [] => rfl
  | [], _ :: _ => rfl
  | _ :: _, [] => rfl
  | x :: a, y :: b => by rw [fullRow_cons, fullRow_cons]; exact thenI_anti (ordF.anti x y) (fullRow_anti a b)
theorem fullRow_zero : ∀ {a b}, fullRow a b = 0 ↔ a = b
  | [], [] => by simp [fullRow]
  | [], _ :: _ => by simp [fullRow]
  | _ :: _, [] => by simp [fullRow]
  | x :: a, y :: b => by
    rw [fullRow_cons, List.cons.injEq, ← cmpF_zero, ← fullRow_zero (a := a) (b := b)]
    unfold thenI
    by_cases h : cmpF x y = 0
    · rw [if_pos h]; simp [h]
    · rw [if_neg h]; simp [h]
theorem fullRow_trans : ∀ a b c, fullRow a b ≤ 0 → fullRow b c ≤ 0 → fullRow a c ≤ 0
  | [], b, [], _, _ => by simp [fullRow]
  | [], b, _ :: _, _, _ => by simp [fullRow]
  | _ :: _, [], _, h, _ => by simp [fullRow] at h
  | _ :: _, _ :: _, [], _, h => by simp [fullRow] at h
  | x :: a, y :: b, z :: c, h1, h2 => by
    rw [fullRow_cons] at *
    have a1 := ordF.anti x y
    have a2 := ordF.anti y z
    have a3 := ordF.anti x z
    unfold thenI at *
    by_cases hxy : cmpF x y = 0
    · obtain rfl := cmpF_zero.1 hxy
      rw [if_pos hxy] at h1
      by_cases hyz : cmpF x z = 0
      · rw [if_pos hyz] at h2 ⊢
        exact fullRow_trans a b c h1 h2
      · rw [if_neg hyz] at h2 ⊢
        exact h2
    · rw [if_neg hxy] at h1
      by_cases hyz : cmpF y z = 0
      · obtain rfl := cmpF_zero.1 hyz
        rw [if_neg hxy]; exact h1
      · rw [if_neg hyz] at h2
        have h3 := ordF.trans x y z h1 h2
        by_cases hxz : cmpF x z = 0
        · obtain rfl := cmpF_zero.1 hxz
          omega
        · rw [if_neg hxz]; exact h3
theorem eqRow_eq : ∀ {a b}, eqRow a b = true ↔ a = b
  | [], [] => by simp [eqRow]
  | [], _ :: _ => by simp [eqRow]
  | _ :: _, [] => by simp [eqRow]
  | x :: a, y :: b => by
    rw [List.cons.injEq, ← eqV_eq, ← eqRow_eq (a := a) (b := b)]
    simp only [eqRow, Bool.and_eq_true]
theorem eqRows_eq : ∀ {a b}, eqRows a b = true ↔ a = b
  | [], [] => by simp [eqRows]
  | [], _ :: _ => by simp [eqRows]
  | _ :: _, [] => by simp [eqRows]
  | x :: a, y :: b => by
    rw [List.cons.injEq, ← eqRow_eq, ← eqRows_eq (a := a) (b := b)]
    simp only [eqRows, Bool.and_eq_true]
/-- Rows in the order of whole rows that hold the same, each as often, are the same. -/
theorem full_unique : ∀ {l m : List (List S28)}, l.Pairwise (fun a b => fullRow a b ≤ 0) → m.Pairwise (fun a b => fullRow a b ≤ 0) → l.Perm m → l = m
  | [], m, _, _, hp => hp.nil_eq
  | x :: l, [], _, _, hp => by have := hp.length_eq; simp at this
  | x :: l, y :: m, h1, h2, hp => by
    obtain ⟨a1, a2⟩ := List.pairwise_cons.1 h1
    obtain ⟨b1, b2⟩ := List.pairwise_cons.1 h2
    have hxy : x = y := by
      rcases List.mem_cons.1 (hp.mem_iff.1 (List.mem_cons_self ..) : x ∈ y :: m) with e | hx
      · exact e
      · rcases List.mem_cons.1 (hp.mem_iff.2 (List.mem_cons_self ..) : y ∈ x :: l) with e | hy
        · exact e.symm
        · have c1 := b1 x hx
          have c2 := a1 y hy
          have := fullRow_anti x y
          exact fullRow_zero.1 (by omega)
    subst hxy
    rw [full_unique a2 b2 ((List.perm_cons x).1 hp)]
def cfFull (rows : List (List S28)) (i j : Nat) : Int := fullRow (rows.getD i []) (rows.getD j [])
theorem cfFull_ok (rows : List (List S28)) : Cf (cfFull rows) := ⟨fun i j => fullRow_anti _ _, fun i j k => fullRow_trans _ _ _⟩
/-- Rows in the order of whole rows. -/
def inFull (rows : List (List S28)) : List (List S28) := (places (cfFull rows) rows.length).map fun i => rows.getD i []
theorem map_range {α : Type} (d : α) (rows : List α) : (List.range rows.length).map (fun i => rows.getD i d) = rows := by
  refine List.ext_getElem (by simp) (fun i h1 h2 => ?_)
  simp [h2]
/-- Places in the order of whole rows, however found. -/
def Wk (cf : Nat → Nat → Int) (Z : List Nat) : Prop := Z.Pairwise (fun i j => cf i j ≤ 0)
theorem Srd.wk {cf : Nat → Nat → Int} {Z : List Nat} (h : Srd cf Z) : Wk cf Z := List.Pairwise.imp (fun h => Ah.le h) h
theorem inFull_ok (rows : List (List S28)) : (inFull rows).Pairwise (fun a b => fullRow a b ≤ 0) ∧ (inFull rows).Perm rows := by
  obtain ⟨h1, h2⟩ := places_ok (cfFull_ok rows) rows.length
  unfold inFull
  refine ⟨List.pairwise_map.2 (Srd.wk h1), ?_⟩
  have := h2.map fun i => rows.getD i []
  rw [map_range] at this
  exact this
theorem inFull_of {rows : List (List S28)} {Z : List Nat} (h : Wk (cfFull rows) Z) (hp : Z.Perm (List.range rows.length)) : Z.map (fun i => rows.getD i []) = inFull rows := by
  refine full_unique (List.pairwise_map.2 h) (inFull_ok rows).1 ?_
  have := hp.map fun i => rows.getD i []
  rw [map_range] at this
  exact this.trans (inFull_ok rows).2.symm
def bagB (a b : List (List S28)) : Bool := eqRows (inFull a) (inFull b)
theorem bagB_iff (a b : List (List S28)) : bagB a b = true ↔ a.Perm b := by
  unfold bagB
  rw [eqRows_eq]
  constructor
  · intro h
    exact (inFull_ok a).2.symm.trans (h ▸ (inFull_ok b).2)
  · intro h
    exact full_unique (inFull_ok a).1 (inFull_ok b).1 ((inFull_ok a).2.trans (h.trans (inFull_ok b).2.symm))
end Go.Proofs.Ythpoeljnmdjjiaa.PSrn
