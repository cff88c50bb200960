/-
  Plain laws of the order of values (kind by kind): antisymmetric, transitive; of values that may be, alike only where they are the same.
-/
import Derived.Test.YthpoeljnmdjjiaaHCmp
import Derived.Test.YthpoeljnmdjjiaaHKey
namespace Go.Proofs.Ythpoeljnmdjjiaa.Hand
open Go.RowKit Go.Proofs.YthpoeljnmdjjiaaW.PrintWords

def cmpI (x y : Int) : Int := if x < y then -1 else if x > y then 1 else 0
theorem cmpI_range (x y : Int) : cmpI x y = -1 ∨ cmpI x y = 0 ∨ cmpI x y = 1 := by unfold cmpI; split <;> (try split) <;> simp
theorem cmpI_anti (x y : Int) : cmpI y x = - cmpI x y := by unfold cmpI; split <;> split <;> (try split) <;> (try split) <;> omega
theorem cmpI_trans {x y z : Int} (h1 : cmpI x y ≤ 0) (h2 : cmpI y z ≤ 0) : cmpI x z ≤ 0 := by
  unfold cmpI at *
  split at h1 <;> split at h2 <;> (try split at h1) <;> (try split at h2) <;> split <;> (try split) <;> omega
theorem cmpI_zero (x y : Int) : cmpI x y = 0 ↔ x = y := by unfold cmpI; split <;> (try split) <;> omega
theorem cmpI_neg (x y : Int) : cmpI x y < 0 ↔ x < y := by unfold cmpI; split <;> (try split) <;> omega
theorem cmpI_pos (x y : Int) : cmpI x y > 0 ↔ x > y := by unfold cmpI; split <;> (try split) <;> omega

theorem less_irrefl : ∀ a : List UInt8, Op.bytesLess a a = false
  | [] => rfl
  | x :: a => by simp [Op.bytesLess, less_irrefl a]
theorem less_trans : ∀ a b c : List UInt8, Op.bytesLess a b = true → Op.bytesLess b c = true → Op.bytesLess a c = true
  | [], [], _, h, _ => by simp [Op.bytesLess] at h
  | [], _ :: _, [], _, h => by simp [Op.bytesLess] at h
  | [], _ :: _, _ :: _, _, _ => by simp [Op.bytesLess]
  | _ :: _, [], _, h, _ => by simp [Op.bytesLess] at h
  | _ :: _, _ :: _, [], _, h => by simp [Op.bytesLess] at h
  | x :: a, y :: b, z :: c, h1, h2 => by
    have ih := less_trans a b c
    simp only [Op.bytesLess, Bool.or_eq_true, Bool.and_eq_true, decide_eq_true_eq, beq_iff_eq] at *
    simp only [UInt8.lt_iff_toNat_lt, ← UInt8.toNat_inj] at *
    rcases h1 with h1 | ⟨h1, h1'⟩ <;> rcases h2 with h2 | ⟨h2, h2'⟩
    · left; omega
    · left; omega
    · left; omega
    · right; exact ⟨by omega, ih h1' h2'⟩
theorem less_tri : ∀ a b : List UInt8, Op.bytesLess a b = true ∨ a = b ∨ Op.bytesLess b a = true
  | [], [] => .inr (.inl rfl)
  | [], _ :: _ => .inl rfl
  | _ :: _, [] => .inr (.inr rfl)
  | x :: a, y :: b => by
    rcases less_tri a b with h | h | h
    all_goals
      simp only [Op.bytesLess, Bool.or_eq_true, Bool.and_eq_true, decide_eq_true_eq, beq_iff_eq, List.cons.injEq]
      simp only [UInt8.lt_iff_toNat_lt, ← UInt8.toNat_inj]
      rcases Nat.lt_trichotomy x.toNat y.toNat with q | q | q
    all_goals (first | (left; left; exact q) | (right; right; left; exact q) | (left; right; exact ⟨q, h⟩) | (right; left; exact ⟨q, h⟩) | (right; right; right; exact ⟨q.symm, h⟩))
theorem strCmp_range (a b : ByteArray) : strCmp a b = -1 ∨ strCmp a b = 0 ∨ strCmp a b = 1 := by unfold strCmp; split <;> (try split) <;> simp
theorem strCmp_anti (a b : ByteArray) : strCmp b a = - strCmp a b := by
  unfold strCmp
  rcases less_tri a.toList b.toList with h | h | h
  · have h2 : Op.bytesLess b.toList a.toList = false := by
      cases q : Op.bytesLess b.toList a.toList
      · rfl
      · have := less_trans _ _ _ h q
        rw [less_irrefl] at this
        cases this
    have h3 : ¬ b.toList = a.toList := fun e => by rw [e, less_irrefl] at h; cases h
    rw [if_pos h, h2, if_neg (by simp), if_neg h3]; rfl
  · rw [h, less_irrefl]; simp
  · have h2 : Op.bytesLess a.toList b.toList = false := by
      cases q : Op.bytesLess a.toList b.toList
      · rfl
      · have := less_trans _ _ _ h q
        rw [less_irrefl] at this
        cases this
    have h3 : ¬ a.toList = b.toList := fun e => by rw [e, less_irrefl] at h; cases h
    rw [if_pos h, h2, if_neg (by simp), if_neg h3]
theorem strCmp_le (a b : ByteArray) : strCmp a b ≤ 0 ↔ Op.bytesLess a.toList b.toList = true ∨ a.toList = b.toList := by
  unfold strCmp
  by_cases h : Op.bytesLess a.toList b.toList = true
  · rw [if_pos h]; simp [h]
  · rw [if_neg h]
    by_cases h2 : a.toList = b.toList
    · rw [if_pos h2]; simp [h2]
    · rw [if_neg h2]; simp [h, h2]
theorem strCmp_trans {a b c : ByteArray} (h1 : strCmp a b ≤ 0) (h2 : strCmp b c ≤ 0) : strCmp a c ≤ 0 := by
  rw [strCmp_le] at *
  rcases h1 with h1 | h1 <;> rcases h2 with h2 | h2
  · exact .inl (less_trans _ _ _ h1 h2)
  · exact .inl (h2 ▸ h1)
  · exact .inl (h1 ▸ h2)
  · exact .inr (h1.trans h2)
theorem strCmp_zero (a b : ByteArray) : strCmp a b = 0 ↔ a = b := by
  unfold strCmp
  by_cases h : Op.bytesLess a.toList b.toList = true
  · rw [if_pos h]
    constructor
    · intro q; cases q
    · rintro rfl; rw [less_irrefl] at h; cases h
  · rw [if_neg h]
    constructor
    · intro q
      split at q
      · rename_i e
        rw [ByteArray.toList_eq, ByteArray.toList_eq] at e
        cases a; cases b
        simpa using e
      · cases q
    · rintro rfl
      rw [if_pos rfl]

def u64 (i : Int) : Int := IntKind.u64.wrap i
def U (a : Int) : Prop := 0 ≤ a ∧ a < 18446744073709551616
theorem u64_U (i : Int) : U (u64 i) := by unfold u64; rw [IntKind.wrap_u64]; unfold U; omega
def cl (a : Int) : Int := if a % 9223372036854775808 > 9218868437227405312 then 9221120237041090560 else a
def ck (a : Int) : Int := keyOf (cl a)
theorem cl_U {a : Int} (h : U a) : U (cl a) := by obtain ⟨h1, h2⟩ := h; unfold cl U; split <;> omega
theorem cl_cl (a : Int) : cl (cl a) = cl a := by
  unfold cl
  by_cases h : a % 9223372036854775808 > 9218868437227405312
  · rw [if_pos h]; decide
  · rw [if_neg h, if_neg h]
theorem fltClean_f {a : Int} (h : U a) : fltClean a = some (cl a) := if_pos h
theorem fltKey_f {a : Int} (h : U a) : fltKey a = some (ck a) := by unfold fltKey; rw [fltClean_f h]; rfl
theorem keyOf_inj {a b : Int} (ha : U a) (hb : U b) (h : keyOf a = keyOf b) : a = b := by
  obtain ⟨a1, a2⟩ := ha; obtain ⟨b1, b2⟩ := hb
  unfold keyOf at h
  split at h <;> split at h <;> omega
def valCmp (k1 i1 : Int) (s1 : ByteArray) (k2 i2 : Int) (s2 : ByteArray) : Int :=
  if k1 = k2 then (if k1 = 1 then cmpI i1 i2 else if k1 = 2 then cmpI (ck (u64 i1)) (ck (u64 i2)) else if k1 = 3 then strCmp s1 s2 else 0) else cmpI k1 k2
section
variable (k1 i1 : Int) (s1 : ByteArray) (k2 i2 : Int) (s2 : ByteArray)
theorem valCmp_range : valCmp k1 i1 s1 k2 i2 s2 = -1 ∨ valCmp k1 i1 s1 k2 i2 s2 = 0 ∨ valCmp k1 i1 s1 k2 i2 s2 = 1 := by
  unfold valCmp
  split
  · split
    · exact cmpI_range _ _
    · split
      · exact cmpI_range _ _
      · split
        · exact strCmp_range _ _
        · simp
  · exact cmpI_range _ _
theorem valCmp_anti : valCmp k2 i2 s2 k1 i1 s1 = - valCmp k1 i1 s1 k2 i2 s2 := by
  unfold valCmp
  by_cases h : k1 = k2
  · subst h
    rw [if_pos rfl, if_pos rfl]
    split
    · exact cmpI_anti _ _
    · split
      · exact cmpI_anti _ _
      · split
        · exact strCmp_anti _ _
        · rfl
  · rw [if_neg h, if_neg (fun e => h e.symm)]
    exact cmpI_anti _ _
theorem valCmp_self : valCmp k1 i1 s1 k1 i1 s1 = 0 := by
  have := valCmp_anti k1 i1 s1 k1 i1 s1
  omega
end
theorem valCmp_trans {k1 i1 : Int} {s1 : ByteArray} {k2 i2 : Int} {s2 : ByteArray} {k3 i3 : Int} {s3 : ByteArray} (h1 : valCmp k1 i1 s1 k2 i2 s2 ≤ 0) (h2 : valCmp k2 i2 s2 k3 i3 s3 ≤ 0) : valCmp k1 i1 s1 k3 i3 s3 ≤ 0 := by
  unfold valCmp at *
  by_cases e1 : k1 = k2
  · subst e1
    rw [if_pos rfl] at h1
    by_cases e2 : k1 = k3
    · subst e2
      rw [if_pos rfl] at h2 ⊢
      by_cases c1 : k1 = 1
      · rw [if_pos c1] at *; exact cmpI_trans h1 h2
      · rw [if_neg c1] at *
        by_cases c2 : k1 = 2
        · rw [if_pos c2] at *; exact cmpI_trans h1 h2
        · rw [if_neg c2] at *
          by_cases c3 : k1 = 3
          · rw [if_pos c3] at *; exact strCmp_trans h1 h2
          · rw [if_neg c3] at *; exact h2
    · rw [if_neg e2] at h2 ⊢; exact h2
  · rw [if_neg e1] at h1
    by_cases e2 : k2 = k3
    · subst e2
      rw [if_neg e1]; exact h1
    · rw [if_neg e2] at h2
      have h3 := cmpI_trans h1 h2
      by_cases e3 : k1 = k3
      · subst e3
        have := cmpI_anti k1 k2
        have := (cmpI_zero k1 k2).1 (by omega)
        exact absurd this e1
      · rw [if_neg e3]; exact h3
/-- Whether a value may be. -/
def valMay (k i : Int) (s : ByteArray) : Bool :=
  if k = 0 then decide (i = 0) && decide (s.size = 0) else if k = 1 then decide (s.size = 0) else if k = 2 then decide (s.size = 0) && decide (cl (u64 i) = u64 i) else if k = 3 then decide (i = 0) && decide (s.size ≤ 1024) else false
theorem size0 {s : ByteArray} (h : s.size = 0) : s = ⟨#[]⟩ := by
  cases s with | mk d => simp only [ByteArray.size] at h; rw [Array.size_eq_zero_iff.1 h]
theorem u64_inj {i j : Int} (hi : -9223372036854775808 ≤ i ∧ i < 9223372036854775808) (hj : -9223372036854775808 ≤ j ∧ j < 9223372036854775808) (h : u64 i = u64 j) : i = j := by
  unfold u64 at h
  rw [IntKind.wrap_u64, IntKind.wrap_u64] at h
  omega
theorem valCmp_zero {k1 i1 : Int} {s1 : ByteArray} {k2 i2 : Int} {s2 : ByteArray} (hi : -9223372036854775808 ≤ i1 ∧ i1 < 9223372036854775808) (hj : -9223372036854775808 ≤ i2 ∧ i2 < 9223372036854775808)
    (m1 : valMay k1 i1 s1 = true) (m2 : valMay k2 i2 s2 = true) : valCmp k1 i1 s1 k2 i2 s2 = 0 ↔ k1 = k2 ∧ i1 = i2 ∧ s1 = s2 := by
  constructor
  · intro h
    unfold valCmp at h
    by_cases e : k1 = k2
    · subst e
      rw [if_pos rfl] at h
      refine ⟨rfl, ?_⟩
      unfold valMay at m1 m2
      by_cases c0 : k1 = 0
      · rw [if_pos c0] at m1 m2
        simp only [Bool.and_eq_true, decide_eq_true_eq] at m1 m2
        exact ⟨by omega, by rw [size0 m1.2, size0 m2.2]⟩
      · rw [if_neg c0] at m1 m2
        by_cases c1 : k1 = 1
        · rw [if_pos c1] at m1 m2 h
          simp only [decide_eq_true_eq] at m1 m2
          exact ⟨(cmpI_zero _ _).1 h, by rw [size0 m1, size0 m2]⟩
        · rw [if_neg c1] at m1 m2 h
          by_cases c2 : k1 = 2
          · rw [if_pos c2] at m1 m2 h
            simp only [Bool.and_eq_true, decide_eq_true_eq] at m1 m2
            refine ⟨?_, by rw [size0 m1.1, size0 m2.1]⟩
            have := (cmpI_zero _ _).1 h
            unfold ck at this
            have := keyOf_inj (cl_U (u64_U i1)) (cl_U (u64_U i2)) this
            rw [m1.2, m2.2] at this
            exact u64_inj hi hj this
          · rw [if_neg c2] at m1 m2 h
            by_cases c3 : k1 = 3
            · rw [if_pos c3] at m1 m2 h
              simp only [Bool.and_eq_true, decide_eq_true_eq] at m1 m2
              exact ⟨by omega, (strCmp_zero _ _).1 h⟩
            · rw [if_neg c3] at m1
              cases m1
    · rw [if_neg e] at h
      exact absurd ((cmpI_zero _ _).1 h) e
  · rintro ⟨rfl, rfl, rfl⟩
    exact valCmp_self _ _ _
end Go.Proofs.Ythpoeljnmdjjiaa.Hand
