/-
  Sorting, plain: places in order, by a comparison and, where it tells nothing, by the place itself; rows that are put together.
-/
import Derived.Test.YthpoeljnmdjjiaaStC
namespace Go.Proofs.Ythpoeljnmdjjiaa.Srt
set_option linter.unusedVariables false
set_option linter.unusedSimpArgs false

/-- A comparison that is an order of its elements, some of which may be alike. -/
structure Cf (cf : Nat → Nat → Int) : Prop where
  anti : ∀ i j, cf j i = - cf i j
  trans : ∀ i j k, cf i j ≤ 0 → cf j k ≤ 0 → cf i k ≤ 0
/-- Ahead: by the comparison; of two that are alike the one of the lesser place. -/
def Ah (cf : Nat → Nat → Int) (i j : Nat) : Prop := cf i j < 0 ∨ (cf i j = 0 ∧ i < j)
variable {cf : Nat → Nat → Int}
theorem Ah.le {i j : Nat} (h : Ah cf i j) : cf i j ≤ 0 := by rcases h with h | ⟨h, _⟩ <;> omega
theorem Ah.trans (C : Cf cf) {i j k : Nat} (h1 : Ah cf i j) (h2 : Ah cf j k) : Ah cf i k := by
  have h := C.trans i j k h1.le h2.le
  rcases Int.lt_or_eq_of_le h with h | h
  · exact .inl h
  · right
    have a1 := C.trans k i j (by rw [C.anti]; omega) h1.le
    have a2 := C.trans j k i h2.le (by rw [C.anti]; omega)
    have b1 : cf j k = 0 := by have := C.anti j k; have := h2.le; omega
    have b2 : cf i j = 0 := by have := C.anti i j; have := h1.le; omega
    rcases h1 with h1 | ⟨_, h1⟩
    · omega
    · rcases h2 with h2 | ⟨_, h2⟩
      · omega
      · exact ⟨h, by omega⟩
theorem Ah.irrefl (C : Cf cf) (i : Nat) : ¬ Ah cf i i := by
  have := C.anti i i
  rintro (h | ⟨_, h⟩) <;> omega
theorem Ah.asymm (C : Cf cf) {i j : Nat} (h : Ah cf i j) : ¬ Ah cf j i := fun h2 => Ah.irrefl C i (h.trans C h2)
theorem Ah.total (C : Cf cf) {i j : Nat} (h : i ≠ j) : Ah cf i j ∨ Ah cf j i := by
  have := C.anti i j
  unfold Ah
  omega
/-- What the code asks: is a right one (of a greater place) ahead of a left one? -/
theorem ahead_right (C : Cf cf) {i j : Nat} (h : i < j) : ltc cf j i = true ↔ Ah cf j i := by
  unfold ltc Ah
  rw [decide_eq_true_eq]
  omega
theorem not_ahead_right (C : Cf cf) {i j : Nat} (h : i < j) : ltc cf j i = false ↔ Ah cf i j := by
  have := C.anti i j
  unfold ltc Ah
  rw [decide_eq_false_iff_not]
  omega
/-- In order. -/
def Srd (cf : Nat → Nat → Int) (l : List Nat) : Prop := l.Pairwise (Ah cf)
theorem Srd.unique (C : Cf cf) : ∀ {l m : List Nat}, Srd cf l → Srd cf m → l.Perm m → l = m
  | [], m, _, _, hp => (List.Perm.nil_eq hp)
  | x :: l, [], _, _, hp => by have := hp.length_eq; simp at this
  | x :: l, y :: m, h1, h2, hp => by
    obtain ⟨a1, a2⟩ := List.pairwise_cons.1 h1
    obtain ⟨b1, b2⟩ := List.pairwise_cons.1 h2
    have hxy : x = y := by
      rcases List.mem_cons.1 (hp.mem_iff.1 (List.mem_cons_self ..) : x ∈ y :: m) with e | hx
      · exact e
      · rcases List.mem_cons.1 (hp.mem_iff.2 (List.mem_cons_self ..) : y ∈ x :: l) with e | hy
        · exact e.symm
        · exact absurd (b1 x hx) (Ah.asymm C (a1 y hy))
    subst hxy
    rw [Srd.unique C a2 b2 ((List.perm_cons x).1 hp)]
/-- Two rows in order, the second behind the first in its places: what a merge of them is asked to be. -/
def Mrg (cf : Nat → Nat → Int) (X Y Z : List Nat) : Prop := Z.Perm (X ++ Y) ∧ Srd cf Z
theorem Mrg.parts {X1 X2 Y1 Y2 Z1 Z2 : List Nat} (h1 : Mrg cf X1 Y1 Z1) (h2 : Mrg cf X2 Y2 Z2) (hx : ∀ x ∈ X1 ++ Y1, ∀ y ∈ X2 ++ Y2, Ah cf x y) : Mrg cf (X1 ++ X2) (Y1 ++ Y2) (Z1 ++ Z2) := by
  refine ⟨?_, List.pairwise_append.2 ⟨h1.2, h2.2, fun x hxz y hyz => hx x (h1.1.mem_iff.1 hxz) y (h2.1.mem_iff.1 hyz)⟩⟩
  refine (h1.1.append h2.1).trans ?_
  have e : X1 ++ Y1 ++ (X2 ++ Y2) = X1 ++ (Y1 ++ X2) ++ Y2 := by simp only [List.append_assoc]
  have e2 : X1 ++ X2 ++ (Y1 ++ Y2) = X1 ++ (X2 ++ Y1) ++ Y2 := by simp only [List.append_assoc]
  rw [e, e2]
  exact (List.perm_append_comm.append_left X1).append_right Y2
theorem Mrg.nil_left {Y : List Nat} (h : Srd cf Y) : Mrg cf [] Y Y := ⟨List.Perm.refl _, h⟩
theorem Mrg.nil_right {X : List Nat} (h : Srd cf X) : Mrg cf X [] X := ⟨by rw [List.append_nil], h⟩
/-! ## The insertion sort of a row that stands in its places -/
theorem ins_perm (lt : Nat → Nat → Bool) (S : List Nat) (x : Nat) : (ins lt S x).Perm (S ++ [x]) := by
  have h : ∀ R : List Nat, (insR lt x R).Perm (x :: R) := by
    intro R
    induction R with
    | nil => exact List.Perm.refl _
    | cons y t ih =>
      unfold insR
      split
      · exact (ih.cons y).trans (List.Perm.swap _ _ _)
      · exact List.Perm.refl _
  unfold ins
  refine (List.reverse_perm _).trans ((h _).trans ?_)
  exact ((List.reverse_perm S).cons x).trans (List.perm_append_comm (l₁ := [x]) (l₂ := S))
theorem ins_srd (C : Cf cf) (x : Nat) : ∀ S : List Nat, Srd cf S → (∀ y ∈ S, y < x) → Srd cf (ins (ltc cf) S x) := by
  have h : ∀ R : List Nat, R.Pairwise (fun a b => Ah cf b a) → (∀ y ∈ R, y < x) → (insR (ltc cf) x R).Pairwise (fun a b => Ah cf b a) := by
    intro R
    induction R with
    | nil => intro _ _; simp [insR]
    | cons y t ih =>
      intro h1 h2
      obtain ⟨a1, a2⟩ := List.pairwise_cons.1 h1
      have hyx := h2 y (List.mem_cons_self ..)
      unfold insR
      split
      · rename_i hl
        refine List.pairwise_cons.2 ⟨fun z hz => ?_, ih a2 (fun z hz => h2 z (List.mem_cons_of_mem _ hz))⟩
        have hz2 : z ∈ x :: t := by
          have hp : ∀ R : List Nat, ∀ z, z ∈ insR (ltc cf) x R → z ∈ x :: R := by
            intro R
            induction R with
            | nil => intro z hz; exact hz
            | cons w r ih2 =>
              intro z hz
              unfold insR at hz
              split at hz
              · rcases List.mem_cons.1 hz with rfl | hz
                · simp
                · have := ih2 z hz
                  simp at this ⊢
                  rcases this with h | h <;> simp [h]
              · exact hz
          exact hp t z hz
        rcases List.mem_cons.1 hz2 with rfl | hz3
        · exact (ahead_right C hyx).1 hl
        · exact a1 z hz3
      · rename_i hl
        have hxy := (not_ahead_right C hyx).1 (Bool.eq_false_iff.2 hl)
        exact List.pairwise_cons.2 ⟨fun z hz => by
          rcases List.mem_cons.1 hz with rfl | hz
          · exact hxy
          · exact (a1 z hz).trans C hxy, h1⟩
  intro S hS hx
  unfold ins Srd
  rw [List.pairwise_reverse]
  exact h S.reverse (by rw [List.pairwise_reverse]; exact hS) (fun y hy => hx y (List.mem_reverse.1 hy))
theorem isort_srd (C : Cf cf) : ∀ (X S : List Nat), Srd cf S → X.Pairwise (· < ·) → (∀ s ∈ S, ∀ x ∈ X, s < x) → Srd cf (isort (ltc cf) S X) ∧ (isort (ltc cf) S X).Perm (S ++ X)
  | [], S, hS, _, _ => ⟨hS, by unfold isort; rw [List.append_nil]⟩
  | x :: t, S, hS, hX, hx => by
    obtain ⟨a1, a2⟩ := List.pairwise_cons.1 hX
    have hp := ins_perm (ltc cf) S x
    obtain ⟨b1, b2⟩ := isort_srd C t (ins (ltc cf) S x) (ins_srd C x S hS (fun y hy => hx y hy x (List.mem_cons_self ..))) a2 (fun s hs z hz => by
      rcases List.mem_append.1 (hp.mem_iff.1 hs) with h | h
      · exact hx s h z (List.mem_cons_of_mem _ hz)
      · rw [List.mem_singleton.1 h]; exact a1 z hz)
    unfold isort
    refine ⟨b1, b2.trans ?_⟩
    have := hp.append_right t
    simpa using this
end Go.Proofs.Ythpoeljnmdjjiaa.Srt
