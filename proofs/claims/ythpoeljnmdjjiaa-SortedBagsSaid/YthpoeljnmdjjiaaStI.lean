/-
  Sorting, plain: rows in blocks of one length, each of which is in order.
-/
import Derived.Test.YthpoeljnmdjjiaaStG
namespace Go.Proofs.Ythpoeljnmdjjiaa.Srt
set_option linter.unusedVariables false
set_option linter.unusedSimpArgs false
variable {cf : Nat → Nat → Int}

/-- A row in blocks of k (the last one no longer), each in order and with the elements that stand there in the base. -/
inductive BS (cf : Nat → Nat → Int) (k : Nat) : List Nat → List Nat → Prop
  | last (X Z : List Nat) : X.length ≤ k → Srd cf Z → Z.Perm X → BS cf k X Z
  | cons (X Z R S : List Nat) : X.length = k → Srd cf Z → Z.Perm X → BS cf k R S → BS cf k (X ++ R) (Z ++ S)
theorem srd_nil : Srd cf [] := List.Pairwise.nil
theorem BS.nil {k : Nat} : BS cf k [] [] := .last [] [] (Nat.zero_le _) srd_nil (List.Perm.refl _)
theorem BS.len {k : Nat} {X Z : List Nat} (h : BS cf k X Z) : Z.length = X.length := by
  induction h with
  | last X Z _ _ h => exact h.length_eq
  | cons X Z R S _ _ h _ ih => rw [List.length_append, List.length_append, h.length_eq, ih]
/-- One block, if there is no more. -/
theorem BS.one {k : Nat} {X Z : List Nat} (h : BS cf k X Z) (hl : X.length ≤ k) (hk : 0 < k) : Srd cf Z ∧ Z.Perm X := by
  cases h with
  | last _ _ _ h1 h2 => exact ⟨h1, h2⟩
  | cons X Z R S h0 h1 h2 h3 =>
    have hR : R = [] := List.eq_nil_of_length_eq_zero (by rw [List.length_append] at hl; omega)
    have hS : S = [] := List.eq_nil_of_length_eq_zero (by have := h3.len; rw [hR] at this; simpa using this)
    subst hR; subst hS
    rw [List.append_nil, List.append_nil]
    exact ⟨h1, h2⟩
/-- The first block of a row that is longer. -/
theorem BS.first {k : Nat} {X Z : List Nat} (h : BS cf k X Z) (hl : k ≤ X.length) : ∃ X1 R Z1 S, X = X1 ++ R ∧ Z = Z1 ++ S ∧ X1.length = k ∧ Srd cf Z1 ∧ Z1.Perm X1 ∧ BS cf k R S := by
  cases h with
  | last _ _ h0 h1 h2 => exact ⟨X, [], Z, [], (List.append_nil _).symm, (List.append_nil _).symm, by omega, h1, h2, BS.nil⟩
  | cons X Z R S h0 h1 h2 h3 => exact ⟨X, R, Z, S, rfl, rfl, h0, h1, h2, h3⟩
/-- What stands ahead is in blocks already. -/
def Dn (cf : Nat → Nat → Int) (k : Nat) (Pb P : List Nat) : Prop := ∀ R S, BS cf k R S → BS cf k (Pb ++ R) (P ++ S)
theorem Dn.nil {k : Nat} : Dn cf k [] [] := fun _ _ h => h
theorem Dn.snoc {k : Nat} {Pb P X Z : List Nat} (h : Dn cf k Pb P) (hl : X.length = k) (hs : Srd cf Z) (hp : Z.Perm X) : Dn cf k (Pb ++ X) (P ++ Z) := fun R S h2 => by
  have := h (X ++ R) (Z ++ S) (.cons X Z R S hl hs hp h2)
  rwa [← List.append_assoc, ← List.append_assoc] at this
theorem lt_parts {A X Y B : List Nat} {Z1 Z2 : List Nat} (h : (A ++ (X ++ (Y ++ B))).Pairwise (· < ·)) (h1 : Z1.Perm X) (h2 : Z2.Perm Y) : ∀ x ∈ Z1, ∀ y ∈ Z2, x < y := by
  obtain ⟨_, a, _⟩ := List.pairwise_append.1 h
  obtain ⟨_, _, c⟩ := List.pairwise_append.1 a
  intro x hx y hy
  exact c x (h1.mem_iff.1 hx) y (List.mem_append_left _ (h2.mem_iff.1 hy))
theorem Mrg.block {X1 X2 Z1 Z2 Z : List Nat} (h : Mrg cf Z1 Z2 Z) (h1 : Z1.Perm X1) (h2 : Z2.Perm X2) : Srd cf Z ∧ Z.Perm (X1 ++ X2) := ⟨h.2, h.1.trans (h1.append h2)⟩
end Go.Proofs.Ythpoeljnmdjjiaa.Srt
