/-
  Plain lemmas on numbers' bytes: what is put is read, and what is read is what is put.
-/
import Derived.Test.YtkjlimmdgnahgaaHPut
import Derived.Test.YtkjlimmdgnahgaaHInts
namespace Go.Proofs.Ytkjlimmdgnahgaa.Hand
open Go.RowKit Go.Proofs.YtkjlimmdgnahgaaW.PrintWords

theorem wf_u64_ {x : Int} (h : (Lit.int .u64 x).wf = true) : 0 ≤ x ∧ x < 18446744073709551616 := by
  have h2 : 0 ≤ x ∧ x ≤ 18446744073709551615 := by simpa [Lit.wf, IntKind.min, IntKind.max, IntKind.signed, IntKind.bits] using h
  omega
theorem wf_i64_ {x : Int} (h : (Lit.int .i64 x).wf = true) : -9223372036854775808 ≤ x ∧ x < 9223372036854775808 := by
  have h2 : -9223372036854775808 ≤ x ∧ x ≤ 9223372036854775807 := by simpa [Lit.wf, IntKind.min, IntKind.max, IntKind.signed, IntKind.bits] using h
  omega
theorem wf_u8_ {x : Int} (h : (Lit.int .u8 x).wf = true) : 0 ≤ x ∧ x < 256 := by
  have h2 : 0 ≤ x ∧ x ≤ 255 := by simpa [Lit.wf, IntKind.min, IntKind.max, IntKind.signed, IntKind.bits] using h
  omega

theorem pow_step (i : Nat) : (128 : Int) ^ (i + 1) = 128 ^ i * 128 := Int.pow_succ ..
theorem p128_pos (i : Nat) : 0 < (128 : Int) ^ i := Int.pow_pos (by decide)

theorem putL_ne (k : Nat) (n : Int) : putL k n ≠ [] := by
  cases k with
  | zero => simp [putL]
  | succ k => unfold putL; split <;> simp

theorem div_mul_le (n p : Int) (h : 0 < p) : n / 128 * (p * 128) ≤ n * p ∧ n % 128 * p + n / 128 * (p * 128) = n * p := by
  have h1 : n = n % 128 + n / 128 * 128 := by omega
  have h2 : n * p = n % 128 * p + n / 128 * (p * 128) := by
    conv => lhs; rw [h1]
    rw [Int.add_mul, Int.mul_assoc, Int.mul_comm 128 p]
  have h3 : 0 ≤ n % 128 * p := Int.mul_nonneg (by omega) (by omega)
  omega

/-- What is put is read. -/
theorem num_put (rest : List Int) : ∀ (k i : Nat) (n m : Int), i + k = 9 → 0 ≤ n → (0 < i → 0 < n) → n * 128 ^ i < 18446744073709551616 → numGo (putL k n ++ rest) i m = .inr (m + n * 128 ^ i, rest)
  | 0, i, n, m, hi, h0, h1, hb => by
    obtain rfl : i = 9 := by omega
    have e : (128 : Int) ^ 9 = 9223372036854775808 := by decide
    rw [e] at hb ⊢
    simp only [putL, List.cons_append, List.nil_append, numGo]
    rw [if_neg (by omega), if_pos (by omega), e]
  | k + 1, i, n, m, hi, h0, h1, hb => by
    unfold putL
    split
    · rename_i hl
      simp only [List.cons_append, List.nil_append, numGo]
      rw [if_neg (by omega), if_pos hl]
    · rename_i hl
      simp only [List.cons_append, numGo]
      rw [if_neg (by omega), if_neg (by omega)]
      have hp := p128_pos i
      have ed := div_mul_le n _ hp
      have es := pow_step i
      have := num_put rest k (i + 1) (n / 128) (m + (n % 128 + 128 - 128) * 128 ^ i) (by omega) (by omega) (by omega) (by rw [es]; omega)
      rw [this, es]
      congr 2
      rw [show n % 128 + 128 - 128 = n % 128 by omega]
      omega
theorem num_put0 {n : Int} (h : 0 ≤ n ∧ n < 18446744073709551616) (rest : List Int) : numGo (putL 9 n ++ rest) 0 0 = .inr (n, rest) := by
  have := num_put rest 9 0 n 0 rfl h.1 (by omega) (by simpa using h.2)
  simpa using this

/-- A beginning is too short. -/
theorem num_cut : ∀ (k i : Nat) (n m : Int) (j : Nat), i + k = 9 → 0 ≤ n → j < (putL k n).length → numGo ((putL k n).take j) i m = .inl 3
  | 0, i, n, m, j, hi, h0, hj => by
    simp only [putL, List.length_cons, List.length_nil] at hj
    obtain rfl : j = 0 := by omega
    simp [numGo]
  | k + 1, i, n, m, j, hi, h0, hj => by
    unfold putL at hj ⊢
    split at hj
    · rename_i hl
      simp only [List.length_cons, List.length_nil] at hj
      obtain rfl : j = 0 := by omega
      simp [numGo]
    · rename_i hl
      rw [if_neg hl]
      cases j with
      | zero => simp [numGo]
      | succ j =>
        simp only [List.take_succ_cons, numGo]
        rw [if_neg (by omega), if_neg (by omega)]
        exact num_cut k (i + 1) (n / 128) _ j (by omega) (by omega) (by simp only [List.length_cons] at hj; omega)

/-- What is read is what is put. -/
theorem put_num : ∀ (l : List Int) (k i : Nat) (m y : Int) (t : List Int), i + k = 9 → (∀ x ∈ l, 0 ≤ x ∧ x < 256) → numGo l i m = .inr (y, t) → ∃ n, 0 ≤ n ∧ (0 < i → 0 < n) ∧ y = m + n * 128 ^ i ∧ l = putL k n ++ t
  | [], _, _, _, _, _, _, _, h => by cases h
  | c :: l, k, i, m, y, t, hi, hb, h => by
    have hc := hb c (List.mem_cons_self ..)
    simp only [numGo] at h
    split at h
    · cases h
    · rename_i hbad
      split at h
      · rename_i hl
        injection h with h
        injection h with h1 h2
        subst h2
        refine ⟨c, by omega, by omega, h1.symm, ?_⟩
        cases k with
        | zero => rfl
        | succ k => simp only [putL]; rw [if_pos hl]; rfl
      · rename_i hl
        cases k with
        | zero => omega
        | succ k =>
          obtain ⟨n, n0, n1, hy, ht⟩ := put_num l k (i + 1) _ y t (by omega) (fun x hx => hb x (List.mem_cons_of_mem _ hx)) h
          have h1 := n1 (by omega)
          refine ⟨n * 128 + (c - 128), by omega, by omega, ?_, ?_⟩
          · rw [hy, pow_step]
            generalize (128 : Int) ^ i = p
            rw [Int.add_mul, Int.mul_assoc, Int.mul_comm 128 p]
            omega
          · simp only [putL]
            rw [if_neg (by omega), ht]
            rw [show (n * 128 + (c - 128)) % 128 + 128 = c by omega, show (n * 128 + (c - 128)) / 128 = n by omega]
            rfl
theorem put_num0 {l t : List Int} {y : Int} (hb : ∀ x ∈ l, 0 ≤ x ∧ x < 256) (h : numGo l 0 0 = .inr (y, t)) : l = putL 9 y ++ t := by
  obtain ⟨n, _, _, hy, ht⟩ := put_num l 9 0 0 y t rfl hb h
  simp at hy
  rw [hy]; exact ht

theorem putL9_len {n : Int} : (putL 9 n).length ≤ 10 := putL_len 9 n
theorem putL9_range {n : Int} (h : 0 ≤ n ∧ n < 18446744073709551616) : ∀ x ∈ putL 9 n, 0 ≤ x ∧ x < 256 := by
  have e : (128 : Int) ^ (9 + 1) = 1180591620717411303424 := by decide
  exact putL_range 9 n h.1 (by omega)
theorem zig_range {n : Int} (h : -9223372036854775808 ≤ n ∧ n < 9223372036854775808) : 0 ≤ zig n ∧ zig n < 18446744073709551616 := by unfold zig; split <;> omega
theorem zag_range {n : Int} (h : 0 ≤ n ∧ n < 18446744073709551616) : -9223372036854775808 ≤ zag n ∧ zag n < 9223372036854775808 := by unfold zag; split <;> omega
theorem zag_zig (n : Int) : zag (zig n) = n := by unfold zag zig; split <;> split <;> omega
theorem zig_zag {n : Int} (h : 0 ≤ n) : zig (zag n) = n := by unfold zag zig; split <;> split <;> omega

/-- The bytes of numbers, one behind the other. -/
def intsL : List Int → List Int
  | [] => []
  | n :: l => putL 9 (zig n) ++ intsL l
def I64s (l : List Int) : Prop := ∀ x ∈ l, -9223372036854775808 ≤ x ∧ x < 9223372036854775808
theorem intsL_len : ∀ l : List Int, (intsL l).length ≤ 10 * l.length
  | [] => by simp [intsL]
  | n :: l => by
    have := intsL_len l
    have := putL9_len (n := zig n)
    simp only [intsL, List.length_append, List.length_cons]
    omega
theorem intsL_range : ∀ l : List Int, I64s l → ∀ x ∈ intsL l, 0 ≤ x ∧ x < 256
  | [], _, x, hx => by cases hx
  | n :: l, h, x, hx => by
    rcases List.mem_append.mp hx with hx | hx
    · exact putL9_range (zig_range (h n (List.mem_cons_self ..))) x hx
    · exact intsL_range l (fun y hy => h y (List.mem_cons_of_mem _ hy)) x hx
theorem intsL_append : ∀ a b : List Int, intsL (a ++ b) = intsL a ++ intsL b
  | [], b => rfl
  | n :: a, b => by simp [intsL, intsL_append a b]
theorem ints_back (rest : List Int) : ∀ (l out : List Int), I64s l → toIntsGo l.length out (intsL l ++ rest) = .inr (out ++ l, rest)
  | [], out, _ => by simp [toIntsGo, intsL]
  | n :: l, out, h => by
    simp only [List.length_cons, toIntsGo, intsL, List.append_assoc]
    rw [num_put0 (zig_range (h n (List.mem_cons_self ..)))]
    simp only [zag_zig]
    rw [ints_back rest l _ (fun y hy => h y (List.mem_cons_of_mem _ hy))]
    simp
theorem ints_more : ∀ (l out : List Int), I64s l → toIntsGo (l.length + 1) out (intsL l) = .inl 3
  | [], out, _ => by simp [toIntsGo, intsL, numGo]
  | n :: l, out, h => by
    simp only [List.length_cons, intsL]
    rw [toIntsGo, num_put0 (zig_range (h n (List.mem_cons_self ..)))]
    exact ints_more l _ (fun y hy => h y (List.mem_cons_of_mem _ hy))

theorem lebPut_eq {n : Int} (h : 0 ≤ n ∧ n < 18446744073709551616) : lebPut n = some (putL 9 n) := if_pos h
theorem lebZig_eq {n : Int} (h : -9223372036854775808 ≤ n ∧ n < 9223372036854775808) : lebZig n = some (zig n) := if_pos h
theorem lebZag_eq {n : Int} (h : 0 ≤ n ∧ n < 18446744073709551616) : lebZag n = some (zag n) := if_pos h
theorem lebToInts_eq {l : List Int} {n : Int} (hb : ∀ x ∈ l, 0 ≤ x ∧ x < 256) (hl : l.length ≤ 17592186044000) (hn : 0 ≤ n ∧ n < 9223372036854775808) :
    lebToInts l n = some (match toIntsGo n.toNat [] l with | .inl e => ([], [], e) | .inr (out, t) => (out, t, 0)) := by
  unfold lebToInts
  rw [if_pos ⟨hb, hl, by omega, by omega⟩]
  unfold toIntsOut
  rw [if_neg (by omega)]
  rfl
theorem strOfNums_size (l : List Int) : (strOfNums l).size = l.length := by simp [strOfNums, ByteArray.size]

/-- More digits for a greater number. -/
theorem putL_mono : ∀ (k : Nat) (a b : Int), 0 ≤ a → a ≤ b → (putL k a).length ≤ (putL k b).length
  | 0, a, b, _, _ => by simp [putL]
  | k + 1, a, b, h0, h1 => by
    have := putL_mono k (a / 128) (b / 128) (by omega) (by omega)
    unfold putL
    split
    · split <;> simp
    · rw [if_neg (by omega)]
      simp only [List.length_cons]
      omega
end Go.Proofs.Ytkjlimmdgnahgaa.Hand
