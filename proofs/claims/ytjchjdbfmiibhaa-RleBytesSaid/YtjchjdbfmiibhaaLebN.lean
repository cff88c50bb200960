/-
  Plain lemmas on numbers' bytes: what is put is read, and what is read is what is put.
-/
import Derived.Test.YtjchjdbfmiibhaaHPut
namespace Go.Proofs.Ytjchjdbfmiibhaa.Hand
open Go.RowKit Go.Proofs.YtjchjdbfmiibhaaW.PrintWords

theorem wf_i64_ {x : Int} (h : (Lit.int .i64 x).wf = true) : -9223372036854775808 ≤ x ∧ x < 9223372036854775808 := by
  have h2 : -9223372036854775808 ≤ x ∧ x ≤ 9223372036854775807 := by simpa [Lit.wf, IntKind.min, IntKind.max, IntKind.signed, IntKind.bits] using h
  omega
theorem wf_u8_ {x : Int} (h : (Lit.int .u8 x).wf = true) : 0 ≤ x ∧ x < 256 := by
  have h2 : 0 ≤ x ∧ x ≤ 255 := by simpa [Lit.wf, IntKind.min, IntKind.max, IntKind.signed, IntKind.bits] using h
  omega

theorem pow_step (i : Nat) : (128 : Int) ^ (i + 1) = 128 ^ i * 128 := Int.pow_succ ..
theorem p128_pos (i : Nat) : 0 < (128 : Int) ^ i := Int.pow_pos (by decide)

/-- What is read is what is put. -/
theorem put_num : ∀ (l : List Int) (k i : Nat) (m y : Int) (t : List Int), i + k = 9 → (∀ x ∈ l, 0 ≤ x ∧ x < 256) → numGo l i m = .inr (y, t) → ∃ n, 0 ≤ n ∧ (0 < i → 0 < n) ∧ y = m + n * 128 ^ i ∧ l = putL k n ++ t
  | [], _, _, _, _, _, _, _, h => by cases h
  | c :: l, k, i, m, y, t, hi, hb, h => by
    have hc := hb c (List.mem_cons_self ..)
    simp only [numGo] at h
    split at h
    · cases h
    · rename_i hbad
      split at h
      · rename_i hl
        injection h with h
        injection h with h1 h2
        subst h2
        refine ⟨c, by omega, by omega, h1.symm, ?_⟩
        cases k with
        | zero => rfl
        | succ k => simp only [putL]; rw [if_pos hl]; rfl
      · rename_i hl
        cases k with
        | zero => omega
        | succ k =>
          obtain ⟨n, n0, n1, hy, ht⟩ := put_num l k (i + 1) _ y t (by omega) (fun x hx => hb x (List.mem_cons_of_mem _ hx)) h
          have h1 := n1 (by omega)
          refine ⟨n * 128 + (c - 128), by omega, by omega, ?_, ?_⟩
          · rw [hy, pow_step]
            generalize (128 : Int) ^ i = p
            rw [Int.add_mul, Int.mul_assoc, Int.mul_comm 128 p]
            omega
          · simp only [putL]
            rw [if_neg (by omega), ht]
            rw [show (n * 128 + (c - 128)) % 128 + 128 = c by omega, show (n * 128 + (c - 128)) / 128 = n by omega]
            rfl
theorem put_num0 {l t : List Int} {y : Int} (hb : ∀ x ∈ l, 0 ≤ x ∧ x < 256) (h : numGo l 0 0 = .inr (y, t)) : l = putL 9 y ++ t := by
  obtain ⟨n, _, _, hy, ht⟩ := put_num l 9 0 0 y t rfl hb h
  simp at hy
  rw [hy]; exact ht

theorem putL9_len {n : Int} : (putL 9 n).length ≤ 10 := putL_len 9 n
theorem zig_range {n : Int} (h : -9223372036854775808 ≤ n ∧ n < 9223372036854775808) : 0 ≤ zig n ∧ zig n < 18446744073709551616 := by unfold zig; split <;> omega
theorem zag_range {n : Int} (h : 0 ≤ n ∧ n < 18446744073709551616) : -9223372036854775808 ≤ zag n ∧ zag n < 9223372036854775808 := by unfold zag; split <;> omega
theorem zig_zag {n : Int} (h : 0 ≤ n) : zig (zag n) = n := by unfold zag zig; split <;> split <;> omega

theorem lebPut_eq {n : Int} (h : 0 ≤ n ∧ n < 18446744073709551616) : lebPut n = some (putL 9 n) := if_pos h
theorem lebZig_eq {n : Int} (h : -9223372036854775808 ≤ n ∧ n < 9223372036854775808) : lebZig n = some (zig n) := if_pos h
theorem lebZag_eq {n : Int} (h : 0 ≤ n ∧ n < 18446744073709551616) : lebZag n = some (zag n) := if_pos h
theorem strOfNums_size (l : List Int) : (strOfNums l).size = l.length := by simp [strOfNums, ByteArray.size]

end Go.Proofs.Ytjchjdbfmiibhaa.Hand
