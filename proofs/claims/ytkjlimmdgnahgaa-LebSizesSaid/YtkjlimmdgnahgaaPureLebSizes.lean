/-
  A number has a byte for each seven of its bits, one at least: for every input. (LebSizes)
-/
import Derived.Test.YtkjlimmdgnahgaaPLebx3
import Derived.Test.YtkjlimmdgnahgaaLebA
namespace Go.Proofs.Ytkjlimmdgnahgaa.Pure
open Go.RowKit Go.Proofs.Ytkjlimmdgnahgaa.PLeb Go.Proofs.YtkjlimmdgnahgaaW.PrintWords Go.Proofs.YtkjlimmdgnahgaaW.PrintLast Go.Proofs.Ytkjlimmdgnahgaa.Hand

theorem text_f {s : ByteArray} (h : s.size ≤ 140737488351232) : leb_Text.f s = some (putL 9 (s.size : Int) ++ bytesOf s) := by
  unfold leb_Text.f leb_Put.f
  have h2 : (0 : Int) ≤ s.size ∧ (s.size : Int) < 18446744073709551616 := by omega
  rw [IntKind.wrap_u64, show ((s.size : Int)) % 18446744073709551616 = s.size by omega, lebPut_eq h2]
  simp only [Option.bind_some]
  have := putL9_len (n := (s.size : Int))
  rw [if_pos (by omega)]

theorem sizes_l (a : Int) (ha : 0 ≤ a ∧ a < 18446744073709551616) (L : Nat) (hL : (putL 9 a).length = L) (hL10 : L ≤ 10) : ∀ (m k : Nat) (n x : Int), m < k → m ≤ 10 → 0 ≤ n → n < 128 ^ (m + 1) → n < 18446744073709551616 → 0 ≤ x → x + (putL m n).length - 1 = L →
    law02_LebSizes.l0 k a true x (IntKind.u64.wrap (Int.tdiv n 128)) = some true := by
  intro m
  induction m with
  | zero =>
    intro k n x hk _ h0 h1 _ hx0 hl
    obtain ⟨k, rfl⟩ : ∃ j, k = j + 1 := ⟨k - 1, by omega⟩
    have e : (128 : Int) ^ (0 + 1) = 128 := by decide
    rw [e] at h1
    rw [Int.tdiv_eq_ediv_of_nonneg h0, IntKind.wrap_u64, show n / 128 % 18446744073709551616 = 0 by omega]
    unfold law02_LebSizes.l0
    rw [if_neg (by omega), if_pos rfl]
    unfold leb_Put.f
    rw [lebPut_eq ha]
    simp only [Option.bind_some]
    rw [show (putL 0 n).length = 1 from rfl] at hl
    rw [if_pos (by rw [hL]; omega)]
    have er : wrap64 (Int.tmod a 300) = a % 300 := by rw [Int.tmod_eq_emod_of_nonneg ha.1]; unfold wrap64; omega
    have er2 : Int.tmod a 300 = a % 300 := Int.tmod_eq_emod_of_nonneg ha.1
    rw [er, er2, if_pos (by omega), if_pos (by omega)]
    have hs := strOfNums_size (List.replicate (a % 300).toNat 0)
    rw [List.length_replicate] at hs
    have hs2 : ((strOfNums (List.replicate (a % 300).toNat 0)).size : Int) = a % 300 := by omega
    rw [text_f (by omega), lebPut_eq (by omega)]
    simp only [Option.bind_some, List.length_append, bytesOf_length, hs2]
    have := putL9_len (n := a % 300)
    congr 1
    rw [beq_iff_eq]
    unfold wrap64
    omega
  | succ m ih =>
    intro k n x hk hm h0 h1 h2 hx0 hl
    obtain ⟨k, rfl⟩ : ∃ j, k = j + 1 := ⟨k - 1, by omega⟩
    by_cases hn : n < 128
    · have e : putL m n = [n] := by cases m with
        | zero => rfl
        | succ m => simp only [putL]; rw [if_pos hn]
      refine ih (k + 1) n x (by omega) (by omega) h0 ?_ h2 hx0 ?_
      · have := pow_step m
        have := p128_pos m
        omega
      · rw [e]
        simp only [putL] at hl
        rw [if_pos hn] at hl
        exact hl
    · rw [Int.tdiv_eq_ediv_of_nonneg h0, IntKind.wrap_u64, show n / 128 % 18446744073709551616 = n / 128 by omega]
      unfold law02_LebSizes.l0
      rw [if_pos (by omega)]
      simp only [putL] at hl
      rw [if_neg hn] at hl
      simp only [List.length_cons] at hl
      have := pow_step (m + 1)
      have := List.length_pos_iff.mpr (putL_ne m (n / 128))
      have ew : wrap64 (x + 1) = x + 1 := by unfold wrap64; omega
      rw [ew]
      exact ih k (n / 128) _ (by omega) (by omega) (by omega) (by omega) (by omega) (by omega) (by omega)

theorem LebSizes : law02_LebSizes.Pure := by
  intro a ha
  have ha := wf_u64_ ha
  refine ⟨12, ?_⟩
  unfold law02_LebSizes.f law02_shown.f
  simp only [Option.bind_some]
  have e : (128 : Int) ^ (9 + 1) = 1180591620717411303424 := by decide
  exact sizes_l a ha _ rfl putL9_len 9 12 a 1 (by omega) (by omega) ha.1 (by omega) ha.2 (by omega) (by omega)
end Go.Proofs.Ytkjlimmdgnahgaa.Pure
