/-
  By hand: the contract of (*row).number: a number is read, or one of the errors is raised.
-/
import Derived.Test.YtjchjdbfmiibhaaHLeb
import Derived.Laws.Bits64b
import Derived.Laws.BitsAllLaws
namespace Go.Proofs.Ytjchjdbfmiibhaa.Hand
open Go.RowKit Go.Proofs.YtjchjdbfmiibhaaW.PrintWords

/-- What is read from the i-th byte of a number on, n being what its bytes so far make: an error, or the number and what stands behind it. -/
def numGo : List Int → Nat → Int → Int ⊕ (Int × List Int)
  | [], _, _ => .inl 3
  | c :: t, i, n => if (i = 9 ∧ 1 < c) ∨ (0 < i ∧ c = 0) then .inl 4 else
      if c < 128 then .inr (n + c * 128 ^ i, t) else numGo t (i + 1) (n + (c - 128) * 128 ^ i)

theorem numGo_cons (c : Int) (t : List Int) (i : Nat) (n : Int) : numGo (c :: t) i n = if (i = 9 ∧ 1 < c) ∨ (0 < i ∧ c = 0) then .inl 4 else
      if c < 128 then .inr (n + c * 128 ^ i, t) else numGo t (i + 1) (n + (c - 128) * 128 ^ i) := rfl
theorem part_u8 (c : Int) (h0 : 0 ≤ c) (h1 : c < 256) : bits .andNot .u8 c 128 = c % 128 := by
  have h := u8_andNot c 128 h0 h1 (by decide) (by decide)
  have e : (255 - (128 : Int).toNat) = 2 ^ 7 - 1 := by decide
  rw [h, e, Nat.and_two_pow_sub_one_eq_mod]
  omega
theorem pow7 (k : Nat) : (2 : Int) ^ (7 * k) = 128 ^ k := by rw [Int.pow_mul]; rfl
theorem pow_le9 (k : Nat) (h : k ≤ 9) : (128 : Int) ^ k ≤ 9223372036854775808 ∧ 0 < (128 : Int) ^ k ∧ (k ≤ 8 → (128 : Int) ^ k ≤ 72057594037927936) := by
  have : k = 0 ∨ k = 1 ∨ k = 2 ∨ k = 3 ∨ k = 4 ∨ k = 5 ∨ k = 6 ∨ k = 7 ∨ k = 8 ∨ k = 9 := by omega
  rcases this with rfl | rfl | rfl | rfl | rfl | rfl | rfl | rfl | rfl | rfl <;> decide
theorem part_bound (k : Nat) (p : Int) (hk : k ≤ 9) (hp0 : 0 ≤ p) (hp1 : p ≤ 127) (hp9 : k = 9 → p ≤ 1) : p * 128 ^ k ≤ 127 * 72057594037927936 + 9223372036854775808 ∧ 0 ≤ p * 128 ^ k ∧ p * 128 ^ k + 128 ^ k ≤ 18446744073709551616 := by
  obtain ⟨h1, h2, h3⟩ := pow_le9 k hk
  by_cases e : k = 9
  · have hp := hp9 e
    have : p = 0 ∨ p = 1 := by omega
    rcases this with rfl | rfl <;> refine ⟨?_, ?_, ?_⟩ <;> omega
  · have h4 := h3 (by omega)
    have h5 : p * 128 ^ k ≤ 127 * 128 ^ k := Int.mul_le_mul_of_nonneg_right hp1 (by omega)
    have h6 : 0 ≤ p * 128 ^ k := Int.mul_nonneg hp0 (by omega)
    refine ⟨?_, h6, ?_⟩ <;> omega
/-- The next byte's part is laid above what the bytes so far make. -/
theorem acc_step (k : Nat) (n c : Int) (hk : k ≤ 9) (hn0 : 0 ≤ n) (hn : n < 128 ^ k) (hc0 : 0 ≤ c) (hc1 : c < 256) (h9 : k = 9 → c % 128 ≤ 1) :
    bits .or .u64 n (IntKind.u64.wrap (IntKind.u64.wrap (bits .andNot .u8 c 128) * 2 ^ (7 * k))) = n + c % 128 * 128 ^ k := by
  rw [part_u8 c hc0 hc1, IntKind.wrap_u64, IntKind.wrap_u64, pow7, Int.emod_eq_of_lt (a := c % 128) (b := 18446744073709551616) (by omega) (by omega)]
  obtain ⟨b1, b2, b3⟩ := part_bound k (c % 128) hk (by omega) (by omega) h9
  obtain ⟨p1, p2, p3⟩ := pow_le9 k hk
  rw [Int.emod_eq_of_lt b2 (by omega)]
  obtain ⟨N, rfl⟩ := Int.eq_ofNat_of_zero_le hn0
  obtain ⟨P, hP⟩ := Int.eq_ofNat_of_zero_le (show 0 ≤ c % 128 by omega)
  rw [hP] at b1 b2 b3 ⊢
  have e1 : (P : Int) * 128 ^ k = ((2 ^ (7 * k) * P : Nat) : Int) := by rw [Nat.pow_mul]; simp [Int.mul_comm]
  have e2 : ((128 : Int) ^ k) = ((2 ^ (7 * k) : Nat) : Int) := by rw [Nat.pow_mul]; simp
  rw [e1] at b1 b2 b3 ⊢
  rw [e2] at hn b3 p1 p2
  have h := bits_or_u64_nat N (2 ^ (7 * k) * P) (by omega) (by omega)
  rw [h, Nat.or_comm, ← Nat.two_pow_add_eq_or_of_lt (by omega) P]
  omega

def NumPost (w0 w : World) (g : Nat) (o : Int ⊕ (Int × List Int)) (e : Ending) (w' : World) : Prop :=
  KeepBut w w' g none ∧ match o with
  | .inl n => e = raise n ∧ ∃ ys, RowSt w0 w' g ys
  | .inr (n, t) => e = .returned (.int .u64 n) ∧ RowSt w0 w' g t
theorem keep_refl (w : World) (g : Nat) : KeepBut w w g none := ⟨Nat.le_refl _, fun _ _ _ _ => rfl⟩
theorem keep_trans {w w1 w2 : World} {g : Nat} (h : KeepBut w w1 g none) (h2 : KeepBut w1 w2 g none) : KeepBut w w2 g none :=
  ⟨Nat.le_trans h.1 h2.1, fun i hi hg hr => (h2.2 i (Nat.lt_of_lt_of_le hi h.1) hg hr).trans (h.2 i hi hg hr)⟩

set_option maxHeartbeats 1600000 in
theorem number_calls (w0 w : World) (g : Nat) (xs : List Int) (hb : ∀ x ∈ xs, 0 ≤ x ∧ x < 256) (hs : RowSt w0 w g xs) :
    Calls Try.prog 75 #[.pointer (some ⟨g, 0, none⟩)] w (NumPost w0 w g (numGo xs 0 0)) := by
  go_enter Try.func75, Try.ntmps75
  go_wp2
  go_loopw [3, 4] (fun x i wr => ∃ (k : Nat) (n : Int) (ys : List Int), i = .int .i64 k ∧ x = .int .u64 n ∧ k ≤ 9 ∧ 0 ≤ n ∧ Aside0 (n < 128 ^ k) ∧ Aside0 (numGo xs 0 0 = numGo ys k n) ∧ Aside0 (∀ x ∈ ys, 0 ≤ x ∧ x < 256) ∧ Aside0 (RowSt w0 wr g ys) ∧ Aside0 (KeepBut w wr g none))
    (fun _ i _ => 10 - (intOf i).toNat)
  case atStart => exact ⟨0, 0, xs, rfl, rfl, by omega, by omega, ⟨by decide⟩, ⟨rfl⟩, ⟨hb⟩, ⟨hs⟩, ⟨keep_refl _ _⟩⟩
  case round =>
    clear hb hs
    obtain ⟨k, n, ys, rfl, rfl, hk, hn0, HN, HG, HY, HS, HK⟩ := hrel
    have h10 : ((k : Int) == 10) = false := by simp; omega
    cases ys with
    | nil =>
      obtain ⟨A, cp, hc, _, _⟩ := HS.out.cell
      simp only [List.length_nil] at hc
      go_wp2_with (go_at_call 80; refine (next_short g cp A _ hc).mono ?_; rintro e w' ⟨rfl, rfl⟩)
      refine ⟨rfl, HK.out, ?_⟩
      rw [HG.out]
      exact ⟨rfl, _, HS.out⟩
    | cons c t =>
      have hc0 := (HY.out c (List.mem_cons_self ..)).1
      have hc1 := (HY.out c (List.mem_cons_self ..)).2
      have HT := Aside0.mk (fun x hx => HY.out x (List.mem_cons_of_mem _ hx))
      have ends : ∀ (o : Int ⊕ (Int × List Int)) (e : Ending) (w' : World), numGo xs 0 0 = o → KeepBut wr w' g none → (match o with
        | .inl n => e = raise n ∧ ∃ ys, RowSt w0 w' g ys
        | .inr (n, t) => e = .returned (.int .u64 n) ∧ RowSt w0 w' g t) → NumPost w0 w g (numGo xs 0 0) e w' := by
        intro o e w' h1 h2 h3
        refine ⟨keep_trans HK.out h2, ?_⟩
        rw [h1]
        exact h3
      have ENDS := Lib.hid ends
      clear ends
      have hG := HG.out.trans (numGo_cons c t k n)
      by_cases hbad : (k = 9 ∧ 1 < c) ∨ (0 < k ∧ c = 0)
      · rw [if_pos hbad] at hG
        have HG2 := Aside0.mk hG
        clear hG HG
        rcases hbad with ⟨h9, hc⟩ | ⟨h9, hc⟩
        · subst h9
          go_wp2_with (go_at_call 80; refine (next_some w0 _ g c t HS.out).mono ?_; rintro e w' ⟨rfl, hs1, hk1⟩)
          exact ⟨rfl, ENDS.out (.inl 4) _ _ HG2.out hk1 ⟨rfl, _, hs1⟩⟩
        · subst hc
          by_cases h9' : k = 9
          · subst h9'
            go_wp2_with (go_at_call 80; refine (next_some w0 _ g 0 t HS.out).mono ?_; rintro e w' ⟨rfl, hs1, hk1⟩)
            exact ⟨rfl, ENDS.out (.inl 4) _ _ HG2.out hk1 ⟨rfl, _, hs1⟩⟩
          · have h9b : ((k : Int) == 9) = false := by simp; omega
            go_wp2_with (go_at_call 80; refine (next_some w0 _ g 0 t HS.out).mono ?_; rintro e w' ⟨rfl, hs1, hk1⟩)
            exact ⟨rfl, ENDS.out (.inl 4) _ _ HG2.out hk1 ⟨rfl, _, hs1⟩⟩
      · rw [if_neg hbad] at hG
        have hacc := acc_step k n c hk hn0 HN.out hc0 hc1 (by omega)
        have hP := part_bound k (c % 128) hk (by omega) (by omega) (by omega)
        by_cases hlt : c < 128
        · rw [if_pos hlt] at hG
          have HG2 := Aside0.mk hG
          clear hG HG
          rw [Int.emod_eq_of_lt hc0 hlt] at hacc
          generalize hm : n + c * 128 ^ k = m at *
          by_cases hk0 : k = 0
          · have h9b : ((k : Int) == 9) = false := by simp; omega
            have hk0' : k ≤ 0 := by omega
            clear hk0
            go_wp2_with (go_at_call 80; refine (next_some w0 _ g c t HS.out).mono ?_; rintro e w' ⟨rfl, hs1, hk1⟩)
            go_ret
            exact ENDS.out (.inr (m, t)) _ _ HG2.out hk1 ⟨rfl, hs1⟩
          · have hz : (c == 0) = false := by simp; omega
            by_cases h9 : k = 9
            · have h9b : ((k : Int) == 9) = true := by simp; omega
              have hk0' : 0 < k := by omega
              have hc9 : c ≤ 1 := by omega
              clear h9
              go_wp2_with (go_at_call 80; refine (next_some w0 _ g c t HS.out).mono ?_; rintro e w' ⟨rfl, hs1, hk1⟩)
              go_ret
              exact ENDS.out (.inr (m, t)) _ _ HG2.out hk1 ⟨rfl, hs1⟩
            · have h9b : ((k : Int) == 9) = false := by simp; omega
              have hk0' : 0 < k := by omega
              go_wp2_with (go_at_call 80; refine (next_some w0 _ g c t HS.out).mono ?_; rintro e w' ⟨rfl, hs1, hk1⟩)
              go_ret
              exact ENDS.out (.inr (m, t)) _ _ HG2.out hk1 ⟨rfl, hs1⟩
        · rw [if_neg hlt] at hG
          have hk9 : k < 9 := by omega
          have hcm : c % 128 = c - 128 := by omega
          rw [hcm] at hacc hP
          have HG2 := Aside0.mk hG
          have HM : Aside0 (0 ≤ n + (c - 128) * 128 ^ k ∧ n + (c - 128) * 128 ^ k < 128 ^ (k + 1)) := by
            have h1 := HN.out
            obtain ⟨q1, q2, q3⟩ := pow_le9 k hk
            have h2 : (c - 128) * 128 ^ k ≤ 127 * 128 ^ k := Int.mul_le_mul_of_nonneg_right (by omega) (by omega)
            have h3 : (128 : Int) ^ (k + 1) = 128 ^ k * 128 := Int.pow_succ ..
            exact ⟨by omega, by omega⟩
          clear hG HG hcm hP
          have h9b : ((k : Int) == 9) = false := by simp; omega
          have hz : (c == 0) = false := by simp; omega
          generalize n + (c - 128) * 128 ^ k = m at *
          by_cases hk0 : k = 0
          · have hk0' : k ≤ 0 := by omega
            clear hk0
            go_wp2_with (go_at_call 80; refine (next_some w0 _ g c t HS.out).mono ?_; rintro e w' ⟨rfl, hs1, hk1⟩)
            go_roundw
            case rel => exact ⟨k + 1, m, t, by go_num, rfl, by omega, HM.out.1, ⟨HM.out.2⟩, HG2, HT, ⟨hs1⟩, ⟨keep_trans HK.out hk1⟩⟩
            case measure => simp [intOf]; omega
          · have hk0' : 0 < k := by omega
            go_wp2_with (go_at_call 80; refine (next_some w0 _ g c t HS.out).mono ?_; rintro e w' ⟨rfl, hs1, hk1⟩)
            go_roundw
            case rel => exact ⟨k + 1, m, t, by go_num, rfl, by omega, HM.out.1, ⟨HM.out.2⟩, HG2, HT, ⟨hs1⟩, ⟨keep_trans HK.out hk1⟩⟩
            case measure => simp [intOf]; omega
end Go.Proofs.Ytjchjdbfmiibhaa.Hand
