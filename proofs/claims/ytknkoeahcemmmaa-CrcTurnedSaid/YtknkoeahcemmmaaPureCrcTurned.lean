/-
  A block with bits turned within 32 of its bytes' and its sum's bits one behind the other, at least one of them, is corrupt: for every bytes, place and mask. (CrcTurned)
-/
import Derived.Test.YtknkoeahcemmmaaPCrcx2
import Derived.Test.YtknkoeahcemmmaaLebP
namespace Go.Proofs.Ytknkoeahcemmmaa.Pure
open Go.RowKit Go.Proofs.Ytknkoeahcemmmaa.PCrc Go.Proofs.YtknkoeahcemmmaaW.PrintWords Go.Proofs.YtknkoeahcemmmaaW.PrintLast Go.Proofs.Ytknkoeahcemmmaa.Hand

theorem w64 {n : Int} (h0 : 0 ≤ n) (h1 : n < 9223372036854775808) : wrap64 n = n := by unfold wrap64; omega
theorem w_next (i : Nat) (h : i < 100) : wrap64 ((i : Int) + 1) = ((i + 1 : Nat) : Int) := by rw [w64 (by omega) (by omega)]; omega
theorem w_add (a : Int) (i : Nat) (h0 : 0 ≤ a) (h1 : a < 65536) (hi : i < 100) : wrap64 (wrap64 a + (i : Int)) = a + i := by rw [w64 (n := a) (by omega) (by omega), w64 (by omega) (by omega)]
theorem head_len (p n : Nat) (hp : p ≤ 10) (_hn : n ≤ 140737488351232) : wrap64 (wrap64 (((p + (n + 4) : Nat) : Int) - (n : Int)) - 4) = (p : Int) := by
  rw [w64 (n := ((p + (n + 4) : Nat) : Int) - (n : Int)) (by omega) (by omega), w64 (by omega) (by omega)]; omega
theorem at_index (H p : Nat) (hH : H ≤ 10) (hp : p < 70000) : wrap64 ((H : Int) + wrap64 (Int.tdiv (p : Int) 8)) = ((H + p / 8 : Nat) : Int) := by
  rw [Int.tdiv_eq_ediv_of_nonneg (by omega), w64 (n := (p : Int) / 8) (by omega) (by omega), w64 (by omega) (by omega)]; omega
theorem at_bit (p : Nat) : Int.tmod (p : Int) 8 = ((p % 8 : Nat) : Int) := by
  rw [Int.tmod_eq_emod_of_nonneg (by omega)]; omega
theorem two_pow_xor (k a b : Nat) : 2 ^ k * (a ^^^ b) = 2 ^ k * a ^^^ 2 ^ k * b := by
  apply Nat.eq_of_testBit_eq
  intro i
  simp only [Nat.testBit_xor, Nat.testBit_two_pow_mul]
  by_cases h : k ≤ i <;> simp [h]
theorem xor_pow {m i : Nat} (h : m < 2 ^ i) : m ^^^ 2 ^ i = m + 2 ^ i := by
  have e := Nat.two_pow_add_eq_or_of_lt h 1
  rw [Nat.mul_one] at e
  rw [Nat.add_comm, e, Nat.or_comm]
  apply Nat.eq_of_testBit_eq
  intro j
  rw [Nat.testBit_xor, Nat.testBit_or, Nat.testBit_two_pow]
  by_cases hj : i = j
  · subst hj
    rw [Nat.testBit_lt_two_pow h]; simp
  · simp [hj]
theorem xor_next {m i : Nat} (h : m < 2 ^ i) : m ^^^ 2 ^ i < 2 ^ (i + 1) := by rw [xor_pow h, Nat.pow_succ]; omega
theorem xor_some {m i : Nat} (h : m < 2 ^ i) : m ^^^ 2 ^ i ≠ 0 := by
  have : 0 < 2 ^ i := Nat.pow_pos (by omega)
  rw [xor_pow h]; omega
theorem xor_low {c b : Nat} (hc : c < 256) (hb : b < 8) : c ^^^ 2 ^ b < 256 := Nat.xor_lt_two_pow (n := 8) hc (by
  have : 2 ^ b < 2 ^ 8 := Nat.pow_lt_pow_right (by omega) hb
  exact this)
theorem shl_bit (b : Nat) (hb : b < 8) : shl .u8 1 ((b : Nat) : Int) = ((2 ^ b : Nat) : Int) := by
  have : b = 0 ∨ b = 1 ∨ b = 2 ∨ b = 3 ∨ b = 4 ∨ b = 5 ∨ b = 6 ∨ b = 7 := by omega
  rcases this with rfl | rfl | rfl | rfl | rfl | rfl | rfl | rfl <;> decide +kernel
theorem bytes_get {l : List Int} (hB : ∀ x ∈ l, 0 ≤ x ∧ x < 256) (j : Nat) (h : j < l.length) : 0 ≤ l[j] ∧ l[j] < 256 := hB _ (List.getElem_mem h)
theorem bytes_set {l : List Int} (hB : ∀ x ∈ l, 0 ≤ x ∧ x < 256) (j : Nat) (v : Int) (h : 0 ≤ v ∧ v < 256) : ∀ x ∈ l.set j v, 0 ≤ x ∧ x < 256 := fun x hx => by
  rcases List.mem_or_eq_of_mem_set hx with hx | rfl
  · exact hB x hx
  · exact h
/-- What a turned block is opened to. -/
theorem open_turned (l0 tail : List Int) (at_ m : Nat) (hB : ∀ x ∈ l0, 0 ≤ x ∧ x < 256) (hl : l0.length ≤ 140737488351232) (hT : ∀ x ∈ tail, 0 ≤ x ∧ x < 256) (hlen : tail.length = l0.length + 4)
    (hm : leN tail = leN (l0 ++ le4 (crcSum l0)) ^^^ 2 ^ at_ * m) (hm2 : m < 4294967296) (hm0 : m ≠ 0) (ha : at_ ≤ 8 * (l0.length + 4)) : crc_Open.f (putL 9 (l0.length : Int) ++ tail) (l0.length : Int) = some ([], [], 5) := by
  have hn : (0 : Int) ≤ (l0.length : Int) ∧ (l0.length : Int) < 18446744073709551616 := by omega
  have hpl := putL9_len (n := (l0.length : Int))
  unfold crc_Open.f crcOpen
  rw [if_pos ⟨fun x hx => (List.mem_append.1 hx).elim (putL9_range hn x) (hT x), by rw [List.length_append]; omega, by omega, by omega⟩]
  unfold crcOpenOut
  rw [num_put0 hn]
  simp only
  rw [if_neg (by omega), if_neg (by omega), Int.toNat_natCast]
  by_cases hs : le4 (crcSum (tail.take l0.length)) = (tail.drop l0.length).take 4
  · exfalso
    have h4 : (tail.drop l0.length).length = 4 := by rw [List.length_drop]; omega
    rw [show (tail.drop l0.length).take 4 = tail.drop l0.length from List.take_of_length_le (by omega)] at hs
    have e1 := (check_iff (tail.take l0.length) (tail.drop l0.length) (fun x hx => hT x (List.mem_of_mem_take hx)) (fun x hx => hT x (List.mem_of_mem_drop hx)) h4).1 hs
    rw [List.take_append_drop] at e1
    have e2 := (check_iff l0 (le4 (crcSum l0)) hB (le4_bytes _) rfl).1 rfl
    refine hm0 (burst_seen (l0 ++ le4 (crcSum l0)) tail at_ m ?_ hm hm2 ?_ e2 e1)
    · rw [hlen, List.length_append]; rfl
    · rw [List.length_append]; exact ha
  · rw [if_neg hs]
theorem open_whole (l0 : List Int) (hB : ∀ x ∈ l0, 0 ≤ x ∧ x < 256) (hl : l0.length ≤ 140737488351232) : crc_Open.f (putL 9 (l0.length : Int) ++ (l0 ++ le4 (crcSum l0))) (l0.length : Int) = some (l0, [], 0) := by
  have hn : (0 : Int) ≤ (l0.length : Int) ∧ (l0.length : Int) < 18446744073709551616 := by omega
  have hpl := putL9_len (n := (l0.length : Int))
  have h4 : (le4 (crcSum l0)).length = 4 := rfl
  unfold crc_Open.f crcOpen
  rw [if_pos ⟨fun x hx => (List.mem_append.1 hx).elim (putL9_range hn x) (fun h => (List.mem_append.1 h).elim (hB x) (le4_bytes _ x)), by simp only [List.length_append]; omega, by omega, by omega⟩]
  unfold crcOpenOut
  rw [num_put0 hn]
  simp only
  rw [if_neg (by omega), if_neg (by rw [List.length_append, h4]; omega), Int.toNat_natCast, List.take_left', List.drop_left']
  · rw [if_pos (by rw [List.take_of_length_le (by omega)]), List.drop_of_length_le (by omega)]
  · rfl
  · rfl
theorem turned_l (l0 : List Int) (a1 a2 : Int) (hB : ∀ x ∈ l0, 0 ≤ x ∧ x < 256) (hl : l0.length ≤ 140737488351232) (h0 : 0 ≤ a1) (h1 : a1 < 65536) (H : Nat) (hH : H = (putL 9 (l0.length : Int)).length) :
    ∀ (d i k : Nat) (tail : List Int) (m : Nat) (tq : Bool), i + d = 32 → d < k → (∀ x ∈ tail, 0 ≤ x ∧ x < 256) → tail.length = l0.length + 4 → leN tail = leN (l0 ++ le4 (crcSum l0)) ^^^ 2 ^ a1.toNat * m → m < 2 ^ i →
      (tq = true → m ≠ 0 ∧ a1.toNat ≤ 8 * (l0.length + 4)) → (tq = false → tail = l0 ++ le4 (crcSum l0)) → law03_CrcTurned.l0 k l0 a1 a2 true (putL 9 (l0.length : Int) ++ tail) (H : Int) tq (i : Int) = some true := by
  have hpl := putL9_len (n := (l0.length : Int))
  intro d
  induction d with
  | zero =>
    intro i k tail m tq hi hk hT hlen hm hm2 ht hf
    obtain ⟨k, rfl⟩ : ∃ j, k = j + 1 := ⟨k - 1, by omega⟩
    obtain rfl : i = 32 := by omega
    rw [law03_CrcTurned.l0, if_neg (by omega)]
    cases tq with
    | true =>
      obtain ⟨q1, q2⟩ := ht rfl
      rw [open_turned l0 tail a1.toNat m hB hl hT hlen hm hm2 q1 q2]
      rfl
    | false =>
      rw [hf rfl, open_whole l0 hB hl]
      simp only [Option.bind_some]
      simp
  | succ d ih =>
    intro i k tail m tq hi hk hT hlen hm hm2 ht hf
    obtain ⟨k, rfl⟩ : ∃ j, k = j + 1 := ⟨k - 1, by omega⟩
    have HM := Aside0.mk hm
    have HM2 := Aside0.mk hm2
    clear hm hm2
    have hi32 : i < 100 := by omega
    have HM3 : Aside0 (m < 2 ^ (i + 1)) := ⟨Nat.lt_trans HM2.out (Nat.pow_lt_pow_right (by omega) (by omega))⟩
    have skip := ih (i + 1) k tail m tq (by omega) (by omega) hT hlen HM.out HM3.out ht hf
    rw [law03_CrcTurned.l0, if_pos (by omega), if_pos (by omega), w_next i hi32, w_add a1 i h0 h1 hi32]
    split
    · obtain ⟨p, hp⟩ : ∃ p : Nat, p = a1.toNat + i := ⟨_, rfl⟩
      have ep : a1 + (i : Int) = (p : Int) := by omega
      have hp7 : p < 70000 := by omega
      have hH10 : H ≤ 10 := by omega
      rw [ep, at_index H p hH10 hp7, at_bit p]
      by_cases hlt : ((H + p / 8 : Nat) : Int) < ((putL 9 (l0.length : Int) ++ tail).length : Int)
      · rw [if_pos hlt, if_pos (by omega), if_pos (by omega)]
        rw [List.length_append] at hlt
        have hj : p / 8 < tail.length := by omega
        have hc := bytes_get hT (p / 8) hj
        have er : rd (putL 9 (l0.length : Int) ++ tail) ((H + p / 8 : Nat) : Int) = tail[p / 8] := by
          simp only [rd, Int.toNat_natCast, List.getD_eq_getElem?_getD]
          rw [List.getElem?_append_right (by omega), show H + p / 8 - (putL 9 (l0.length : Int)).length = p / 8 by omega, List.getElem?_eq_getElem hj]; rfl
        obtain ⟨c, hcn⟩ := Int.eq_ofNat_of_zero_le hc.1
        have hc2 : c < 256 := by omega
        have ex : Go.bits .xor .u8 (tail[p / 8]) (shl .u8 1 ((p % 8 : Nat) : Int)) = (((tail[p / 8]).toNat ^^^ 2 ^ (p % 8) : Nat) : Int) := by
          have h8 : 2 ^ (p % 8) < 256 := by
            have : 2 ^ (p % 8) < 2 ^ 8 := Nat.pow_lt_pow_right (by omega) (by omega)
            exact this
          rw [shl_bit (p % 8) (by omega), hcn, u8_xor_nat c _ hc2 h8]
          rfl
        rw [er, ex, Int.toNat_natCast, List.set_append, if_neg (by omega), show H + p / 8 - (putL 9 (l0.length : Int)).length = p / 8 by omega]
        have hx := xor_low (c := (tail[p / 8]).toNat) (b := p % 8) (by omega) (by omega)
        refine ih (i + 1) k _ (m ^^^ 2 ^ i) true (by omega) (by omega) (bytes_set hT _ _ ⟨by omega, by omega⟩) (by rw [List.length_set]; exact hlen) ?_ ?_ ?_ (fun h => by cases h)
        · rw [leN_set tail (p / 8) (p % 8) hj (by omega) hT, HM.out, two_pow_xor, ← Nat.xor_assoc, ← Nat.pow_add, show 8 * (p / 8) + p % 8 = a1.toNat + i by omega]
        · exact xor_next HM2.out
        · intro _
          exact ⟨xor_some HM2.out, by omega⟩
      · rw [if_neg hlt]
        exact skip
    · exact skip
theorem CrcTurned : law03_CrcTurned.Pure := by
  intro l0 a1 a2 _ hl hb w1 _
  have hB : ∀ x ∈ l0, 0 ≤ x ∧ x < 256 := fun x hx => wf_u8_ (hb x hx)
  have h1 : 0 ≤ a1 ∧ a1 ≤ 65535 := by simpa [Lit.wf, IntKind.min, IntKind.max, IntKind.signed, IntKind.bits] using w1
  have hpl := putL9_len (n := (l0.length : Int))
  have hpp : 0 < (putL 9 (l0.length : Int)).length := List.length_pos_iff.2 (putL_ne 9 _)
  have h4 : (le4 (crcSum l0)).length = 4 := rfl
  refine ⟨33, ?_⟩
  unfold law03_CrcTurned.f law03_shown.f crc_Block.f crcBlock
  simp only [Option.bind_some]
  rw [if_pos ⟨hB, by omega⟩]
  simp only [Option.bind_some, List.append_assoc]
  have ew : wrap64 (wrap64 (((putL 9 (l0.length : Int) ++ (l0 ++ le4 (crcSum l0))).length : Int) - (l0.length : Int)) - 4) = ((putL 9 (l0.length : Int)).length : Int) := by
    rw [List.length_append, List.length_append, h4]
    exact head_len _ _ (by omega) (by omega)
  rw [ew, if_neg (by omega)]
  exact turned_l l0 a1 a2 hB (by omega) h1.1 (by omega) _ rfl 32 0 33 (l0 ++ le4 (crcSum l0)) 0 false rfl (by omega) (fun x hx => (List.mem_append.1 hx).elim (hB x) (le4_bytes _ x)) (by rw [List.length_append, h4]) (by simp) (by decide) (fun h => by cases h) (fun _ => rfl)
end Go.Proofs.Ytknkoeahcemmmaa.Pure
