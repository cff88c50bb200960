/-
  Any bytes' block, and any bytes as a block of at most so many, are the document's, or refused: for every bytes and bound. (CrcBlocks)
-/
import Derived.Test.YtknkoeahcemmmaaPCrbx6
import Derived.Test.YtknkoeahcemmmaaLebP
namespace Go.Proofs.Ytknkoeahcemmmaa.Pure
open Go.RowKit Go.Proofs.Ytknkoeahcemmmaa.PCrb Go.Proofs.YtknkoeahcemmmaaW.PrintWords Go.Proofs.YtknkoeahcemmmaaW.PrintLast Go.Proofs.YtknkoeahcemmmaaW.PrintMore Go.Proofs.Ytknkoeahcemmmaa.Hand

theorem refPut_l : ∀ (m k : Nat) (n : Int) (acc : List Int), m < k → 0 ≤ n → n < 128 ^ (m + 1) → n < 18446744073709551616 → acc.length + m ≤ 9 → ref02_Put.l0 k n acc = some (acc ++ putL m n) := by
  intro m
  induction m with
  | zero =>
    intro k n acc hk h0 h1 h2 ha
    obtain ⟨k, rfl⟩ : ∃ j, k = j + 1 := ⟨k - 1, by omega⟩
    have e : (128 : Int) ^ (0 + 1) = 128 := by decide
    unfold ref02_Put.l0
    rw [if_neg (by omega), if_pos (by omega), show n % 256 = n by omega]
    rfl
  | succ m ih =>
    intro k n acc hk h0 h1 h2 ha
    obtain ⟨k, rfl⟩ : ∃ j, k = j + 1 := ⟨k - 1, by omega⟩
    unfold ref02_Put.l0 putL
    by_cases hn : n < 128
    · rw [if_neg (by omega), if_pos (by omega), if_pos hn, show n % 256 = n by omega]
    · have := pow_step (m + 1)
      have hr : 0 ≤ n % 128 ∧ n % 128 < 128 := by omega
      rw [if_pos (by omega), if_pos (by omega), if_neg hn, Int.tdiv_eq_ediv_of_nonneg h0, IntKind.wrap_u64, show n / 128 % 18446744073709551616 = n / 128 by omega, Int.tmod_eq_emod_of_nonneg h0, IntKind.wrap_u64]
      have er : (128 + n % 128) % 18446744073709551616 % 256 = n % 128 + 128 := by omega
      rw [er, ih k (n / 128) _ (by omega) (by omega) (by omega) (by omega) (by simp only [List.length_append, List.length_cons, List.length_nil]; omega)]
      simp
theorem refPut_f {n : Int} (h : 0 ≤ n ∧ n < 18446744073709551616) (k : Nat) (hk : 9 < k) : ref02_Put.f k n = some (putL 9 n) := by
  have e : (128 : Int) ^ (9 + 1) = 1180591620717411303424 := by decide
  unfold ref02_Put.f
  rw [refPut_l 9 k n [] hk h.1 (by omega) h.2 (by simp)]
  rfl
def val (l : List Int) : Nat → Int
  | 0 => 0
  | n + 1 => val l n + (l.getD n 0 % 128) * 128 ^ n
theorem val_range (l : List Int) : ∀ n, 0 ≤ val l n ∧ val l n < 128 ^ n
  | 0 => by simp [val]
  | n + 1 => by
    have h := val_range l n
    have hp := p128_pos n
    have h1 : 0 ≤ (l.getD n 0 % 128) * 128 ^ n := Int.mul_nonneg (by omega) (by omega)
    have h2 : (l.getD n 0 % 128) * 128 ^ n ≤ 127 * 128 ^ n := Int.mul_le_mul_of_nonneg_right (by omega) (by omega)
    rw [pow_step]
    simp only [val]
    omega
def Bs (l : List Int) : Prop := ∀ x ∈ l, 0 ≤ x ∧ x < 256
theorem Bs.at {l : List Int} (h : Bs l) (i : Nat) : 0 ≤ l.getD i 0 ∧ l.getD i 0 < 256 := by
  rcases Nat.lt_or_ge i l.length with hi | hi
  · rw [List.getD_eq_getElem?_getD, List.getElem?_eq_getElem hi]
    exact h _ (List.getElem_mem hi)
  · rw [List.getD_eq_getElem?_getD, List.getElem?_eq_none hi]
    simp

/-- The document's sum, from the last byte on. -/
theorem refSum_l (l : List Int) (hb : Bs l) (hl : l.length ≤ 140737488351232) (s : Nat) (hs : s < l.length) (V : Int) (hV : V < 18446744073709551616) :
    ∀ (n k : Nat) (acc : Int), n < k → n ≤ s + 1 → 0 ≤ acc → acc * 128 ^ n + val l n = V → ref02_Get.l1 k l (s : Int) acc ((n : Int) - 1) = some (V, (s : Int) + 1, 0) := by
  intro n
  induction n with
  | zero =>
    intro k acc hk hn h0 hv
    obtain ⟨k, rfl⟩ : ∃ j, k = j + 1 := ⟨k - 1, by omega⟩
    unfold ref02_Get.l1
    rw [if_neg (by omega), show wrap64 ((s : Int) + 1) = (s : Int) + 1 by unfold wrap64; omega]
    simp [val] at hv
    rw [hv]
  | succ n ih =>
    intro k acc hk hn h0 hv
    obtain ⟨k, rfl⟩ : ∃ j, k = j + 1 := ⟨k - 1, by omega⟩
    unfold ref02_Get.l1
    rw [show ((n + 1 : Nat) : Int) - 1 = n by omega, if_pos (by omega), if_pos (by omega), if_pos (by omega)]
    have er : rd l (n : Int) = l.getD n 0 := by simp [rd]
    have hr := hb.at n
    have hd : 0 ≤ l.getD n 0 % 128 ∧ l.getD n 0 % 128 < 128 := by omega
    rw [er, Int.tmod_eq_emod_of_nonneg hr.1]
    simp only [val] at hv
    rw [pow_step] at hv
    generalize l.getD n 0 % 128 = d at *
    have hp := p128_pos n
    have hv2 : (acc * 128 + d) * 128 ^ n + val l n = V := by
      rw [Int.add_mul, Int.mul_assoc, Int.mul_comm 128]
      omega
    have hq : acc * 128 + d ≤ (acc * 128 + d) * 128 ^ n := by
      have := Int.mul_le_mul_of_nonneg_left (show 1 ≤ (128 : Int) ^ n by omega) (show 0 ≤ acc * 128 + d by omega)
      omega
    have hvr := (val_range l n).1
    simp only [IntKind.wrap_u64]
    rw [show acc * 128 % 18446744073709551616 = acc * 128 by omega, show d % 18446744073709551616 = d by omega, show (acc * 128 + d) % 18446744073709551616 = acc * 128 + d by omega,
      show wrap64 ((n : Int) - 1) = (n : Int) - 1 by unfold wrap64; omega]
    exact ih k _ (by omega) (by omega) (by omega) hv2

theorem numGo_at (l : List Int) (i : Nat) (hi : i < l.length) (m : Int) : numGo (l.drop i) i m = if (i = 9 ∧ 1 < l.getD i 0) ∨ (0 < i ∧ l.getD i 0 = 0) then .inl 4 else
      if l.getD i 0 < 128 then .inr (m + l.getD i 0 * 128 ^ i, l.drop (i + 1)) else numGo (l.drop (i + 1)) (i + 1) (m + (l.getD i 0 - 128) * 128 ^ i) := by
  rw [List.drop_eq_getElem_cons hi, numGo_cons]
  have e : l.getD i 0 = l[i] := by simp [List.getD_eq_getElem?_getD, hi]
  rw [e]

def outOf (l : List Int) : Int ⊕ (Int × List Int) → Int × Int × Int
  | .inl e => (0, 0, e)
  | .inr (n, t) => (n, (l.length : Int) - (t.length : Int), 0)

/-- Where the document's scan stands still. -/
theorem refEnd (l : List Int) (hb : Bs l) (hl : l.length ≤ 140737488351232) (i k : Nat) (hk : i + 3 < k) (hi : i ≤ l.length) (h9 : i ≤ 9) (hstop : i < l.length → i < 9 → l.getD i 0 < 128) :
    ref02_Get.j1 k l (i : Int) = some (outOf l (numGo (l.drop i) i (val l i))) := by
  obtain ⟨k, rfl⟩ : ∃ j, k = j + 1 := ⟨k - 1, by omega⟩
  unfold ref02_Get.j1
  dsimp only
  have er : rd l (i : Int) = l.getD i 0 := by simp [rd]
  have er9 : i = 9 → rd l 9 = l.getD i 0 := fun h => by subst h; simp [rd]
  have hr := hb.at i
  by_cases he : i = l.length
  · rw [if_pos (by omega), List.drop_of_length_le (by omega)]
    rfl
  · have hlt : i < l.length := by omega
    have hs := hstop hlt
    have hn := numGo_at l i hlt (val l i)
    rw [if_neg (by omega), er]
    have hgo : ∀ (b : Bool), b = decide ((i = 9 ∧ 1 < l.getD i 0) ∨ (0 < i ∧ l.getD i 0 = 0)) → ref02_Get.j2 k l (i : Int) b = some (outOf l (numGo (l.drop i) i (val l i))) := by
      intro b hbb
      obtain ⟨k, rfl⟩ : ∃ j, k = j + 1 := ⟨k - 1, by omega⟩
      unfold ref02_Get.j2
      dsimp only
      rw [hn]
      by_cases hc : (i = 9 ∧ 1 < l.getD i 0) ∨ (0 < i ∧ l.getD i 0 = 0)
      · rw [if_pos (by rw [hbb]; exact decide_eq_true hc), if_pos hc]
        rfl
      · rw [if_neg (by rw [hbb]; simpa using hc), if_neg hc, if_pos (by omega)]
        have hv := val_range l i
        have e128 : l.getD i 0 % 128 = l.getD i 0 := by omega
        have hV : val l (i + 1) = val l i + l.getD i 0 * 128 ^ i := by simp only [val]; rw [e128]
        have hV2 : val l (i + 1) < 18446744073709551616 := by
          rw [hV]
          have h1 := part_bound i (l.getD i 0) h9 hr.1 (by omega) (by omega)
          omega
        have := refSum_l l hb hl i hlt (val l (i + 1)) hV2 (i + 1) k 0 (by omega) (by omega) (by omega) (by simp)
        rw [show ((i + 1 : Nat) : Int) - 1 = i by omega] at this
        rw [this, hV]
        simp only [outOf, List.length_drop]
        congr 3
        omega
    by_cases h : i = 9
    · have hi9 : (i : Int) = 9 := by omega
      have e9 := er9 h
      rw [if_pos hi9, if_pos (by omega), e9]
      by_cases h1 : l.getD i 0 > 1
      · rw [if_pos h1]
        exact hgo true (by symm; rw [decide_eq_true_iff]; exact .inl ⟨h, h1⟩)
      · rw [if_neg h1, if_pos (by omega), if_pos (by omega), if_pos (by omega)]
        exact hgo _ (by rw [Bool.eq_iff_iff, decide_eq_true_iff, beq_iff_eq]; omega)
    · rw [if_neg (by omega)]
      by_cases h0 : (i : Int) > 0
      · rw [if_pos h0, if_pos (by omega), if_pos (by omega)]
        exact hgo _ (by rw [Bool.eq_iff_iff, decide_eq_true_iff, beq_iff_eq]; omega)
      · rw [if_neg h0]
        exact hgo false (by symm; rw [decide_eq_false_iff_not]; omega)

theorem refGet_l (l : List Int) (hb : Bs l) (hl : l.length ≤ 140737488351232) : ∀ (j k i : Nat), i + j = 9 → 20 + j < k → i ≤ l.length → ref02_Get.l0 k l (i : Int) = some (outOf l (numGo (l.drop i) i (val l i))) := by
  intro j
  induction j with
  | zero =>
    intro k i hi hk hle
    obtain ⟨k, rfl⟩ : ∃ j, k = j + 1 := ⟨k - 1, by omega⟩
    have hend := refEnd l hb hl i k (by omega) hle (by omega) (by omega)
    unfold ref02_Get.l0
    split
    · rw [if_neg (by omega)]
      exact hend
    · exact hend
  | succ j ih =>
    intro k i hi hk hle
    obtain ⟨k, rfl⟩ : ∃ j, k = j + 1 := ⟨k - 1, by omega⟩
    have er : rd l (i : Int) = l.getD i 0 := by simp [rd]
    have hr := hb.at i
    unfold ref02_Get.l0
    rw [er]
    by_cases hlt : i < l.length
    · rw [if_pos (by omega), if_pos (by omega), if_pos (by omega)]
      by_cases h128 : l.getD i 0 ≥ 128
      · have ih2 := ih k (i + 1) (by omega) (by omega) (by omega)
        have hn := numGo_at l i hlt (val l i)
        rw [if_neg (by omega), if_neg (by omega)] at hn
        have hV : val l (i + 1) = val l i + (l.getD i 0 - 128) * 128 ^ i := by simp only [val]; rw [show l.getD i 0 % 128 = l.getD i 0 - 128 by omega]
        rw [hV, ← hn] at ih2
        rw [if_pos h128, if_neg (show ¬ (l.getD i 0 = 0) by omega), show wrap64 ((i : Int) + 1) = ((i + 1 : Nat) : Int) by unfold wrap64; omega, ih2]
        split <;> rfl
      · rw [if_neg h128]
        exact refEnd l hb hl i k (by omega) hle (by omega) (by omega)
    · rw [if_neg (by omega)]
      exact refEnd l hb hl i k (by omega) hle (by omega) (by omega)
theorem refGet_f {l : List Int} (hb : Bs l) (hl : l.length ≤ 140737488351232) (k : Nat) (hk : 29 < k) : ref02_Get.f k l = some (getOut l) := by
  unfold ref02_Get.f
  rw [show (0 : Int) = ((0 : Nat) : Int) from rfl, refGet_l l hb hl 9 k 0 rfl hk (by omega)]
  simp only [List.drop_zero, val, getOut]
  generalize numGo l 0 0 = o
  rcases o with e | ⟨n, t⟩ <;> rfl
theorem w64 {n : Int} (h0 : 0 ≤ n) (h1 : n < 9223372036854775808) : wrap64 n = n := by unfold wrap64; omega
theorem step_f (w b : Nat) (hw : w < 4294967296) (hb : b < 2) : ref03_step.f (w : Int) (b : Int) = some ((stp (w ^^^ b) : Nat) : Int) := by
  have hx : (w ^^^ b) % 2 = (w % 2) ^^^ (b % 2) := Nat.xor_mod_two_pow (n := 1)
  have e1 : Int.tmod (w : Int) 2 = ((w % 2 : Nat) : Int) := by rw [Int.tmod_eq_emod_of_nonneg (by omega)]; omega
  have e2 : Int.tdiv (w : Int) 2 % 4294967296 = ((w / 2 : Nat) : Int) := by rw [Int.tdiv_eq_ediv_of_nonneg (by omega)]; omega
  have e3 : Go.bits .xor .u32 ((w / 2 : Nat) : Int) 3988292384 = ((w / 2 ^^^ 3988292384 : Nat) : Int) := by
    rw [show (3988292384 : Int) = ((3988292384 : Nat) : Int) from rfl, u32_xor_nat _ _ (by omega) (by decide)]
  unfold ref03_step.f stp
  rw [e1, e2, e3, Nat.xor_div_two, hx]
  have hw2 := Nat.mod_two_eq_zero_or_one w
  have hb2 : b = 0 ∨ b = 1 := by omega
  rcases hw2 with h | h <;> rcases hb2 with rfl | rfl <;> rw [h] <;> simp
theorem sum_l1 (l : List Int) (i : Nat) (hi : i < 140737488355328) : ∀ (d j k w c : Nat), j + d = 8 → d < k → w < 4294967296 → c < 2 ^ d →
    ref03_Sum.l1 k l (w : Int) (i : Int) (c : Int) (j : Int) = ref03_Sum.l0 (k - (d + 1)) l ((stpN d (w ^^^ c) : Nat) : Int) ((i + 1 : Nat) : Int) := by
  intro d
  induction d with
  | zero =>
    intro j k w c hj hk hw hc
    obtain ⟨k, rfl⟩ : ∃ q, k = q + 1 := ⟨k - 1, by omega⟩
    obtain rfl : c = 0 := by simpa using hc
    rw [ref03_Sum.l1, if_neg (by omega), Nat.xor_zero, w64 (by omega) (by omega)]
    simp only [stpN, Nat.zero_add, Nat.add_sub_cancel]
    rfl
  | succ d ih =>
    intro j k w c hj hk hw hc
    obtain ⟨k, rfl⟩ : ∃ q, k = q + 1 := ⟨k - 1, by omega⟩
    have hc2 : c < 256 := Nat.lt_of_lt_of_le hc (show 2 ^ (d + 1) ≤ 2 ^ 8 from Nat.pow_le_pow_right (by omega) (by omega))
    have hcd : c / 2 < 2 ^ d := by rw [Nat.pow_succ] at hc; omega
    have e1 : Int.tmod (c : Int) 2 = ((c % 2 : Nat) : Int) := by rw [Int.tmod_eq_emod_of_nonneg (by omega)]; omega
    have e2 : Int.tdiv (c : Int) 2 % 4294967296 = ((c / 2 : Nat) : Int) := by rw [Int.tdiv_eq_ediv_of_nonneg (by omega)]; omega
    have hlt : w ^^^ c % 2 < 4294967296 := Nat.xor_lt_two_pow (n := 32) hw (by omega)
    rw [ref03_Sum.l1, if_pos (by omega), e1, e2, step_f w (c % 2) hw (by omega)]
    simp only [Option.bind_some]
    rw [w64 (n := (j : Int) + 1) (by omega) (by omega), show ((j : Int) + 1) = ((j + 1 : Nat) : Int) by omega, ih (j + 1) k _ (c / 2) (by omega) (by omega) (stp_lt hlt) hcd, show k + 1 - (d + 1 + 1) = k - (d + 1) by omega]
    congr 2
    simp only [stpN]
    have h := low_high c 1
    have e4 : w ^^^ c = (w ^^^ c % 2) ^^^ 2 * (c / 2) := by
      rw [Nat.xor_assoc, Nat.xor_comm (c % 2)]
      exact congrArg (w ^^^ ·) h.symm
    rw [e4, stp_xor (w ^^^ c % 2), stp_double]
theorem sum_l0 (l : List Int) (hb : Bs l) (hl : l.length < 140737488355328) : ∀ (d i k w : Nat), i + d = l.length → 10 * d < k → w < 4294967296 → ref03_Sum.l0 k l (w : Int) (i : Int) = some ((ones ^^^ crcReg crcRow w (l.drop i) : Nat) : Int) := by
  intro d
  induction d with
  | zero =>
    intro i k w hi hk hw
    obtain ⟨k, rfl⟩ : ∃ q, k = q + 1 := ⟨k - 1, by omega⟩
    rw [ref03_Sum.l0, if_neg (by omega), List.drop_of_length_le (by omega)]
    simp only [crcReg]
    rw [not_eq hw]
    congr 1
    omega
  | succ d ih =>
    intro i k w hi hk hw
    obtain ⟨k, rfl⟩ : ∃ q, k = q + 1 := ⟨k - 1, by omega⟩
    have hil : i < l.length := by omega
    have hc := hb _ (List.getElem_mem hil)
    have er : rd l (i : Int) = l[i] := by simp only [rd, Int.toNat_natCast, List.getD_eq_getElem?_getD]; rw [List.getElem?_eq_getElem hil]; rfl
    obtain ⟨c, hcn⟩ := Int.eq_ofNat_of_zero_le hc.1
    have hc2 : c < 256 := by omega
    rw [ref03_Sum.l0, if_pos (by omega), if_pos (by omega), er, hcn, show (c : Int) % 4294967296 = (c : Int) by omega, show (0 : Int) = ((0 : Nat) : Int) from rfl,
      sum_l1 l i (by omega) 8 0 k w c rfl (by omega) hw hc2, ih (i + 1) _ _ (by omega) (by omega) (stpN_lt 8 (Nat.xor_lt_two_pow (n := 32) hw (by omega))), List.drop_eq_getElem_cons hil]
    simp only [crcReg]
    rw [crcBy_row, hcn, Int.toNat_natCast]
theorem refCrc_f (l : List Int) (hb : Bs l) (hl : l.length < 140737488355328) (k : Nat) (hk : 10 * l.length < k) : ref03_Sum.f k l = some ((crcSum l : Nat) : Int) := by
  unfold ref03_Sum.f
  have := sum_l0 l hb hl l.length 0 k ones (by omega) hk (by decide)
  rw [List.drop_zero] at this
  exact this
theorem block_f (l : List Int) (hb : Bs l) (hl : l.length ≤ 140737488355300) : crc_Block.f l = some (putL 9 (l.length : Int) ++ l ++ le4 (crcSum l)) := if_pos ⟨hb, hl⟩
theorem refBlock_f (l : List Int) (hb : Bs l) (hl : l.length ≤ 140737488355300) (k : Nat) (hk : 10 * l.length + 10 < k) : ref03_Block.f k l = some (putL 9 (l.length : Int) ++ l ++ le4 (crcSum l)) := by
  have hs := crcSum_lt l hb
  have hpl := putL9_len (n := (l.length : Int))
  unfold ref03_Block.f
  rw [refCrc_f l hb (by omega) k (by omega)]
  simp only [Option.bind_some]
  rw [wrap_len l.length (by omega), refPut_f (n := (l.length : Int)) ⟨by omega, by omega⟩ k (by omega)]
  simp only [Option.bind_some]
  rw [if_pos (by omega), if_pos (by simp only [List.length_append, List.length_cons, List.length_nil]; omega)]
  generalize crcSum l = s at *
  congr 2
  unfold le4
  rw [Int.tmod_eq_emod_of_nonneg (by omega), Int.tdiv_eq_ediv_of_nonneg (by omega), Int.tdiv_eq_ediv_of_nonneg (by omega), Int.tdiv_eq_ediv_of_nonneg (by omega)]
  congr 1
  · omega
  · congr 1
    · omega
    · congr 1
      · omega
      · congr 1
        omega
theorem str_inj {a b : List Int} (ha : Bs a) (hb : Bs b) : (strOfNums a).toList = (strOfNums b).toList ↔ a = b := by
  constructor
  · intro h
    rw [ByteArray.toList_eq, ByteArray.toList_eq] at h
    have h2 := congrArg (List.map fun x : UInt8 => (x.toNat : Int)) h
    have key : ∀ l : List Int, Bs l → List.map (fun x : UInt8 => (x.toNat : Int)) (strOfNums l).data.toList = l := by
      intro l hl
      unfold strOfNums
      simp only [List.map_map]
      conv => rhs; rw [← List.map_id l]
      refine List.map_congr_left fun x hx => ?_
      obtain ⟨h1, h2⟩ := hl x hx
      simp only [Function.comp, UInt8.toNat_ofNat', id]
      omega
    rwa [key a ha, key b hb] at h2
  · rintro rfl; rfl
theorem Bs.take {l : List Int} (h : Bs l) (n : Nat) : Bs (l.take n) := fun x hx => h x (List.mem_of_mem_take hx)
theorem Bs.drop {l : List Int} (h : Bs l) (n : Nat) : Bs (l.drop n) := fun x hx => h x (List.mem_of_mem_drop hx)
theorem Bs.app {l m : List Int} (h : Bs l) (h2 : Bs m) : Bs (l ++ m) := fun x hx => (List.mem_append.1 hx).elim (h x) (h2 x)
theorem refOpen_f (l : List Int) (a1 : Int) (hb : Bs l) (hl : l.length ≤ 140737488351232) (h0 : -9223372036854775808 ≤ a1) (h1 : a1 ≤ 9223372036854775807) (k : Nat) (hk : 10 * l.length + 60 < k) : ref03_Open.f k l a1 = some (crcOpenOut l a1) := by
  obtain ⟨k, rfl⟩ : ∃ q, k = q + 1 := ⟨k - 1, by omega⟩
  unfold ref03_Open.f crcOpenOut
  rw [refGet_f hb hl (k + 1) (by omega)]
  simp only [Option.bind_some]
  have hnr := fun n t => numGo_range l 0 0 n t hb (by omega) (by omega) (by decide)
  have hnk := fun n t => put_num0 (l := l) (y := n) (t := t) hb
  have hne := num_err l 0 0
  unfold getOut
  generalize numGo l 0 0 = o at *
  rcases o with e | ⟨n, t⟩
  · simp only
    rw [if_neg (by rcases hne e rfl with rfl | rfl <;> decide)]
  · obtain ⟨hn0, hn1⟩ := hnr n t rfl
    have he := hnk n t rfl
    have hlen : l.length = (putL 9 n).length + t.length := by rw [he, List.length_append]
    have hpl := putL9_len (n := n)
    simp only
    rw [if_pos trivial]
    by_cases c0 : a1 < 0
    · rw [if_pos c0, if_pos (.inl c0)]
      rfl
    · rw [if_neg c0]
      have hw : IntKind.u64.wrap a1 = a1 := by rw [IntKind.wrap_u64]; omega
      rw [hw]
      by_cases c1 : a1 < n
      · rw [if_pos (.inr c1), show decide (n > a1) = true from decide_eq_true c1]
        rfl
      · rw [if_neg (by omega), show decide (n > a1) = false from decide_eq_false (by omega), ref03_Open.j0, if_neg (by decide)]
        obtain ⟨m, rfl⟩ := Int.eq_ofNat_of_zero_le hn0
        have e1 : IntKind.u64.wrap (wrap64 ((l.length : Int) - ((l.length : Int) - (t.length : Int)))) = (t.length : Int) := by rw [w64 (by omega) (by omega), IntKind.wrap_u64]; omega
        have e2 : IntKind.u64.wrap ((m : Int) + 4) = (m : Int) + 4 := by rw [IntKind.wrap_u64]; omega
        rw [e1, e2]
        by_cases c2 : (t.length : Int) < m + 4
        · rw [if_pos c2, if_pos c2]
        · rw [if_neg c2, if_neg c2]
          have hkk : (l.length : Int) - (t.length : Int) = (((putL 9 (m : Int)).length : Nat) : Int) := by omega
          rw [hkk]
          have e3 : wrap64 ((((putL 9 (m : Int)).length : Nat) : Int) + wrap64 (m : Int)) = (((putL 9 (m : Int)).length + m : Nat) : Int) := by rw [w64 (n := (m : Int)) (by omega) (by omega), w64 (by omega) (by omega)]; omega
          rw [e3, if_pos (by omega), if_pos (by omega), if_pos (by omega), Int.toNat_natCast, Int.toNat_natCast]
          simp only [Option.bind_some]
          have ex : (l.take ((putL 9 (m : Int)).length + m)).drop (putL 9 (m : Int)).length = t.take m := by
            rw [he, List.take_length_add_append, List.drop_left']; rfl
          have ht : Bs t := fun x hx => hb x (by rw [he]; exact List.mem_append_right _ hx)
          have hml : (t.take m).length = m := by rw [List.length_take]; omega
          have h4 : (le4 (crcSum (t.take m))).length = 4 := rfl
          rw [ex, refBlock_f (t.take m) (ht.take m) (by omega) k (by omega), hml]
          simp only [Option.bind_some]
          have hal : (putL 9 (m : Int) ++ t.take m ++ le4 (crcSum (t.take m))).length = (putL 9 (m : Int)).length + (m + 4) := by simp only [List.length_append, hml, h4]; omega
          have hput : Bs (putL 9 (m : Int)) := putL9_range ⟨by omega, by omega⟩
          rw [hal, if_pos (by omega), if_pos (by omega), Int.toNat_natCast]
          have et : l.take ((putL 9 (m : Int)).length + (m + 4)) = putL 9 (m : Int) ++ (t.take m ++ (t.drop m).take 4) := by
            conv => lhs; rw [he]
            rw [List.take_length_add_append, List.take_add]
          have ed : l.drop ((putL 9 (m : Int)).length + (m + 4)) = (t.drop m).drop 4 := by
            conv => lhs; rw [he]
            rw [List.drop_length_add_append, List.drop_drop]
          rw [et, ed, List.append_assoc]
          have hiff : (strOfNums (putL 9 (m : Int) ++ (t.take m ++ le4 (crcSum (t.take m))))).toList = (strOfNums (putL 9 (m : Int) ++ (t.take m ++ (t.drop m).take 4))).toList ↔ le4 (crcSum (t.take m)) = (t.drop m).take 4 := by
            rw [str_inj (hput.app ((ht.take m).app (le4_bytes _))) (hput.app ((ht.take m).app ((ht.drop m).take 4)))]
            constructor
            · intro h
              exact List.append_cancel_left (List.append_cancel_left h)
            · intro h; rw [h]
          by_cases c3 : le4 (crcSum (t.take m)) = (t.drop m).take 4
          · rw [if_pos (hiff.2 c3)]
            simp only [Int.toNat_natCast]
            rw [if_pos c3]
          · rw [if_neg (fun h => c3 (hiff.1 h))]
            simp only [Int.toNat_natCast]
            rw [if_neg c3]
theorem CrcBlocks : law03_CrcBlocks.Pure := by
  intro l a1 _ hl hw w1
  have hb : Bs l := fun x hx => wf_u8_ (hw x hx)
  have h1 : -9223372036854775808 ≤ a1 ∧ a1 ≤ 9223372036854775807 := by simpa [Lit.wf, IntKind.min, IntKind.max, IntKind.signed, IntKind.bits] using w1
  refine ⟨10 * l.length + 61, ?_⟩
  unfold law03_CrcBlocks.f law03_shown.f crc_Open.f crcOpen
  rw [if_pos ⟨hb, by omega, h1.1, h1.2⟩]
  simp only [Option.bind_some]
  rw [refOpen_f l a1 hb (by omega) h1.1 h1.2 _ (by omega), block_f l hb (by omega)]
  simp only [Option.bind_some, if_true]
  rw [refBlock_f l hb (by omega) _ (by omega)]
  simp only [Option.bind_some, if_true, beq_self_eq_true]
end Go.Proofs.Ytknkoeahcemmmaa.Pure
