/-
  Plain lemmas for val's bytes: what the code and the document's answer compute of numbers, keys, texts.
-/
import Derived.Test.YthooijfdlamkkaaPVtrx17
import Derived.Test.YthooijfdlamkkaaLebN
namespace Go.Proofs.Ythooijfdlamkkaa.Pure
open Go.RowKit Go.Proofs.Ythooijfdlamkkaa.PVtr Go.Proofs.YthooijfdlamkkaaW.PrintWords Go.Proofs.YthooijfdlamkkaaW.PrintLast Go.Proofs.YthooijfdlamkkaaW.PrintMore Go.Proofs.Ythooijfdlamkkaa.Hand

theorem refPut_l : ∀ (m k : Nat) (n : Int) (acc : List Int), m < k → 0 ≤ n → n < 128 ^ (m + 1) → n < 18446744073709551616 → acc.length + m ≤ 9 → ref02_Put.l0 k n acc = some (acc ++ putL m n) := by
  intro m
  induction m with
  | zero =>
    intro k n acc hk h0 h1 h2 ha
    obtain ⟨k, rfl⟩ : ∃ j, k = j + 1 := ⟨k - 1, by omega⟩
    have e : (128 : Int) ^ (0 + 1) = 128 := by decide
    unfold ref02_Put.l0
    rw [if_neg (by omega), if_pos (by omega), show n % 256 = n by omega]
    rfl
  | succ m ih =>
    intro k n acc hk h0 h1 h2 ha
    obtain ⟨k, rfl⟩ : ∃ j, k = j + 1 := ⟨k - 1, by omega⟩
    unfold ref02_Put.l0 putL
    by_cases hn : n < 128
    · rw [if_neg (by omega), if_pos (by omega), if_pos hn, show n % 256 = n by omega]
    · have := pow_step (m + 1)
      have hr : 0 ≤ n % 128 ∧ n % 128 < 128 := by omega
      rw [if_pos (by omega), if_pos (by omega), if_neg hn, Int.tdiv_eq_ediv_of_nonneg h0, IntKind.wrap_u64, show n / 128 % 18446744073709551616 = n / 128 by omega, Int.tmod_eq_emod_of_nonneg h0, IntKind.wrap_u64]
      have er : (128 + n % 128) % 18446744073709551616 % 256 = n % 128 + 128 := by omega
      rw [er, ih k (n / 128) _ (by omega) (by omega) (by omega) (by omega) (by simp only [List.length_append, List.length_cons, List.length_nil]; omega)]
      simp
theorem refPut_f {n : Int} (h : 0 ≤ n ∧ n < 18446744073709551616) (k : Nat) (hk : 9 < k) : ref02_Put.f k n = some (putL 9 n) := by
  have e : (128 : Int) ^ (9 + 1) = 1180591620717411303424 := by decide
  unfold ref02_Put.f
  rw [refPut_l 9 k n [] hk h.1 (by omega) h.2 (by simp)]
  rfl
theorem refZig_f {n : Int} (h : -9223372036854775808 ≤ n ∧ n < 9223372036854775808) : ref02_Zig.f n = some (zig n) := by
  unfold ref02_Zig.f zig
  simp only [IntKind.wrap_u64]
  split
  · rw [if_neg (by omega)]
    have e1 : wrap64 (n + 1) = n + 1 := by unfold wrap64; omega
    have e2 : wrap64 (-(n + 1)) = -(n + 1) := by unfold wrap64; omega
    rw [e1, e2]
    congr 1
    omega
  · rw [if_pos (by omega)]
    congr 1
    omega
theorem refZag_f {n : Int} (h : 0 ≤ n ∧ n < 18446744073709551616) : ref02_Zag.f n = some (zag n) := by
  have e0 : (n / 2) % 18446744073709551616 = n / 2 := by omega
  have e1 : wrap64 (n / 2) = n / 2 := by unfold wrap64; omega
  have e2 : wrap64 (-(n / 2)) = -(n / 2) := by unfold wrap64; omega
  have e3 : wrap64 (-(n / 2) - 1) = -(n / 2) - 1 := by unfold wrap64; omega
  unfold ref02_Zag.f zag
  rw [Int.tmod_eq_emod_of_nonneg h.1, Int.tdiv_eq_ediv_of_nonneg h.1, IntKind.wrap_u64, e0, e1, e2, e3]
  split
  · rw [if_neg (by omega)]
  · rw [if_pos (by omega)]

/-- The number that the first n bytes are. -/
def val (l : List Int) : Nat → Int
  | 0 => 0
  | n + 1 => val l n + (l.getD n 0 % 128) * 128 ^ n
theorem val_range (l : List Int) : ∀ n, 0 ≤ val l n ∧ val l n < 128 ^ n
  | 0 => by simp [val]
  | n + 1 => by
    have h := val_range l n
    have hp := p128_pos n
    have h1 : 0 ≤ (l.getD n 0 % 128) * 128 ^ n := Int.mul_nonneg (by omega) (by omega)
    have h2 : (l.getD n 0 % 128) * 128 ^ n ≤ 127 * 128 ^ n := Int.mul_le_mul_of_nonneg_right (by omega) (by omega)
    rw [pow_step]
    simp only [val]
    omega
def Bs (l : List Int) : Prop := ∀ x ∈ l, 0 ≤ x ∧ x < 256
theorem Bs.at {l : List Int} (h : Bs l) (i : Nat) : 0 ≤ l.getD i 0 ∧ l.getD i 0 < 256 := by
  rcases Nat.lt_or_ge i l.length with hi | hi
  · rw [List.getD_eq_getElem?_getD, List.getElem?_eq_getElem hi]
    exact h _ (List.getElem_mem hi)
  · rw [List.getD_eq_getElem?_getD, List.getElem?_eq_none hi]
    simp

/-- The document's sum, from the last byte on. -/
theorem refSum_l (l : List Int) (hb : Bs l) (hl : l.length ≤ 140737488351232) (s : Nat) (hs : s < l.length) (V : Int) (hV : V < 18446744073709551616) :
    ∀ (n k : Nat) (acc : Int), n < k → n ≤ s + 1 → 0 ≤ acc → acc * 128 ^ n + val l n = V → ref02_Get.l1 k l (s : Int) acc ((n : Int) - 1) = some (V, (s : Int) + 1, 0) := by
  intro n
  induction n with
  | zero =>
    intro k acc hk hn h0 hv
    obtain ⟨k, rfl⟩ : ∃ j, k = j + 1 := ⟨k - 1, by omega⟩
    unfold ref02_Get.l1
    rw [if_neg (by omega), show wrap64 ((s : Int) + 1) = (s : Int) + 1 by unfold wrap64; omega]
    simp [val] at hv
    rw [hv]
  | succ n ih =>
    intro k acc hk hn h0 hv
    obtain ⟨k, rfl⟩ : ∃ j, k = j + 1 := ⟨k - 1, by omega⟩
    unfold ref02_Get.l1
    rw [show ((n + 1 : Nat) : Int) - 1 = n by omega, if_pos (by omega), if_pos (by omega), if_pos (by omega)]
    have er : rd l (n : Int) = l.getD n 0 := by simp [rd]
    have hr := hb.at n
    have hd : 0 ≤ l.getD n 0 % 128 ∧ l.getD n 0 % 128 < 128 := by omega
    rw [er, Int.tmod_eq_emod_of_nonneg hr.1]
    simp only [val] at hv
    rw [pow_step] at hv
    generalize l.getD n 0 % 128 = d at *
    have hp := p128_pos n
    have hv2 : (acc * 128 + d) * 128 ^ n + val l n = V := by
      rw [Int.add_mul, Int.mul_assoc, Int.mul_comm 128]
      omega
    have hq : acc * 128 + d ≤ (acc * 128 + d) * 128 ^ n := by
      have := Int.mul_le_mul_of_nonneg_left (show 1 ≤ (128 : Int) ^ n by omega) (show 0 ≤ acc * 128 + d by omega)
      omega
    have hvr := (val_range l n).1
    simp only [IntKind.wrap_u64]
    rw [show acc * 128 % 18446744073709551616 = acc * 128 by omega, show d % 18446744073709551616 = d by omega, show (acc * 128 + d) % 18446744073709551616 = acc * 128 + d by omega,
      show wrap64 ((n : Int) - 1) = (n : Int) - 1 by unfold wrap64; omega]
    exact ih k _ (by omega) (by omega) (by omega) hv2

theorem numGo_at (l : List Int) (i : Nat) (hi : i < l.length) (m : Int) : numGo (l.drop i) i m = if (i = 9 ∧ 1 < l.getD i 0) ∨ (0 < i ∧ l.getD i 0 = 0) then .inl 4 else
      if l.getD i 0 < 128 then .inr (m + l.getD i 0 * 128 ^ i, l.drop (i + 1)) else numGo (l.drop (i + 1)) (i + 1) (m + (l.getD i 0 - 128) * 128 ^ i) := by
  rw [List.drop_eq_getElem_cons hi, numGo_cons]
  have e : l.getD i 0 = l[i] := by simp [List.getD_eq_getElem?_getD, hi]
  rw [e]

def outOf (l : List Int) : Int ⊕ (Int × List Int) → Int × Int × Int
  | .inl e => (0, 0, e)
  | .inr (n, t) => (n, (l.length : Int) - (t.length : Int), 0)

/-- Where the document's scan stands still. -/
theorem refEnd (l : List Int) (hb : Bs l) (hl : l.length ≤ 140737488351232) (i k : Nat) (hk : i + 3 < k) (hi : i ≤ l.length) (h9 : i ≤ 9) (hstop : i < l.length → i < 9 → l.getD i 0 < 128) :
    ref02_Get.j1 k l (i : Int) = some (outOf l (numGo (l.drop i) i (val l i))) := by
  obtain ⟨k, rfl⟩ : ∃ j, k = j + 1 := ⟨k - 1, by omega⟩
  unfold ref02_Get.j1
  dsimp only
  have er : rd l (i : Int) = l.getD i 0 := by simp [rd]
  have er9 : i = 9 → rd l 9 = l.getD i 0 := fun h => by subst h; simp [rd]
  have hr := hb.at i
  by_cases he : i = l.length
  · rw [if_pos (by omega), List.drop_of_length_le (by omega)]
    rfl
  · have hlt : i < l.length := by omega
    have hs := hstop hlt
    have hn := numGo_at l i hlt (val l i)
    rw [if_neg (by omega), er]
    have hgo : ∀ (b : Bool), b = decide ((i = 9 ∧ 1 < l.getD i 0) ∨ (0 < i ∧ l.getD i 0 = 0)) → ref02_Get.j2 k l (i : Int) b = some (outOf l (numGo (l.drop i) i (val l i))) := by
      intro b hbb
      obtain ⟨k, rfl⟩ : ∃ j, k = j + 1 := ⟨k - 1, by omega⟩
      unfold ref02_Get.j2
      dsimp only
      rw [hn]
      by_cases hc : (i = 9 ∧ 1 < l.getD i 0) ∨ (0 < i ∧ l.getD i 0 = 0)
      · rw [if_pos (by rw [hbb]; exact decide_eq_true hc), if_pos hc]
        rfl
      · rw [if_neg (by rw [hbb]; simpa using hc), if_neg hc, if_pos (by omega)]
        have hv := val_range l i
        have e128 : l.getD i 0 % 128 = l.getD i 0 := by omega
        have hV : val l (i + 1) = val l i + l.getD i 0 * 128 ^ i := by simp only [val]; rw [e128]
        have hV2 : val l (i + 1) < 18446744073709551616 := by
          rw [hV]
          have h1 := part_bound i (l.getD i 0) h9 hr.1 (by omega) (by omega)
          omega
        have := refSum_l l hb hl i hlt (val l (i + 1)) hV2 (i + 1) k 0 (by omega) (by omega) (by omega) (by simp)
        rw [show ((i + 1 : Nat) : Int) - 1 = i by omega] at this
        rw [this, hV]
        simp only [outOf, List.length_drop]
        congr 3
        omega
    by_cases h : i = 9
    · have hi9 : (i : Int) = 9 := by omega
      have e9 := er9 h
      rw [if_pos hi9, if_pos (by omega), e9]
      by_cases h1 : l.getD i 0 > 1
      · rw [if_pos h1]
        exact hgo true (by symm; rw [decide_eq_true_iff]; exact .inl ⟨h, h1⟩)
      · rw [if_neg h1, if_pos (by omega), if_pos (by omega), if_pos (by omega)]
        exact hgo _ (by rw [Bool.eq_iff_iff, decide_eq_true_iff, beq_iff_eq]; omega)
    · rw [if_neg (by omega)]
      by_cases h0 : (i : Int) > 0
      · rw [if_pos h0, if_pos (by omega), if_pos (by omega)]
        exact hgo _ (by rw [Bool.eq_iff_iff, decide_eq_true_iff, beq_iff_eq]; omega)
      · rw [if_neg h0]
        exact hgo false (by symm; rw [decide_eq_false_iff_not]; omega)

theorem refGet_l (l : List Int) (hb : Bs l) (hl : l.length ≤ 140737488351232) : ∀ (j k i : Nat), i + j = 9 → 20 + j < k → i ≤ l.length → ref02_Get.l0 k l (i : Int) = some (outOf l (numGo (l.drop i) i (val l i))) := by
  intro j
  induction j with
  | zero =>
    intro k i hi hk hle
    obtain ⟨k, rfl⟩ : ∃ j, k = j + 1 := ⟨k - 1, by omega⟩
    have hend := refEnd l hb hl i k (by omega) hle (by omega) (by omega)
    unfold ref02_Get.l0
    split
    · rw [if_neg (by omega)]
      exact hend
    · exact hend
  | succ j ih =>
    intro k i hi hk hle
    obtain ⟨k, rfl⟩ : ∃ j, k = j + 1 := ⟨k - 1, by omega⟩
    have er : rd l (i : Int) = l.getD i 0 := by simp [rd]
    have hr := hb.at i
    unfold ref02_Get.l0
    rw [er]
    by_cases hlt : i < l.length
    · rw [if_pos (by omega), if_pos (by omega), if_pos (by omega)]
      by_cases h128 : l.getD i 0 ≥ 128
      · have ih2 := ih k (i + 1) (by omega) (by omega) (by omega)
        have hn := numGo_at l i hlt (val l i)
        rw [if_neg (by omega), if_neg (by omega)] at hn
        have hV : val l (i + 1) = val l i + (l.getD i 0 - 128) * 128 ^ i := by simp only [val]; rw [show l.getD i 0 % 128 = l.getD i 0 - 128 by omega]
        rw [hV, ← hn] at ih2
        rw [if_pos h128, if_neg (show ¬ (l.getD i 0 = 0) by omega), show wrap64 ((i : Int) + 1) = ((i + 1 : Nat) : Int) by unfold wrap64; omega, ih2]
        split <;> rfl
      · rw [if_neg h128]
        exact refEnd l hb hl i k (by omega) hle (by omega) (by omega)
    · rw [if_neg (by omega)]
      exact refEnd l hb hl i k (by omega) hle (by omega) (by omega)
theorem refGet_f {l : List Int} (hb : Bs l) (hl : l.length ≤ 140737488351232) (k : Nat) (hk : 29 < k) : ref02_Get.f k l = some (getOut l) := by
  unfold ref02_Get.f
  rw [show (0 : Int) = ((0 : Nat) : Int) from rfl, refGet_l l hb hl 9 k 0 rfl hk (by omega)]
  simp only [List.drop_zero, val, getOut]
  generalize numGo l 0 0 = o
  rcases o with e | ⟨n, t⟩ <;> rfl
theorem get_f {l : List Int} (hb : Bs l) : leb_Get.f l = some (getOut l) := if_pos hb


def U (a : Int) : Prop := 0 ≤ a ∧ a < 18446744073709551616
def cl (a : Int) : Int := if a % 9223372036854775808 > 9218868437227405312 then 9221120237041090560 else a
theorem clean_f {a : Int} (h : U a) : flt_Clean.f a = some (cl a) := by unfold flt_Clean.f Hand.fltClean; exact if_pos h
theorem cl_U {a : Int} (h : U a) : U (cl a) := by obtain ⟨h1, h2⟩ := h; unfold cl U; split <;> omega
theorem cl_cl (a : Int) : cl (cl a) = cl a := by
  unfold cl
  split
  · rfl
  · rfl
theorem key_f {a : Int} (h : U a) : flt_Key.f a = some (Hand.keyOf (cl a)) := by
  have h2 := clean_f h
  unfold flt_Clean.f at h2
  unfold flt_Key.f Hand.fltKey
  rw [h2]; rfl
theorem key_U {a : Int} (h : U a) : U (Hand.keyOf a) := by obtain ⟨h1, h2⟩ := h; unfold Hand.keyOf U; split <;> omega
theorem key_inj {a b : Int} (ha : U a) (hb : U b) (h : Hand.keyOf a = Hand.keyOf b) : a = b := by
  obtain ⟨h1, h2⟩ := ha
  obtain ⟨h3, h4⟩ := hb
  unfold Hand.keyOf at h
  split at h <;> split at h <;> omega

/-- The last n bytes of a number, the greatest first. -/
def dig : Nat → Int → List Int
  | 0, _ => []
  | n + 1, a => (a / 256 ^ n % 256) :: dig n a
theorem p256 (n : Nat) : 0 < (256 : Int) ^ n := Int.pow_pos (by decide)
theorem mod_succ (a : Int) (n : Nat) : a % 256 ^ (n + 1) = (a / 256 ^ n % 256) * 256 ^ n + a % 256 ^ n := by
  have hp := p256 n
  rw [Int.pow_succ]
  generalize (256 : Int) ^ n = p at *
  have h1 := Int.emod_add_mul_ediv a p
  have h2 := Int.emod_add_mul_ediv (a / p) 256
  have h3 := Int.emod_nonneg a (show p ≠ 0 by omega)
  have h4 := Int.emod_lt_of_pos a hp
  have h5 : 0 ≤ a / p % 256 ∧ a / p % 256 < 256 := by omega
  generalize a / p / 256 = q at *
  generalize a / p % 256 = r at *
  generalize a % p = s at *
  have e : a = (r * p + s) + (p * 256) * q := by
    rw [← h2, Int.mul_add] at h1
    rw [Int.mul_assoc, Int.mul_comm r p]
    omega
  have h6 : 0 ≤ r * p := Int.mul_nonneg h5.1 (by omega)
  have h7 : r * p ≤ 255 * p := Int.mul_le_mul_of_nonneg_right (by omega) (by omega)
  rw [e, Int.add_mul_emod_self_left, Int.emod_eq_of_lt (by omega) (by omega)]
theorem bytes_l (K : Int) : val_Bytes.l0 9 K [] 0 = some (dig 8 K, 0) := by
  have s : ∀ (x n : Int) (m : Nat), IntKind.u64.wrap (wrap64 (8 * wrap64 (7 - n))) = x → x.toNat = 8 * m → 8 * m ≤ 64 → shr .u64 K (IntKind.u64.wrap (wrap64 (8 * wrap64 (7 - n)))) = K / 256 ^ m := by
    intro x n m h1 h2 h3
    rw [h1]
    unfold shr
    rw [h2, show min (8 * m) IntKind.u64.bits = 8 * m from Nat.min_eq_left h3, Int.pow_mul]
    rfl
  have s0 := s 56 0 7 (by decide +kernel) rfl (by decide +kernel)
  have s1 := s 48 1 6 (by decide +kernel) rfl (by decide +kernel)
  have s2 := s 40 2 5 (by decide +kernel) rfl (by decide +kernel)
  have s3 := s 32 3 4 (by decide +kernel) rfl (by decide +kernel)
  have s4 := s 24 4 3 (by decide +kernel) rfl (by decide +kernel)
  have s5 := s 16 5 2 (by decide +kernel) rfl (by decide +kernel)
  have s6 := s 8 6 1 (by decide +kernel) rfl (by decide +kernel)
  have s7 := s 0 7 0 (by decide +kernel) rfl (by decide +kernel)
  have step : ∀ (k : Nat) (acc : List Int) (n m : Int) (d : Int), n < 8 → 0 ≤ IntKind.u64.wrap (wrap64 (8 * wrap64 (7 - n))) → acc.length < 100 → shr .u64 K (IntKind.u64.wrap (wrap64 (8 * wrap64 (7 - n)))) = d → wrap64 (n + 1) = m →
      val_Bytes.l0 (k + 1) K acc n = val_Bytes.l0 k K (acc ++ [d % 256]) m := by
    intro k acc n m d h1 h2 h3 h4 h5
    rw [val_Bytes.l0, if_pos h1, if_pos h2, if_pos (by omega), h4, h5]
  rw [step 8 _ 0 1 _ (by decide +kernel) (by decide +kernel) (by simp) s0 (by decide +kernel), step 7 _ 1 2 _ (by decide +kernel) (by decide +kernel) (by simp) s1 (by decide +kernel), step 6 _ 2 3 _ (by decide +kernel) (by decide +kernel) (by simp) s2 (by decide +kernel),
    step 5 _ 3 4 _ (by decide +kernel) (by decide +kernel) (by simp) s3 (by decide +kernel), step 4 _ 4 5 _ (by decide +kernel) (by decide +kernel) (by simp) s4 (by decide +kernel), step 3 _ 5 6 _ (by decide +kernel) (by decide +kernel) (by simp) s5 (by decide +kernel),
    step 2 _ 6 7 _ (by decide +kernel) (by decide +kernel) (by simp) s6 (by decide +kernel), step 1 _ 7 8 _ (by decide +kernel) (by decide +kernel) (by simp) s7 (by decide +kernel)]
  rw [val_Bytes.l0, if_neg (by decide +kernel)]
  rfl

theorem u64_i64 {c : Int} (h : U c) : IntKind.u64.wrap (wrap64 c) = c := by
  obtain ⟨h1, h2⟩ := h
  rw [IntKind.wrap_u64]
  unfold wrap64
  omega
theorem may_f {c : Int} (h : U c) (hc : cl c = c) : val_May.f 2 (wrap64 c) ⟨#[]⟩ = some true := by
  unfold val_May.f
  rw [if_pos rfl, u64_i64 h, clean_f h]
  simp only [Option.bind_some]
  rw [if_pos hc.symm, ByteArray.toList_eq]
  rfl
theorem bytes_f {c : Int} (h : U c) (hc : cl c = c) : val_Bytes.f 9 2 (wrap64 c) ⟨#[]⟩ = some (dig 8 (Hand.keyOf c), 0) := by
  unfold val_Bytes.f
  rw [may_f h hc]
  simp only [Option.bind_some, if_true]
  rw [if_neg (by decide), u64_i64 h, key_f h, hc]
  simp only [Option.bind_some]
  exact bytes_l _

theorem parts_f {a : Int} (h : U a) : ref04_Parts.f a = some (decide (a ≥ 9223372036854775808), a / 4503599627370496 % 2048, a % 4503599627370496) := by
  obtain ⟨h1, h2⟩ := h
  unfold ref04_Parts.f
  rw [Int.tdiv_eq_ediv_of_nonneg h1, IntKind.wrap_u64, Int.tmod_eq_emod_of_nonneg (by omega), Int.tmod_eq_emod_of_nonneg h1]
  congr 3
  omega
theorem isnan_f {a : Int} (h : U a) : ref04_IsNan.f a = some (decide (a % 9223372036854775808 > 9218868437227405312)) := by
  unfold ref04_IsNan.f
  rw [parts_f h]
  simp only [Option.bind_some]
  obtain ⟨h1, h2⟩ := h
  split
  · congr 1
    rw [Bool.eq_iff_iff, bne_iff_ne, decide_eq_true_iff]
    omega
  · congr 1
    symm
    rw [decide_eq_false_iff_not]
    omega
theorem rclean_f {a : Int} (h : U a) : ref04_Clean.f a = some (cl a) := by
  unfold ref04_Clean.f
  rw [isnan_f h]
  simp only [Option.bind_some, cl, decide_eq_true_iff]
  split <;> rfl
theorem rkey_f {a : Int} (h : U a) : ref04_Key.f a = some (Hand.keyOf (cl a)) := by
  have h2 := cl_U h
  unfold ref04_Key.f
  rw [rclean_f h]
  simp only [Option.bind_some]
  rw [parts_f h2]
  simp only [Option.bind_some, Hand.keyOf, decide_eq_true_iff, IntKind.wrap_u64]
  obtain ⟨h3, h4⟩ := h2
  split <;> congr 1 <;> omega
theorem rbits_f {k : Int} (h : U k) : ref04_Bits.f k = some (if k ≥ 9223372036854775808 then cl (k - 9223372036854775808) else cl (18446744073709551615 - k)) := by
  unfold ref04_Bits.f
  obtain ⟨h1, h2⟩ := h
  simp only [IntKind.wrap_u64]
  split
  · rw [show (k - 9223372036854775808) % 18446744073709551616 = k - 9223372036854775808 by omega, rclean_f ⟨by omega, by omega⟩]; rfl
  · rw [show (18446744073709551615 - k) % 18446744073709551616 = 18446744073709551615 - k by omega, rclean_f ⟨by omega, by omega⟩]; rfl


end Go.Proofs.Ythooijfdlamkkaa.Pure
