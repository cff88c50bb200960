/-
  The document's answers about columns laid down plainly, against the program's.
-/
import Derived.Test.YtjchjdbfmiibhaaRlzA
import Derived.Test.YtjchjdbfmiibhaaPRlzx20
namespace Go.Proofs.Ytjchjdbfmiibhaa.PureB
open Go.RowKit Go.Proofs.Ytjchjdbfmiibhaa.PRlz Go.Proofs.YtjchjdbfmiibhaaW.PrintWords Go.Proofs.YtjchjdbfmiibhaaW.PrintLast Go.Proofs.YtjchjdbfmiibhaaW.PrintMore
open Go.Proofs.Ytjchjdbfmiibhaa.Hand

theorem refPut_l : ∀ (m k : Nat) (n : Int) (acc : List Int), m < k → 0 ≤ n → n < 128 ^ (m + 1) → n < 18446744073709551616 → acc.length + m ≤ 9 → ref02_Put.l0 k n acc = some (acc ++ putL m n) := by
  intro m
  induction m with
  | zero =>
    intro k n acc hk h0 h1 h2 ha
    obtain ⟨k, rfl⟩ : ∃ j, k = j + 1 := ⟨k - 1, by omega⟩
    have e : (128 : Int) ^ (0 + 1) = 128 := by decide
    unfold ref02_Put.l0
    rw [if_neg (by omega), if_pos (by omega), show n % 256 = n by omega]
    rfl
  | succ m ih =>
    intro k n acc hk h0 h1 h2 ha
    obtain ⟨k, rfl⟩ : ∃ j, k = j + 1 := ⟨k - 1, by omega⟩
    unfold ref02_Put.l0 putL
    by_cases hn : n < 128
    · rw [if_neg (by omega), if_pos (by omega), if_pos hn, show n % 256 = n by omega]
    · have := pow_step (m + 1)
      have hr : 0 ≤ n % 128 ∧ n % 128 < 128 := by omega
      rw [if_pos (by omega), if_pos (by omega), if_neg hn, Int.tdiv_eq_ediv_of_nonneg h0, IntKind.wrap_u64, show n / 128 % 18446744073709551616 = n / 128 by omega, Int.tmod_eq_emod_of_nonneg h0, IntKind.wrap_u64]
      have er : (128 + n % 128) % 18446744073709551616 % 256 = n % 128 + 128 := by omega
      rw [er, ih k (n / 128) _ (by omega) (by omega) (by omega) (by omega) (by simp only [List.length_append, List.length_cons, List.length_nil]; omega)]
      simp
theorem refPut_f {n : Int} (h : 0 ≤ n ∧ n < 18446744073709551616) (k : Nat) (hk : 9 < k) : ref02_Put.f k n = some (putL 9 n) := by
  have e : (128 : Int) ^ (9 + 1) = 1180591620717411303424 := by decide
  unfold ref02_Put.f
  rw [refPut_l 9 k n [] hk h.1 (by omega) h.2 (by simp)]
  rfl
theorem refZig_f {n : Int} (h : -9223372036854775808 ≤ n ∧ n < 9223372036854775808) : ref02_Zig.f n = some (zig n) := by
  unfold ref02_Zig.f zig
  simp only [IntKind.wrap_u64]
  split
  · rw [if_neg (by omega)]
    have e1 : wrap64 (n + 1) = n + 1 := by unfold wrap64; omega
    have e2 : wrap64 (-(n + 1)) = -(n + 1) := by unfold wrap64; omega
    rw [e1, e2]
    congr 1
    omega
  · rw [if_pos (by omega)]
    congr 1
    omega
theorem refZag_f {n : Int} (h : 0 ≤ n ∧ n < 18446744073709551616) : ref02_Zag.f n = some (zag n) := by
  have e0 : (n / 2) % 18446744073709551616 = n / 2 := by omega
  have e1 : wrap64 (n / 2) = n / 2 := by unfold wrap64; omega
  have e2 : wrap64 (-(n / 2)) = -(n / 2) := by unfold wrap64; omega
  have e3 : wrap64 (-(n / 2) - 1) = -(n / 2) - 1 := by unfold wrap64; omega
  unfold ref02_Zag.f zag
  rw [Int.tmod_eq_emod_of_nonneg h.1, Int.tdiv_eq_ediv_of_nonneg h.1, IntKind.wrap_u64, e0, e1, e2, e3]
  split
  · rw [if_neg (by omega)]
  · rw [if_pos (by omega)]

/-- The number that the first n bytes are. -/
def val (l : List Int) : Nat → Int
  | 0 => 0
  | n + 1 => val l n + (l.getD n 0 % 128) * 128 ^ n
theorem val_range (l : List Int) : ∀ n, 0 ≤ val l n ∧ val l n < 128 ^ n
  | 0 => by simp [val]
  | n + 1 => by
    have h := val_range l n
    have hp := p128_pos n
    have h1 : 0 ≤ (l.getD n 0 % 128) * 128 ^ n := Int.mul_nonneg (by omega) (by omega)
    have h2 : (l.getD n 0 % 128) * 128 ^ n ≤ 127 * 128 ^ n := Int.mul_le_mul_of_nonneg_right (by omega) (by omega)
    rw [pow_step]
    simp only [val]
    omega

/-- The document's sum, from the last byte on. -/
theorem refSum_l (l : List Int) (hb : Bs l) (hl : l.length ≤ 140737488351232) (s : Nat) (hs : s < l.length) (V : Int) (hV : V < 18446744073709551616) :
    ∀ (n k : Nat) (acc : Int), n < k → n ≤ s + 1 → 0 ≤ acc → acc * 128 ^ n + val l n = V → ref02_Get.l1 k l (s : Int) acc ((n : Int) - 1) = some (V, (s : Int) + 1, 0) := by
  intro n
  induction n with
  | zero =>
    intro k acc hk hn h0 hv
    obtain ⟨k, rfl⟩ : ∃ j, k = j + 1 := ⟨k - 1, by omega⟩
    unfold ref02_Get.l1
    rw [if_neg (by omega), show wrap64 ((s : Int) + 1) = (s : Int) + 1 by unfold wrap64; omega]
    simp [val] at hv
    rw [hv]
  | succ n ih =>
    intro k acc hk hn h0 hv
    obtain ⟨k, rfl⟩ : ∃ j, k = j + 1 := ⟨k - 1, by omega⟩
    unfold ref02_Get.l1
    rw [show ((n + 1 : Nat) : Int) - 1 = n by omega, if_pos (by omega), if_pos (by omega), if_pos (by omega)]
    have er : rd l (n : Int) = l.getD n 0 := by simp [rd]
    have hr := hb.at n
    have hd : 0 ≤ l.getD n 0 % 128 ∧ l.getD n 0 % 128 < 128 := by omega
    rw [er, Int.tmod_eq_emod_of_nonneg hr.1]
    simp only [val] at hv
    rw [pow_step] at hv
    generalize l.getD n 0 % 128 = d at *
    have hp := p128_pos n
    have hv2 : (acc * 128 + d) * 128 ^ n + val l n = V := by
      rw [Int.add_mul, Int.mul_assoc, Int.mul_comm 128]
      omega
    have hq : acc * 128 + d ≤ (acc * 128 + d) * 128 ^ n := by
      have := Int.mul_le_mul_of_nonneg_left (show 1 ≤ (128 : Int) ^ n by omega) (show 0 ≤ acc * 128 + d by omega)
      omega
    have hvr := (val_range l n).1
    simp only [IntKind.wrap_u64]
    rw [show acc * 128 % 18446744073709551616 = acc * 128 by omega, show d % 18446744073709551616 = d by omega, show (acc * 128 + d) % 18446744073709551616 = acc * 128 + d by omega,
      show wrap64 ((n : Int) - 1) = (n : Int) - 1 by unfold wrap64; omega]
    exact ih k _ (by omega) (by omega) (by omega) hv2

theorem numGo_at (l : List Int) (i : Nat) (hi : i < l.length) (m : Int) : numGo (l.drop i) i m = if (i = 9 ∧ 1 < l.getD i 0) ∨ (0 < i ∧ l.getD i 0 = 0) then .inl 4 else
      if l.getD i 0 < 128 then .inr (m + l.getD i 0 * 128 ^ i, l.drop (i + 1)) else numGo (l.drop (i + 1)) (i + 1) (m + (l.getD i 0 - 128) * 128 ^ i) := by
  rw [List.drop_eq_getElem_cons hi, numGo_cons]
  have e : l.getD i 0 = l[i] := by simp [List.getD_eq_getElem?_getD, hi]
  rw [e]

def outOf (l : List Int) : Int ⊕ (Int × List Int) → Int × Int × Int
  | .inl e => (0, 0, e)
  | .inr (n, t) => (n, (l.length : Int) - (t.length : Int), 0)

/-- Where the document's scan stands still. -/
theorem refEnd (l : List Int) (hb : Bs l) (hl : l.length ≤ 140737488351232) (i k : Nat) (hk : i + 3 < k) (hi : i ≤ l.length) (h9 : i ≤ 9) (hstop : i < l.length → i < 9 → l.getD i 0 < 128) :
    ref02_Get.j1 k l (i : Int) = some (outOf l (numGo (l.drop i) i (val l i))) := by
  obtain ⟨k, rfl⟩ : ∃ j, k = j + 1 := ⟨k - 1, by omega⟩
  unfold ref02_Get.j1
  dsimp only
  have er : rd l (i : Int) = l.getD i 0 := by simp [rd]
  have er9 : i = 9 → rd l 9 = l.getD i 0 := fun h => by subst h; simp [rd]
  have hr := hb.at i
  by_cases he : i = l.length
  · rw [if_pos (by omega), List.drop_of_length_le (by omega)]
    rfl
  · have hlt : i < l.length := by omega
    have hs := hstop hlt
    have hn := numGo_at l i hlt (val l i)
    rw [if_neg (by omega), er]
    have hgo : ∀ (b : Bool), b = decide ((i = 9 ∧ 1 < l.getD i 0) ∨ (0 < i ∧ l.getD i 0 = 0)) → ref02_Get.j2 k l (i : Int) b = some (outOf l (numGo (l.drop i) i (val l i))) := by
      intro b hbb
      obtain ⟨k, rfl⟩ : ∃ j, k = j + 1 := ⟨k - 1, by omega⟩
      unfold ref02_Get.j2
      dsimp only
      rw [hn]
      by_cases hc : (i = 9 ∧ 1 < l.getD i 0) ∨ (0 < i ∧ l.getD i 0 = 0)
      · rw [if_pos (by rw [hbb]; exact decide_eq_true hc), if_pos hc]
        rfl
      · rw [if_neg (by rw [hbb]; simpa using hc), if_neg hc, if_pos (by omega)]
        have hv := val_range l i
        have e128 : l.getD i 0 % 128 = l.getD i 0 := by omega
        have hV : val l (i + 1) = val l i + l.getD i 0 * 128 ^ i := by simp only [val]; rw [e128]
        have hV2 : val l (i + 1) < 18446744073709551616 := by
          rw [hV]
          have h1 := part_bound i (l.getD i 0) h9 hr.1 (by omega) (by omega)
          omega
        have := refSum_l l hb hl i hlt (val l (i + 1)) hV2 (i + 1) k 0 (by omega) (by omega) (by omega) (by simp)
        rw [show ((i + 1 : Nat) : Int) - 1 = i by omega] at this
        rw [this, hV]
        simp only [outOf, List.length_drop]
        congr 3
        omega
    by_cases h : i = 9
    · have hi9 : (i : Int) = 9 := by omega
      have e9 := er9 h
      rw [if_pos hi9, if_pos (by omega), e9]
      by_cases h1 : l.getD i 0 > 1
      · rw [if_pos h1]
        exact hgo true (by symm; rw [decide_eq_true_iff]; exact .inl ⟨h, h1⟩)
      · rw [if_neg h1, if_pos (by omega), if_pos (by omega), if_pos (by omega)]
        exact hgo _ (by rw [Bool.eq_iff_iff, decide_eq_true_iff, beq_iff_eq]; omega)
    · rw [if_neg (by omega)]
      by_cases h0 : (i : Int) > 0
      · rw [if_pos h0, if_pos (by omega), if_pos (by omega)]
        exact hgo _ (by rw [Bool.eq_iff_iff, decide_eq_true_iff, beq_iff_eq]; omega)
      · rw [if_neg h0]
        exact hgo false (by symm; rw [decide_eq_false_iff_not]; omega)

theorem refGet_l (l : List Int) (hb : Bs l) (hl : l.length ≤ 140737488351232) : ∀ (j k i : Nat), i + j = 9 → 20 + j < k → i ≤ l.length → ref02_Get.l0 k l (i : Int) = some (outOf l (numGo (l.drop i) i (val l i))) := by
  intro j
  induction j with
  | zero =>
    intro k i hi hk hle
    obtain ⟨k, rfl⟩ : ∃ j, k = j + 1 := ⟨k - 1, by omega⟩
    have hend := refEnd l hb hl i k (by omega) hle (by omega) (by omega)
    unfold ref02_Get.l0
    split
    · rw [if_neg (by omega)]
      exact hend
    · exact hend
  | succ j ih =>
    intro k i hi hk hle
    obtain ⟨k, rfl⟩ : ∃ j, k = j + 1 := ⟨k - 1, by omega⟩
    have er : rd l (i : Int) = l.getD i 0 := by simp [rd]
    have hr := hb.at i
    unfold ref02_Get.l0
    rw [er]
    by_cases hlt : i < l.length
    · rw [if_pos (by omega), if_pos (by omega), if_pos (by omega)]
      by_cases h128 : l.getD i 0 ≥ 128
      · have ih2 := ih k (i + 1) (by omega) (by omega) (by omega)
        have hn := numGo_at l i hlt (val l i)
        rw [if_neg (by omega), if_neg (by omega)] at hn
        have hV : val l (i + 1) = val l i + (l.getD i 0 - 128) * 128 ^ i := by simp only [val]; rw [show l.getD i 0 % 128 = l.getD i 0 - 128 by omega]
        rw [hV, ← hn] at ih2
        rw [if_pos h128, if_neg (show ¬ (l.getD i 0 = 0) by omega), show wrap64 ((i : Int) + 1) = ((i + 1 : Nat) : Int) by unfold wrap64; omega, ih2]
        split <;> rfl
      · rw [if_neg h128]
        exact refEnd l hb hl i k (by omega) hle (by omega) (by omega)
    · rw [if_neg (by omega)]
      exact refEnd l hb hl i k (by omega) hle (by omega) (by omega)
theorem refGet_f {l : List Int} (hb : Bs l) (hl : l.length ≤ 140737488351232) (k : Nat) (hk : 29 < k) : ref02_Get.f k l = some (getOut l) := by
  unfold ref02_Get.f
  rw [show (0 : Int) = ((0 : Nat) : Int) from rfl, refGet_l l hb hl 9 k 0 rfl hk (by omega)]
  simp only [List.drop_zero, val, getOut]
  generalize numGo l 0 0 = o
  rcases o with e | ⟨n, t⟩ <;> rfl
theorem get_f {l : List Int} (hb : Bs l) : leb_Get.f l = some (getOut l) := if_pos hb



theorem p256 (n : Nat) : 0 < (256 : Int) ^ n := Int.pow_pos (by decide)

theorem parts_f {a : Int} (h : U a) : ref04_Parts.f a = some (decide (a ≥ 9223372036854775808), a / 4503599627370496 % 2048, a % 4503599627370496) := by
  obtain ⟨h1, h2⟩ := h
  unfold ref04_Parts.f
  rw [Int.tdiv_eq_ediv_of_nonneg h1, IntKind.wrap_u64, Int.tmod_eq_emod_of_nonneg (by omega), Int.tmod_eq_emod_of_nonneg h1]
  congr 3
  omega
theorem isnan_f {a : Int} (h : U a) : ref04_IsNan.f a = some (decide (a % 9223372036854775808 > 9218868437227405312)) := by
  unfold ref04_IsNan.f
  rw [parts_f h]
  simp only [Option.bind_some]
  obtain ⟨h1, h2⟩ := h
  split
  · congr 1
    rw [Bool.eq_iff_iff, bne_iff_ne, decide_eq_true_iff]
    omega
  · congr 1
    symm
    rw [decide_eq_false_iff_not]
    omega
theorem rclean_f {a : Int} (h : U a) : ref04_Clean.f a = some (cl a) := by
  unfold ref04_Clean.f
  rw [isnan_f h]
  simp only [Option.bind_some, cl, decide_eq_true_iff]
  split <;> rfl
theorem rkey_f {a : Int} (h : U a) : ref04_Key.f a = some (Hand.keyOf (cl a)) := by
  have h2 := cl_U h
  unfold ref04_Key.f
  rw [rclean_f h]
  simp only [Option.bind_some]
  rw [parts_f h2]
  simp only [Option.bind_some, Hand.keyOf, decide_eq_true_iff, IntKind.wrap_u64]
  obtain ⟨h3, h4⟩ := h2
  split <;> congr 1 <;> omega
theorem rbits_f {k : Int} (h : U k) : ref04_Bits.f k = some (if k ≥ 9223372036854775808 then cl (k - 9223372036854775808) else cl (18446744073709551615 - k)) := by
  unfold ref04_Bits.f
  obtain ⟨h1, h2⟩ := h
  simp only [IntKind.wrap_u64]
  split
  · rw [show (k - 9223372036854775808) % 18446744073709551616 = k - 9223372036854775808 by omega, rclean_f ⟨by omega, by omega⟩]; rfl
  · rw [show (18446744073709551615 - k) % 18446744073709551616 = 18446744073709551615 - k by omega, rclean_f ⟨by omega, by omega⟩]; rfl



theorem may_eq (k i : Int) (s : ByteArray) : ∃ b, val_May.f k i s = some b ∧ ref05_May.f k i s = some b := by
  unfold val_May.f ref05_May.f
  by_cases h2 : k = 2
  · subst h2
    rw [if_pos rfl, if_neg (by decide), if_neg (by decide), if_pos rfl, clean_f (u64_U i), rclean_f (u64_U i)]
    simp only [Option.bind_some]
    by_cases hs : s.toList = ([] : List UInt8)
    · rw [if_pos hs, hs]
      by_cases hc : IntKind.u64.wrap i = cl (IntKind.u64.wrap i)
      · rw [if_pos hc]
        exact ⟨_, rfl, by rw [← hc]; simp⟩
      · rw [if_neg hc]
        exact ⟨_, rfl, by congr 1; rw [beq_eq_false_iff_ne]; exact fun h => hc h.symm⟩
    · rw [if_neg hs]
      split
      · exact ⟨_, rfl, by congr 1; symm; rw [beq_eq_false_iff_ne]; exact hs⟩
      · exact ⟨_, rfl, rfl⟩
  · rw [if_neg h2]
    by_cases h1 : k = 1
    · subst h1
      rw [if_pos rfl, if_neg (by decide), if_pos rfl]
      exact ⟨_, rfl, rfl⟩
    · rw [if_neg h1]
      by_cases h3 : k = 3
      · subst h3
        rw [if_pos (show (3 : Int) = 3 from rfl), if_neg (show ¬ ((3 : Int) = 0) by decide), if_neg (show ¬ ((3 : Int) = 1) by decide), if_neg (show ¬ ((3 : Int) = 2) by decide)]
        by_cases hi : i = 0
        · rw [if_pos hi]
          exact ⟨_, rfl, by rw [if_pos rfl]⟩
        · rw [if_neg hi]
          exact ⟨_, rfl, by rw [if_pos rfl]⟩
      · rw [if_neg h3]
        by_cases h0 : k = 0
        · subst h0
          rw [if_pos rfl, if_pos rfl]
          by_cases hi : i = 0
          · rw [if_pos hi]
            exact ⟨_, rfl, by rw [hi]; simp⟩
          · rw [if_neg hi]
            exact ⟨_, rfl, by congr 1; simp [hi]⟩
        · rw [if_neg h0, if_neg h0, if_neg h1, if_neg h2, if_neg h3]
          exact ⟨_, rfl, rfl⟩


theorem rvb_l (K : Int) (hK : U K) : ref05_Bytes.l0 9 K (List.replicate 8 0) 7 = some (dig 8 K, 0) := by
  obtain ⟨h1, h2⟩ := hK
  have step : ∀ (k : Nat) (x : Int) (l : List Int) (n m : Int), 0 ≤ x → x < 18446744073709551616 → 0 ≤ n → n < l.length → wrap64 (n - 1) = m →
      ref05_Bytes.l0 (k + 1) x l n = ref05_Bytes.l0 k (x / 256) (l.set n.toNat (x % 256)) m := by
    intro k x l n m hx0 hx1 hn0 hn1 hm
    have e1 : IntKind.u64.wrap (Int.tdiv x 256) = x / 256 := by rw [Int.tdiv_eq_ediv_of_nonneg hx0, IntKind.wrap_u64]; omega
    have e2 : Int.tmod x 256 % 256 = x % 256 := by rw [Int.tmod_eq_emod_of_nonneg hx0]; omega
    rw [ref05_Bytes.l0, if_pos (by omega), if_pos hn0, if_pos hn1, e1, e2, hm]
  have d : ∀ n, K / 256 ^ n / 256 = K / 256 ^ (n + 1) := by
    intro n
    rw [Int.pow_succ, Int.ediv_ediv_of_nonneg (Int.le_of_lt (p256 n))]
  have b : ∀ n, 0 ≤ K / 256 ^ n ∧ K / 256 ^ n < 18446744073709551616 := by
    intro n
    have hp := p256 n
    exact ⟨Int.ediv_nonneg h1 (by omega), Int.lt_of_le_of_lt (Int.ediv_le_self _ h1) h2⟩
  have d0 : K = K / 256 ^ 0 := by simp
  conv => lhs; rw [d0]
  rw [show (List.replicate 8 (0 : Int)) = [0, 0, 0, 0, 0, 0, 0, 0] from rfl]
  rw [step 8 _ _ 7 6 (b 0).1 (b 0).2 (by decide) (by decide) (by decide +kernel), d 0, step 7 _ _ 6 5 (b 1).1 (b 1).2 (by decide) (by simp) (by decide +kernel), d 1,
    step 6 _ _ 5 4 (b 2).1 (b 2).2 (by decide) (by simp) (by decide +kernel), d 2, step 5 _ _ 4 3 (b 3).1 (b 3).2 (by decide) (by simp) (by decide +kernel), d 3,
    step 4 _ _ 3 2 (b 4).1 (b 4).2 (by decide) (by simp) (by decide +kernel), d 4, step 3 _ _ 2 1 (b 5).1 (b 5).2 (by decide) (by simp) (by decide +kernel), d 5,
    step 2 _ _ 1 0 (b 6).1 (b 6).2 (by decide) (by simp) (by decide +kernel), d 6, step 1 _ _ 0 (-1) (b 7).1 (b 7).2 (by decide) (by simp) (by decide +kernel), ref05_Bytes.l0, if_neg (by decide)]
  rfl
theorem rmore_l (K : Int) (hK : U K) : ∀ j, ref05_Bytes.l0 (9 + j) K (List.replicate 8 0) 7 = some (dig 8 K, 0)
  | 0 => rvb_l K hK
  | j + 1 => (ref05_Bytes.mono_l (9 + j)) _ _ _ _ (rmore_l K hK j)


theorem text_eq (s : ByteArray) (h : s.size ≤ 140737488351232) : leb_Text.f s = some (putL 9 (s.size : Int) ++ bytesOf s) ∧ ref02_Text.f 40 s = some (putL 9 (s.size : Int) ++ bytesOf s) := by
  have h2 : (0 : Int) ≤ s.size ∧ (s.size : Int) < 18446744073709551616 := by omega
  have hw : IntKind.u64.wrap (s.size : Int) = s.size := by rw [IntKind.wrap_u64]; omega
  have := putL9_len (n := (s.size : Int))
  unfold leb_Text.f ref02_Text.f leb_Put.f
  rw [hw, lebPut_eq h2, refPut_f h2 40 (by omega)]
  simp only [Option.bind_some]
  rw [if_pos (by omega)]
  exact ⟨rfl, rfl⟩


theorem bytes_eq (k i : Int) (s : ByteArray) (hi : -9223372036854775808 ≤ i ∧ i < 9223372036854775808) (hs : s.size ≤ 140737488351232) : ∃ r, val_Bytes.f 40 k i s = some r ∧ ref05_Bytes.f 40 k i s = some r := by
  obtain ⟨b, h1, h2⟩ := may_eq k i s
  unfold val_Bytes.f ref05_Bytes.f
  rw [h1, h2]
  simp only [Option.bind_some]
  cases b with
  | false => exact ⟨_, rfl, rfl⟩
  | true =>
    rw [if_pos rfl, if_pos rfl]
    by_cases k1 : k = 1
    · rw [if_pos k1, if_pos k1]
      unfold leb_Zig.f leb_Put.f
      rw [lebZig_eq hi, refZig_f hi]
      simp only [Option.bind_some]
      rw [lebPut_eq (zig_range hi), refPut_f (zig_range hi) 40 (by omega)]
      exact ⟨_, rfl, rfl⟩
    · rw [if_neg k1, if_neg k1]
      by_cases k2 : k = 2
      · rw [if_pos k2, if_pos k2, key_f (u64_U i), rkey_f (u64_U i)]
        simp only [Option.bind_some]
        rw [if_pos (by decide), more_l _ 31, rmore_l _ (key_U (cl_U (u64_U i))) 31]
        exact ⟨_, rfl, rfl⟩
      · rw [if_neg k2, if_neg k2]
        split
        · rw [(text_eq s hs).1, (text_eq s hs).2]
          exact ⟨_, rfl, rfl⟩
        · exact ⟨_, rfl, rfl⟩


theorem rfloat_l (l : List Int) (hB : Bs l) (hl : l.length ≤ 140737488351232) (h8 : 8 ≤ l.length) : ∀ (j k i : Nat) (x : Int), i + j = 8 → j < k → U x →
    ∃ r, val_float.l0 k l x (l.take 8) ((l.take 8).length : Int) (i : Int) = some r ∧ ref05_Of.l0 k l x (i : Int) = some r := by
  have hlen : (l.take 8).length = 8 := by rw [List.length_take]; omega
  rw [hlen]
  intro j
  induction j with
  | zero =>
    intro k i x hi hk hx
    obtain ⟨k, rfl⟩ : ∃ j, k = j + 1 := ⟨k - 1, by omega⟩
    obtain rfl : i = 8 := by omega
    rw [val_float.l0, ref05_Of.l0, if_neg (by omega), if_neg (by omega), bits_f hx, rbits_f hx]
    simp only [Option.bind_some]
    have hU : U (if x ≥ 9223372036854775808 then cl (x - 9223372036854775808) else cl (18446744073709551615 - x)) := by
      obtain ⟨h1, h2⟩ := hx
      split
      · exact cl_U ⟨by omega, by omega⟩
      · exact cl_U ⟨by omega, by omega⟩
    generalize (if x ≥ 9223372036854775808 then cl (x - 9223372036854775808) else cl (18446744073709551615 - x)) = B at *
    rw [key_f hU, rkey_f hU]
    simp only [Option.bind_some]
    split
    · rw [if_pos (by omega), if_pos (by simp; omega), if_pos (by omega)]
      exact ⟨_, rfl, rfl⟩
    · exact ⟨_, rfl, rfl⟩
  | succ j ih =>
    intro k i x hi hk hx
    obtain ⟨k, rfl⟩ : ∃ j, k = j + 1 := ⟨k - 1, by omega⟩
    have er : rd (l.take 8) (i : Int) = l.getD i 0 := by
      simp only [rd, Int.toNat_natCast, List.getD_eq_getElem?_getD]
      rw [List.getElem?_take_of_lt (by omega)]
    have er2 : rd l (i : Int) = l.getD i 0 := by simp [rd]
    rw [val_float.l0, ref05_Of.l0, if_pos (by omega), if_pos (by omega), if_pos (by rw [hlen]; omega), if_pos (by omega), if_pos (by omega), if_pos (by omega), er, er2, or_low _ _ (hB.at i),
      show wrap64 ((i : Int) + 1) = ((i + 1 : Nat) : Int) by unfold wrap64; omega]
    exact ih k (i + 1) _ (by omega) (by omega) (u64_U _)


theorem toText_eq (l : List Int) (hB : Bs l) (hl : l.length ≤ 140737488351232) : leb_ToText.f l 1024 = some (toTextOut l 1024) ∧ ref02_ToText.f 40 l 1024 = some (toTextOut l 1024) := by
  constructor
  · unfold leb_ToText.f lebToText
    rw [if_pos ⟨hB, by omega, by omega, by omega⟩]
  · unfold ref02_ToText.f
    rw [refGet_f hB hl 40 (by omega)]
    simp only [Option.bind_some]
    have hr := fun (n : Int) (t : List Int) => rest_of (l := l) (n := n) (t := t) hB
    have hn := numGo_range l 0 0
    have h4 : ∀ e, numGo l 0 0 = .inl e → e ≠ 0 := by
      have : ∀ (l : List Int) (i : Nat) (m e : Int), numGo l i m = .inl e → e ≠ 0 := by
        intro l
        induction l with
        | nil => intro i m e h; simp [numGo] at h; omega
        | cons c l ih =>
          intro i m e h
          simp only [numGo] at h
          split at h
          · injection h with h; omega
          · split at h
            · cases h
            · exact ih _ _ _ h
      exact this l 0 0
    unfold getOut toTextOut
    generalize numGo l 0 0 = o at *
    rcases o with e | ⟨n, t⟩
    · have := h4 e rfl
      simp only
      rw [if_neg this]
    · obtain ⟨r1, r2⟩ := hr _ _ rfl
      obtain ⟨n1, n2⟩ := hn n t hB (by omega) (by omega) (by decide) rfl
      simp only
      rw [if_pos trivial, if_neg (by decide), IntKind.wrap_u64, ref02_ToText.j0]
      by_cases hm : n > 1024
      · rw [if_pos (by rw [decide_eq_true_iff]; omega), if_pos (by omega)]
      · have hw1 : wrap64 ((l.length : Int) - ((l.length : Int) - (t.length : Int))) = t.length := by unfold wrap64; omega
        have hw2 : wrap64 n = n := by unfold wrap64; omega
        have hR : ¬ ((1024 : Int) < 0 ∨ 1024 < n) := by omega
        have hD : ¬ (decide (n > (1024 : Int) % 18446744073709551616) = true) := by rw [decide_eq_true_iff]; omega
        rw [if_neg hD, if_neg hR, hw1, IntKind.wrap_u64, hw2]
        by_cases ht : (t.length : Int) < n
        · rw [if_pos (show n > (t.length : Int) % 18446744073709551616 by omega), if_pos ht]
        · have hw3 : wrap64 ((l.length : Int) - (t.length : Int) + n) = (l.length : Int) - (t.length : Int) + n := by unfold wrap64; omega
          have hT : ¬ (n > (t.length : Int) % 18446744073709551616) := by omega
          rw [if_neg hT, if_neg ht, hw3, if_pos (by omega), if_pos (by omega), if_pos (by omega), if_pos (by omega)]
          have e1 : ((l.length : Int) - (t.length : Int) + n).toNat = (l.length - t.length) + n.toNat := by omega
          have e2 : ((l.length : Int) - (t.length : Int)).toNat = l.length - t.length := by omega
          rw [e1, e2, ← List.drop_drop, ← r2, List.drop_take, show l.length - t.length + n.toNat - (l.length - t.length) = n.toNat by omega, ← r2]

theorem of_eq (l : List Int) (k : Int) (hB : Bs l) (hl : l.length ≤ 140737488351232) : ∃ r, val_Of.f 40 l k = some r ∧ ref05_Of.f 40 l k = some r := by
  unfold val_Of.f ref05_Of.f
  by_cases k0 : k = 0
  · rw [if_pos k0, if_pos k0]
    simp only [Option.bind_some]
    rw [if_pos (by simp; omega)]
    exact ⟨_, rfl, rfl⟩
  · rw [if_neg k0, if_neg k0]
    by_cases k1 : k = 1
    · rw [if_pos k1, if_pos k1, get_f hB, refGet_f hB hl 40 (by omega)]
      simp only [Option.bind_some]
      have hr := fun (n : Int) (t : List Int) => rest_of (l := l) (n := n) (t := t) hB
      have hn := numGo_range l 0 0
      unfold getOut
      generalize numGo l 0 0 = o at *
      rcases o with e | ⟨n, t⟩
      · simp only
        split
        · unfold leb_Zag.f
          rw [lebZag_eq ⟨by omega, by omega⟩, refZag_f ⟨by omega, by omega⟩]
          simp only [Option.bind_some]
          rw [if_pos (by omega), if_pos (by omega), if_pos (by simp; omega), if_pos (by omega), if_pos (by omega)]
          exact ⟨_, rfl, rfl⟩
        · exact ⟨_, rfl, rfl⟩
      · obtain ⟨r1, _⟩ := hr _ _ rfl
        have hnr := hn n t hB (by omega) (by omega) (by decide) rfl
        simp only
        rw [if_pos trivial, if_pos trivial]
        unfold leb_Zag.f
        rw [lebZag_eq hnr, refZag_f hnr]
        simp only [Option.bind_some]
        rw [if_pos (by omega), if_pos (by omega), if_pos (by simp; omega), if_pos (by omega), if_pos (by omega)]
        exact ⟨_, rfl, rfl⟩
    · rw [if_neg k1, if_neg k1]
      by_cases k2 : k = 2
      · rw [if_pos k2, if_pos k2]
        unfold val_float.f
        by_cases h8 : (l.length : Int) < 8
        · rw [if_pos h8, if_pos h8]
          exact ⟨_, rfl, rfl⟩
        · rw [if_neg h8, if_neg h8, if_pos (by omega)]
          obtain ⟨r, q1, q2⟩ := rfloat_l l hB hl (by omega) 8 40 0 0 rfl (by omega) ⟨by omega, by omega⟩
          rw [show ((0 : Nat) : Int) = 0 from rfl] at q1 q2
          rw [q1, q2]
          exact ⟨_, rfl, rfl⟩
      · rw [if_neg k2, if_neg k2]
        split
        · rw [(toText_eq l hB hl).1, (toText_eq l hB hl).2]
          simp only [Option.bind_some]
          split
          · exact ⟨_, rfl, rfl⟩
          · exact ⟨_, rfl, rfl⟩
        · exact ⟨_, rfl, rfl⟩


end Go.Proofs.Ytjchjdbfmiibhaa.PureB
