/-
  Any numbers' bytes, any text's, and any bytes as so many numbers, or as a text, are the document's, or refused: where all is of bulk at most 1048576. (LebLists)
-/
import Derived.Test.YtkjlimmdgnahgaaULebLists
import Derived.Test.YtkjlimmdgnahgaaLebA
namespace Go.Proofs.Ytkjlimmdgnahgaa.Pure
open Go.RowKit Go.Proofs.Ytkjlimmdgnahgaa.PLls Go.Proofs.YtkjlimmdgnahgaaW.PrintWords Go.Proofs.YtkjlimmdgnahgaaW.PrintLast Go.Proofs.Ytkjlimmdgnahgaa.Hand

theorem same_l (l : List Int) (hb : l.length ≤ 9223372036854775000) : ∀ (j k i : Nat), j = l.length - i → i ≤ l.length → j < k → ref02_Same.l0 k l l (i : Int) = some true := by
  intro j
  induction j with
  | zero =>
    intro k i hj hi hk
    obtain ⟨k, rfl⟩ : ∃ j, k = j + 1 := ⟨k - 1, by omega⟩
    unfold ref02_Same.l0
    rw [if_neg (by omega)]
  | succ j ih =>
    intro k i hj hi hk
    obtain ⟨k, rfl⟩ : ∃ j, k = j + 1 := ⟨k - 1, by omega⟩
    unfold ref02_Same.l0
    rw [if_pos (by omega), if_pos (by omega), if_pos (by omega), if_pos rfl, show wrap64 ((i : Int) + 1) = ((i + 1 : Nat) : Int) by unfold wrap64; omega]
    exact ih k (i + 1) (by omega) (by omega) (by omega)
theorem same_f (l : List Int) (hb : l.length ≤ 9223372036854775000) (k : Nat) (hk : l.length < k) : ref02_Same.f k l l = some true := by
  unfold ref02_Same.f
  rw [if_pos rfl]
  exact same_l l hb l.length k 0 (by omega) (by omega) hk

theorem ints_l (l : List Int) (hl : I64s l) (hb : l.length ≤ 14073748835532) : ∀ (j k : Nat) (acc : List Int) (i : Nat), j = l.length - i → i ≤ l.length → j < k → acc.length ≤ 10 * i →
    leb_Ints.l0 k acc l (l.length : Int) (i : Int) = some (acc ++ intsL (l.drop i)) := by
  intro j
  induction j with
  | zero =>
    intro k acc i hj hi hk _
    obtain ⟨k, rfl⟩ : ∃ j, k = j + 1 := ⟨k - 1, by omega⟩
    unfold leb_Ints.l0
    rw [if_neg (by omega), List.drop_of_length_le (by omega)]
    simp [intsL]
  | succ j ih =>
    intro k acc i hj hi hk ha
    obtain ⟨k, rfl⟩ : ∃ j, k = j + 1 := ⟨k - 1, by omega⟩
    unfold leb_Ints.l0
    rw [if_pos (by omega), if_pos (by omega), if_pos (by omega)]
    have hlt : i < l.length := by omega
    have er : rd l (i : Int) = l[i] := by simp [rd, List.getD_eq_getElem?_getD, hlt]
    have hr := hl l[i] (List.getElem_mem hlt)
    unfold leb_Zig.f leb_Put.f
    rw [er, lebZig_eq hr]
    simp only [Option.bind_some]
    rw [lebPut_eq (zig_range hr)]
    simp only [Option.bind_some]
    have h10 := putL9_len (n := zig l[i])
    rw [if_pos (by omega), show wrap64 ((i : Int) + 1) = ((i + 1 : Nat) : Int) by unfold wrap64; omega,
      ih k _ (i + 1) (by omega) (by omega) (by omega) (by simp only [List.length_append]; omega), List.drop_eq_getElem_cons hlt]
    simp [intsL]
theorem ints_f (l : List Int) (hl : I64s l) (hb : l.length ≤ 14073748835532) (k : Nat) (hk : l.length < k) : leb_Ints.f k l = some (intsL l) := by
  unfold leb_Ints.f
  have := ints_l l hl hb l.length k [] 0 (by omega) (by omega) hk (by simp)
  simpa using this

theorem refPut_l : ∀ (m k : Nat) (n : Int) (acc : List Int), m < k → 0 ≤ n → n < 128 ^ (m + 1) → n < 18446744073709551616 → acc.length + m ≤ 9 → ref02_Put.l0 k n acc = some (acc ++ putL m n) := by
  intro m
  induction m with
  | zero =>
    intro k n acc hk h0 h1 h2 ha
    obtain ⟨k, rfl⟩ : ∃ j, k = j + 1 := ⟨k - 1, by omega⟩
    have e : (128 : Int) ^ (0 + 1) = 128 := by decide
    unfold ref02_Put.l0
    rw [if_neg (by omega), if_pos (by omega), show n % 256 = n by omega]
    rfl
  | succ m ih =>
    intro k n acc hk h0 h1 h2 ha
    obtain ⟨k, rfl⟩ : ∃ j, k = j + 1 := ⟨k - 1, by omega⟩
    unfold ref02_Put.l0 putL
    by_cases hn : n < 128
    · rw [if_neg (by omega), if_pos (by omega), if_pos hn, show n % 256 = n by omega]
    · have := pow_step (m + 1)
      have hr : 0 ≤ n % 128 ∧ n % 128 < 128 := by omega
      rw [if_pos (by omega), if_pos (by omega), if_neg hn, Int.tdiv_eq_ediv_of_nonneg h0, IntKind.wrap_u64, show n / 128 % 18446744073709551616 = n / 128 by omega, Int.tmod_eq_emod_of_nonneg h0, IntKind.wrap_u64]
      have er : (128 + n % 128) % 18446744073709551616 % 256 = n % 128 + 128 := by omega
      rw [er, ih k (n / 128) _ (by omega) (by omega) (by omega) (by omega) (by simp only [List.length_append, List.length_cons, List.length_nil]; omega)]
      simp
theorem refPut_f {n : Int} (h : 0 ≤ n ∧ n < 18446744073709551616) (k : Nat) (hk : 9 < k) : ref02_Put.f k n = some (putL 9 n) := by
  have e : (128 : Int) ^ (9 + 1) = 1180591620717411303424 := by decide
  unfold ref02_Put.f
  rw [refPut_l 9 k n [] hk h.1 (by omega) h.2 (by simp)]
  rfl
theorem refZig_f {n : Int} (h : -9223372036854775808 ≤ n ∧ n < 9223372036854775808) : ref02_Zig.f n = some (zig n) := by
  unfold ref02_Zig.f zig
  simp only [IntKind.wrap_u64]
  split
  · rw [if_neg (by omega)]
    have e1 : wrap64 (n + 1) = n + 1 := by unfold wrap64; omega
    have e2 : wrap64 (-(n + 1)) = -(n + 1) := by unfold wrap64; omega
    rw [e1, e2]
    congr 1
    omega
  · rw [if_pos (by omega)]
    congr 1
    omega
theorem refZag_f {n : Int} (h : 0 ≤ n ∧ n < 18446744073709551616) : ref02_Zag.f n = some (zag n) := by
  have e0 : (n / 2) % 18446744073709551616 = n / 2 := by omega
  have e1 : wrap64 (n / 2) = n / 2 := by unfold wrap64; omega
  have e2 : wrap64 (-(n / 2)) = -(n / 2) := by unfold wrap64; omega
  have e3 : wrap64 (-(n / 2) - 1) = -(n / 2) - 1 := by unfold wrap64; omega
  unfold ref02_Zag.f zag
  rw [Int.tmod_eq_emod_of_nonneg h.1, Int.tdiv_eq_ediv_of_nonneg h.1, IntKind.wrap_u64, e0, e1, e2, e3]
  split
  · rw [if_neg (by omega)]
  · rw [if_pos (by omega)]

/-- The number that the first n bytes are. -/
def val (l : List Int) : Nat → Int
  | 0 => 0
  | n + 1 => val l n + (l.getD n 0 % 128) * 128 ^ n
theorem val_range (l : List Int) : ∀ n, 0 ≤ val l n ∧ val l n < 128 ^ n
  | 0 => by simp [val]
  | n + 1 => by
    have h := val_range l n
    have hp := p128_pos n
    have h1 : 0 ≤ (l.getD n 0 % 128) * 128 ^ n := Int.mul_nonneg (by omega) (by omega)
    have h2 : (l.getD n 0 % 128) * 128 ^ n ≤ 127 * 128 ^ n := Int.mul_le_mul_of_nonneg_right (by omega) (by omega)
    rw [pow_step]
    simp only [val]
    omega
def Bs (l : List Int) : Prop := ∀ x ∈ l, 0 ≤ x ∧ x < 256
theorem Bs.at {l : List Int} (h : Bs l) (i : Nat) : 0 ≤ l.getD i 0 ∧ l.getD i 0 < 256 := by
  rcases Nat.lt_or_ge i l.length with hi | hi
  · rw [List.getD_eq_getElem?_getD, List.getElem?_eq_getElem hi]
    exact h _ (List.getElem_mem hi)
  · rw [List.getD_eq_getElem?_getD, List.getElem?_eq_none hi]
    simp

/-- The document's sum, from the last byte on. -/
theorem refSum_l (l : List Int) (hb : Bs l) (hl : l.length ≤ 140737488351232) (s : Nat) (hs : s < l.length) (V : Int) (hV : V < 18446744073709551616) :
    ∀ (n k : Nat) (acc : Int), n < k → n ≤ s + 1 → 0 ≤ acc → acc * 128 ^ n + val l n = V → ref02_Get.l1 k l (s : Int) acc ((n : Int) - 1) = some (V, (s : Int) + 1, 0) := by
  intro n
  induction n with
  | zero =>
    intro k acc hk hn h0 hv
    obtain ⟨k, rfl⟩ : ∃ j, k = j + 1 := ⟨k - 1, by omega⟩
    unfold ref02_Get.l1
    rw [if_neg (by omega), show wrap64 ((s : Int) + 1) = (s : Int) + 1 by unfold wrap64; omega]
    simp [val] at hv
    rw [hv]
  | succ n ih =>
    intro k acc hk hn h0 hv
    obtain ⟨k, rfl⟩ : ∃ j, k = j + 1 := ⟨k - 1, by omega⟩
    unfold ref02_Get.l1
    rw [show ((n + 1 : Nat) : Int) - 1 = n by omega, if_pos (by omega), if_pos (by omega), if_pos (by omega)]
    have er : rd l (n : Int) = l.getD n 0 := by simp [rd]
    have hr := hb.at n
    have hd : 0 ≤ l.getD n 0 % 128 ∧ l.getD n 0 % 128 < 128 := by omega
    rw [er, Int.tmod_eq_emod_of_nonneg hr.1]
    simp only [val] at hv
    rw [pow_step] at hv
    generalize l.getD n 0 % 128 = d at *
    have hp := p128_pos n
    have hv2 : (acc * 128 + d) * 128 ^ n + val l n = V := by
      rw [Int.add_mul, Int.mul_assoc, Int.mul_comm 128]
      omega
    have hq : acc * 128 + d ≤ (acc * 128 + d) * 128 ^ n := by
      have := Int.mul_le_mul_of_nonneg_left (show 1 ≤ (128 : Int) ^ n by omega) (show 0 ≤ acc * 128 + d by omega)
      omega
    have hvr := (val_range l n).1
    simp only [IntKind.wrap_u64]
    rw [show acc * 128 % 18446744073709551616 = acc * 128 by omega, show d % 18446744073709551616 = d by omega, show (acc * 128 + d) % 18446744073709551616 = acc * 128 + d by omega,
      show wrap64 ((n : Int) - 1) = (n : Int) - 1 by unfold wrap64; omega]
    exact ih k _ (by omega) (by omega) (by omega) hv2

theorem numGo_at (l : List Int) (i : Nat) (hi : i < l.length) (m : Int) : numGo (l.drop i) i m = if (i = 9 ∧ 1 < l.getD i 0) ∨ (0 < i ∧ l.getD i 0 = 0) then .inl 4 else
      if l.getD i 0 < 128 then .inr (m + l.getD i 0 * 128 ^ i, l.drop (i + 1)) else numGo (l.drop (i + 1)) (i + 1) (m + (l.getD i 0 - 128) * 128 ^ i) := by
  rw [List.drop_eq_getElem_cons hi, numGo_cons]
  have e : l.getD i 0 = l[i] := by simp [List.getD_eq_getElem?_getD, hi]
  rw [e]

def outOf (l : List Int) : Int ⊕ (Int × List Int) → Int × Int × Int
  | .inl e => (0, 0, e)
  | .inr (n, t) => (n, (l.length : Int) - (t.length : Int), 0)

/-- Where the document's scan stands still. -/
theorem refEnd (l : List Int) (hb : Bs l) (hl : l.length ≤ 140737488351232) (i k : Nat) (hk : i + 3 < k) (hi : i ≤ l.length) (h9 : i ≤ 9) (hstop : i < l.length → i < 9 → l.getD i 0 < 128) :
    ref02_Get.j1 k l (i : Int) = some (outOf l (numGo (l.drop i) i (val l i))) := by
  obtain ⟨k, rfl⟩ : ∃ j, k = j + 1 := ⟨k - 1, by omega⟩
  unfold ref02_Get.j1
  dsimp only
  have er : rd l (i : Int) = l.getD i 0 := by simp [rd]
  have er9 : i = 9 → rd l 9 = l.getD i 0 := fun h => by subst h; simp [rd]
  have hr := hb.at i
  by_cases he : i = l.length
  · rw [if_pos (by omega), List.drop_of_length_le (by omega)]
    rfl
  · have hlt : i < l.length := by omega
    have hs := hstop hlt
    have hn := numGo_at l i hlt (val l i)
    rw [if_neg (by omega), er]
    have hgo : ∀ (b : Bool), b = decide ((i = 9 ∧ 1 < l.getD i 0) ∨ (0 < i ∧ l.getD i 0 = 0)) → ref02_Get.j2 k l (i : Int) b = some (outOf l (numGo (l.drop i) i (val l i))) := by
      intro b hbb
      obtain ⟨k, rfl⟩ : ∃ j, k = j + 1 := ⟨k - 1, by omega⟩
      unfold ref02_Get.j2
      dsimp only
      rw [hn]
      by_cases hc : (i = 9 ∧ 1 < l.getD i 0) ∨ (0 < i ∧ l.getD i 0 = 0)
      · rw [if_pos (by rw [hbb]; exact decide_eq_true hc), if_pos hc]
        rfl
      · rw [if_neg (by rw [hbb]; simpa using hc), if_neg hc, if_pos (by omega)]
        have hv := val_range l i
        have e128 : l.getD i 0 % 128 = l.getD i 0 := by omega
        have hV : val l (i + 1) = val l i + l.getD i 0 * 128 ^ i := by simp only [val]; rw [e128]
        have hV2 : val l (i + 1) < 18446744073709551616 := by
          rw [hV]
          have h1 := part_bound i (l.getD i 0) h9 hr.1 (by omega) (by omega)
          omega
        have := refSum_l l hb hl i hlt (val l (i + 1)) hV2 (i + 1) k 0 (by omega) (by omega) (by omega) (by simp)
        rw [show ((i + 1 : Nat) : Int) - 1 = i by omega] at this
        rw [this, hV]
        simp only [outOf, List.length_drop]
        congr 3
        omega
    by_cases h : i = 9
    · have hi9 : (i : Int) = 9 := by omega
      have e9 := er9 h
      rw [if_pos hi9, if_pos (by omega), e9]
      by_cases h1 : l.getD i 0 > 1
      · rw [if_pos h1]
        exact hgo true (by symm; rw [decide_eq_true_iff]; exact .inl ⟨h, h1⟩)
      · rw [if_neg h1, if_pos (by omega), if_pos (by omega), if_pos (by omega)]
        exact hgo _ (by rw [Bool.eq_iff_iff, decide_eq_true_iff, beq_iff_eq]; omega)
    · rw [if_neg (by omega)]
      by_cases h0 : (i : Int) > 0
      · rw [if_pos h0, if_pos (by omega), if_pos (by omega)]
        exact hgo _ (by rw [Bool.eq_iff_iff, decide_eq_true_iff, beq_iff_eq]; omega)
      · rw [if_neg h0]
        exact hgo false (by symm; rw [decide_eq_false_iff_not]; omega)

theorem refGet_l (l : List Int) (hb : Bs l) (hl : l.length ≤ 140737488351232) : ∀ (j k i : Nat), i + j = 9 → 20 + j < k → i ≤ l.length → ref02_Get.l0 k l (i : Int) = some (outOf l (numGo (l.drop i) i (val l i))) := by
  intro j
  induction j with
  | zero =>
    intro k i hi hk hle
    obtain ⟨k, rfl⟩ : ∃ j, k = j + 1 := ⟨k - 1, by omega⟩
    have hend := refEnd l hb hl i k (by omega) hle (by omega) (by omega)
    unfold ref02_Get.l0
    split
    · rw [if_neg (by omega)]
      exact hend
    · exact hend
  | succ j ih =>
    intro k i hi hk hle
    obtain ⟨k, rfl⟩ : ∃ j, k = j + 1 := ⟨k - 1, by omega⟩
    have er : rd l (i : Int) = l.getD i 0 := by simp [rd]
    have hr := hb.at i
    unfold ref02_Get.l0
    rw [er]
    by_cases hlt : i < l.length
    · rw [if_pos (by omega), if_pos (by omega), if_pos (by omega)]
      by_cases h128 : l.getD i 0 ≥ 128
      · have ih2 := ih k (i + 1) (by omega) (by omega) (by omega)
        have hn := numGo_at l i hlt (val l i)
        rw [if_neg (by omega), if_neg (by omega)] at hn
        have hV : val l (i + 1) = val l i + (l.getD i 0 - 128) * 128 ^ i := by simp only [val]; rw [show l.getD i 0 % 128 = l.getD i 0 - 128 by omega]
        rw [hV, ← hn] at ih2
        rw [if_pos h128, if_neg (show ¬ (l.getD i 0 = 0) by omega), show wrap64 ((i : Int) + 1) = ((i + 1 : Nat) : Int) by unfold wrap64; omega, ih2]
        split <;> rfl
      · rw [if_neg h128]
        exact refEnd l hb hl i k (by omega) hle (by omega) (by omega)
    · rw [if_neg (by omega)]
      exact refEnd l hb hl i k (by omega) hle (by omega) (by omega)
theorem refGet_f {l : List Int} (hb : Bs l) (hl : l.length ≤ 140737488351232) (k : Nat) (hk : 29 < k) : ref02_Get.f k l = some (getOut l) := by
  unfold ref02_Get.f
  rw [show (0 : Int) = ((0 : Nat) : Int) from rfl, refGet_l l hb hl 9 k 0 rfl hk (by omega)]
  simp only [List.drop_zero, val, getOut]
  generalize numGo l 0 0 = o
  rcases o with e | ⟨n, t⟩ <;> rfl
theorem rest_of {l t : List Int} {n : Int} (hB : Bs l) (h : numGo l 0 0 = .inr (n, t)) : t.length ≤ l.length ∧ t = l.drop (l.length - t.length) := by
  have e := put_num0 hB h
  have hlen : l.length = (putL 9 n).length + t.length := by rw [e, List.length_append]
  refine ⟨by omega, ?_⟩
  rw [show l.length - t.length = (putL 9 n).length by omega]
  rw [e, List.drop_left']
  rfl

theorem numGo_err : ∀ (l : List Int) (i : Nat) (m e : Int), numGo l i m = .inl e → e ≠ 0 := by
  intro l
  induction l with
  | nil => intro i m e h; simp [numGo] at h; omega
  | cons c l ih =>
    intro i m e h
    simp only [numGo] at h
    split at h
    · injection h with h; omega
    · split at h
      · cases h
      · exact ih _ _ _ h
theorem toText_eq (l : List Int) (hB : Bs l) (hl : l.length ≤ 1048576) (a : Int) (ha : -9223372036854775808 ≤ a ∧ a < 9223372036854775808) (k : Nat) (hk : 40 ≤ k) : leb_ToText.f l a = some (toTextOut l a) ∧ ref02_ToText.f k l a = some (toTextOut l a) := by
  constructor
  · unfold leb_ToText.f lebToText
    rw [if_pos ⟨hB, by omega, by omega, by omega⟩]
  · unfold ref02_ToText.f
    rw [refGet_f hB (by omega) k (by omega)]
    simp only [Option.bind_some]
    have hr := fun (n : Int) (t : List Int) => rest_of (l := l) (n := n) (t := t) hB
    have hn := numGo_range l 0 0
    have h4 := fun e => numGo_err l 0 0 e
    obtain ⟨k, rfl⟩ : ∃ j, k = j + 1 := ⟨k - 1, by omega⟩
    unfold getOut toTextOut
    generalize numGo l 0 0 = o at *
    rcases o with e | ⟨n, t⟩
    · have := h4 e rfl
      simp only
      rw [if_neg this]
    · obtain ⟨r1, r2⟩ := hr _ _ rfl
      obtain ⟨n1, n2⟩ := hn n t hB (by omega) (by omega) (by decide) rfl
      simp only
      rw [if_pos trivial]
      by_cases h0 : a < 0
      · rw [if_pos h0, ref02_ToText.j0, if_pos rfl, if_pos (Or.inl h0)]
      · rw [if_neg h0, IntKind.wrap_u64, ref02_ToText.j0]
        by_cases hm : n > a
        · rw [if_pos (by rw [decide_eq_true_iff]; omega), if_pos (by omega)]
        · have hw1 : wrap64 ((l.length : Int) - ((l.length : Int) - (t.length : Int))) = t.length := by unfold wrap64; omega
          have hw2 : wrap64 n = n := by unfold wrap64; omega
          have hR : ¬ (a < 0 ∨ a < n) := by omega
          have hD : ¬ (decide (n > a % 18446744073709551616) = true) := by rw [decide_eq_true_iff]; omega
          rw [if_neg hD, if_neg hR, hw1, IntKind.wrap_u64, hw2]
          by_cases ht : (t.length : Int) < n
          · rw [if_pos (show n > (t.length : Int) % 18446744073709551616 by omega), if_pos ht]
          · have hw3 : wrap64 ((l.length : Int) - (t.length : Int) + n) = (l.length : Int) - (t.length : Int) + n := by unfold wrap64; omega
            have hT : ¬ (n > (t.length : Int) % 18446744073709551616) := by omega
            rw [if_neg hT, if_neg ht, hw3, if_pos (by omega), if_pos (by omega), if_pos (by omega), if_pos (by omega)]
            have e1 : ((l.length : Int) - (t.length : Int) + n).toNat = (l.length - t.length) + n.toNat := by omega
            have e2 : ((l.length : Int) - (t.length : Int)).toNat = l.length - t.length := by omega
            rw [e1, e2, ← List.drop_drop, ← r2, List.drop_take, show l.length - t.length + n.toNat - (l.length - t.length) = n.toNat by omega, ← r2]
theorem refText_f (s : ByteArray) (h : s.size ≤ 1048576) (k : Nat) (hk : 9 < k) : leb_Text.f s = some (putL 9 (s.size : Int) ++ bytesOf s) ∧ ref02_Text.f k s = some (putL 9 (s.size : Int) ++ bytesOf s) := by
  have h2 : (0 : Int) ≤ s.size ∧ (s.size : Int) < 18446744073709551616 := by omega
  have hw : IntKind.u64.wrap (s.size : Int) = s.size := by rw [IntKind.wrap_u64]; omega
  have := putL9_len (n := (s.size : Int))
  unfold leb_Text.f ref02_Text.f leb_Put.f
  rw [hw, lebPut_eq h2, refPut_f h2 k hk]
  simp only [Option.bind_some]
  rw [if_pos (by omega)]
  exact ⟨rfl, rfl⟩
theorem refInts_l (l : List Int) (hl : I64s l) (hb : l.length ≤ 1048576) : ∀ (j k : Nat) (acc : List Int) (i : Nat), j = l.length - i → i ≤ l.length → j + 10 < k → acc.length ≤ 10 * i →
    ref02_Ints.l0 k l acc (i : Int) = some (acc ++ intsL (l.drop i)) := by
  intro j
  induction j with
  | zero =>
    intro k acc i hj hi hk _
    obtain ⟨k, rfl⟩ : ∃ j, k = j + 1 := ⟨k - 1, by omega⟩
    unfold ref02_Ints.l0
    rw [if_neg (by omega), List.drop_of_length_le (by omega)]
    simp [intsL]
  | succ j ih =>
    intro k acc i hj hi hk ha
    obtain ⟨k, rfl⟩ : ∃ j, k = j + 1 := ⟨k - 1, by omega⟩
    unfold ref02_Ints.l0
    rw [if_pos (by omega), if_pos (by omega)]
    have hlt : i < l.length := by omega
    have er : rd l (i : Int) = l[i] := by simp [rd, List.getD_eq_getElem?_getD, hlt]
    have hr := hl l[i] (List.getElem_mem hlt)
    rw [er, refZig_f hr]
    simp only [Option.bind_some]
    rw [refPut_f (zig_range hr) k (by omega)]
    simp only [Option.bind_some]
    have h10 := putL9_len (n := zig l[i])
    rw [if_pos (by omega), show wrap64 ((i : Int) + 1) = ((i + 1 : Nat) : Int) by unfold wrap64; omega,
      ih k _ (i + 1) (by omega) (by omega) (by omega) (by simp only [List.length_append]; omega), List.drop_eq_getElem_cons hlt]
    simp [intsL]
theorem refInts_f (l : List Int) (hl : I64s l) (hb : l.length ≤ 1048576) (k : Nat) (hk : l.length + 10 < k) : ref02_Ints.f k l = some (intsL l) := by
  unfold ref02_Ints.f
  have := refInts_l l hl hb l.length k [] 0 (by omega) (by omega) hk (by simp)
  simpa using this
theorem goLen : ∀ (d : Nat) (out l o t : List Int), toIntsGo d out l = .inr (o, t) → o.length + t.length ≤ out.length + l.length
  | 0, out, l, o, t, h => by simp only [toIntsGo, Sum.inr.injEq, Prod.mk.injEq] at h; obtain ⟨rfl, rfl⟩ := h; omega
  | d + 1, out, l, o, t, h => by
    unfold toIntsGo at h
    have hn := fun n t => numGo_len l 0 0 n t
    generalize numGo l 0 0 = q at *
    rcases q with e | ⟨n, r⟩
    · cases h
    · have h1 := hn _ _ rfl
      have h2 := goLen d _ _ _ _ h
      simp only [List.length_append, List.length_cons, List.length_nil] at h2
      omega
theorem refToInts_l : ∀ (m : Nat) (l out : List Int) (i k : Nat) (n : Int), l.length ≤ m → Bs l → out.length + l.length ≤ 1048576 → i ≤ 1048576 → i + l.length ≤ 1048576 → m + 31 < k → (i : Int) ≤ n →
    ref02_ToInts.l0 k l n out (i : Int) = some (match toIntsGo (n - i).toNat out l with | .inl e => ([], [], e) | .inr (o, t) => (o, t, 0)) := by
  intro m
  induction m with
  | zero =>
    intro l out i k n hm hB ho hi hil hk hin
    obtain ⟨k, rfl⟩ : ∃ j, k = j + 1 := ⟨k - 1, by omega⟩
    obtain rfl : l = [] := List.length_eq_zero_iff.1 (by omega)
    unfold ref02_ToInts.l0
    by_cases hlt : (i : Int) < n
    · obtain ⟨d, hd⟩ : ∃ d, (n - i).toNat = d + 1 := ⟨(n - i).toNat - 1, by omega⟩
      rw [if_pos hlt, hd, refGet_f hB (by simp) k (by omega)]
      simp [getOut, numGo, toIntsGo]
    · rw [if_neg hlt, show (n - (i : Int)).toNat = 0 by omega]
      rfl
  | succ m ih =>
    intro l out i k n hm hB ho hi hil hk hin
    obtain ⟨k, rfl⟩ : ∃ j, k = j + 1 := ⟨k - 1, by omega⟩
    unfold ref02_ToInts.l0
    by_cases hlt : (i : Int) < n
    · obtain ⟨d, hd⟩ : ∃ d, (n - i).toNat = d + 1 := ⟨(n - i).toNat - 1, by omega⟩
      rw [if_pos hlt, hd, refGet_f hB (by omega) k (by omega)]
      simp only [Option.bind_some]
      have hr := fun (n : Int) (t : List Int) => rest_of (l := l) (n := n) (t := t) hB
      have hn := numGo_range l 0 0
      have h4 := fun e => numGo_err l 0 0 e
      have hlen := fun n t => numGo_len l 0 0 n t
      unfold getOut toIntsGo
      generalize numGo l 0 0 = q at *
      rcases q with e | ⟨v, t⟩
      · have := h4 e rfl
        simp only
        rw [if_neg this]
      · obtain ⟨r1, r2⟩ := hr _ _ rfl
        obtain ⟨n1, n2⟩ := hn v t hB (by omega) (by omega) (by decide) rfl
        have hl2 := hlen _ _ rfl
        simp only
        rw [if_pos trivial, refZag_f ⟨n1, n2⟩]
        simp only [Option.bind_some]
        rw [if_pos (by omega), if_pos (by omega), if_pos (by omega), show ((l.length : Int) - (t.length : Int)).toNat = l.length - t.length by omega, ← r2,
          show wrap64 ((i : Int) + 1) = ((i + 1 : Nat) : Int) by unfold wrap64; omega,
          ih t (out ++ [zag v]) (i + 1) k n (by omega) (fun x hx => hB x (by rw [r2] at hx; exact List.mem_of_mem_drop hx)) (by simp only [List.length_append, List.length_cons, List.length_nil]; omega) (by omega) (by omega) (by omega) (by omega),
          show (n - ((i + 1 : Nat) : Int)).toNat = d by omega]
    · rw [if_neg hlt, show (n - (i : Int)).toNat = 0 by omega]
      rfl
theorem toInts_eq (l : List Int) (hB : Bs l) (hl : l.length ≤ 1048576) (a : Int) (ha : -9223372036854775808 ≤ a ∧ a < 9223372036854775808) (k : Nat) (hk : l.length + 31 < k) : leb_ToInts.f l a = some (toIntsOut l a) ∧ ref02_ToInts.f k l a = some (toIntsOut l a) := by
  constructor
  · unfold leb_ToInts.f lebToInts
    rw [if_pos ⟨hB, by omega, by omega, by omega⟩]
  · unfold ref02_ToInts.f toIntsOut
    split
    · rfl
    · rename_i h0
      have := refToInts_l l.length l [] 0 k a (by omega) hB (by simp; omega) (by omega) (by omega) hk (by omega)
      rw [show (a - ((0 : Nat) : Int)).toNat = a.toNat by simp] at this
      refine this.trans ?_
      generalize toIntsGo a.toNat [] l = q
      rcases q with e | ⟨o, t⟩ <;> rfl
theorem outLen (l : List Int) (a : Int) : (toIntsOut l a).1.length ≤ l.length := by
  unfold toIntsOut
  split
  · simp
  · have := goLen a.toNat [] l
    generalize toIntsGo a.toNat [] l = q at *
    rcases q with e | ⟨o, t⟩
    · simp
    · have := this o t rfl
      simp only [List.length_nil] at this
      simp only
      omega

theorem LebListsUpto : law02_LebLists.PureU := by
  intro l s b a _ _ hl _ _ _ hb ha b0 b1 b2
  have hI : I64s l := fun x hx => wf_i64_ (hl x hx)
  have hB : Bs b := fun x hx => wf_u8_ (hb x hx)
  have ha := wf_i64_ ha
  refine ⟨1048576 + 50, ?_⟩
  obtain ⟨i1, i2⟩ := toInts_eq b hB b2 a ha (1048576 + 50) (by omega)
  obtain ⟨t1, t2⟩ := toText_eq b hB b2 a ha (1048576 + 50) (by omega)
  obtain ⟨x1, x2⟩ := refText_f s b1 (1048576 + 50) (by omega)
  have hlen := outLen b a
  unfold law02_LebLists.f law02_shown.f
  rw [i1, i2, t1, t2, ints_f l hI (by omega) _ (by omega), refInts_f l hI b0 _ (by omega), x1, x2]
  simp only [Option.bind_some, if_true]
  rw [same_f _ (by omega) _ (by omega)]
  simp
end Go.Proofs.Ytkjlimmdgnahgaa.Pure
