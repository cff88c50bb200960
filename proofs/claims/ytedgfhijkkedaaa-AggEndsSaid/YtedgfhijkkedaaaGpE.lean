/-
  The document's comparison of values is the plain order of values.
-/
import Derived.Test.YtedgfhijkkedaaaPAggx12
import Derived.Test.YtedgfhijkkedaaaHOrd
namespace Go.Proofs.Ytedgfhijkkedaaa.PAgg
open Go.RowKit Go.Proofs.YtedgfhijkkedaaaW.PrintWords Go.Proofs.YtedgfhijkkedaaaW.PrintLast
open Go.Proofs.Ytedgfhijkkedaaa.Hand (U cl ck cl_U u64 u64_U cmpI valCmp strCmp)
set_option linter.unusedVariables false
set_option linter.unusedSimpArgs false

theorem parts_f {a : Int} (h : U a) : ref04_Parts.f a = some (decide (a ≥ 9223372036854775808), a / 4503599627370496 % 2048, a % 4503599627370496) := by
  obtain ⟨h1, h2⟩ := h
  unfold ref04_Parts.f
  rw [Int.tdiv_eq_ediv_of_nonneg h1, IntKind.wrap_u64, Int.tmod_eq_emod_of_nonneg (by omega), Int.tmod_eq_emod_of_nonneg h1]
  congr 3
  omega
theorem isnan_f {a : Int} (h : U a) : ref04_IsNan.f a = some (decide (a % 9223372036854775808 > 9218868437227405312)) := by
  unfold ref04_IsNan.f
  rw [parts_f h]
  simp only [Option.bind_some]
  obtain ⟨h1, h2⟩ := h
  split
  · congr 1
    rw [Bool.eq_iff_iff, bne_iff_ne, decide_eq_true_iff]
    omega
  · congr 1
    symm
    rw [decide_eq_false_iff_not]
    omega
theorem rclean_f {a : Int} (h : U a) : ref04_Clean.f a = some (cl a) := by
  unfold ref04_Clean.f
  rw [isnan_f h]
  simp only [Option.bind_some, cl, decide_eq_true_iff]
  split <;> rfl
theorem rkey_f {a : Int} (h : U a) : ref04_Key.f a = some (ck a) := by
  have h2 := cl_U h
  unfold ref04_Key.f
  rw [rclean_f h]
  simp only [Option.bind_some]
  rw [parts_f h2]
  simp only [Option.bind_some, ck, Hand.keyOf, decide_eq_true_iff, IntKind.wrap_u64]
  obtain ⟨h3, h4⟩ := h2
  split <;> congr 1 <;> omega
theorem rfcmp_f {a b : Int} (ha : U a) (hb : U b) : ref04_Compare.f a b = some (cmpI (ck a) (ck b)) := by
  unfold ref04_Compare.f
  rw [rkey_f ha, rkey_f hb]
  simp only [Option.bind_some, cmpI]
  split
  · rfl
  · split <;> rfl
theorem order_f (a b : Int) : ref05_order.f (decide (a < b)) (decide (a > b)) = some (cmpI a b) := by
  unfold ref05_order.f cmpI
  simp only [decide_eq_true_iff]
  split
  · rfl
  · split <;> rfl
def strCmpL (l m : List UInt8) : Int := if Op.bytesLess l m = true then -1 else if l = m then 0 else 1
theorem strCmpL_cons (x y : UInt8) (l m : List UInt8) : strCmpL (x :: l) (y :: m) = if x.toNat < y.toNat then -1 else if y.toNat < x.toNat then 1 else strCmpL l m := by
  unfold strCmpL
  simp only [Op.bytesLess, Bool.or_eq_true, Bool.and_eq_true, decide_eq_true_eq, beq_iff_eq, List.cons.injEq, UInt8.lt_iff_toNat_lt, ← UInt8.toNat_inj]
  by_cases h1 : x.toNat < y.toNat
  · rw [if_pos (.inl h1), if_pos h1]
  · rw [if_neg h1]
    by_cases h2 : y.toNat < x.toNat
    · rw [if_neg (by omega), if_neg (by omega), if_pos h2]
    · rw [if_neg h2]
      have e : x.toNat = y.toNat := by omega
      simp only [e, Nat.lt_irrefl, false_or, true_and]
theorem drop_cons (a : ByteArray) (n : Nat) (h : n < a.size) : a.toList.drop n = a[n] :: a.toList.drop (n + 1) := by
  rw [ByteArray.toList_eq]
  exact List.drop_eq_getElem_cons (by simpa using h)
theorem drop_nil (a : ByteArray) (n : Nat) (h : a.size ≤ n) : a.toList.drop n = [] := by
  rw [ByteArray.toList_eq]
  exact List.drop_eq_nil_of_le (by simpa using h)
theorem bt_nat (a : ByteArray) (n : Nat) (h : n < a.size) : bt a (n : Int) = (a[n].toNat : Int) := by
  unfold bt
  rw [dif_pos (by simpa using h)]
  rfl
theorem texts_l (a b : ByteArray) (ha : a.size ≤ 140737488351232) : ∀ (j k i : Nat), i + j = a.size → 2 * j + 2 < k → i ≤ b.size → ref05_texts.l0 k a b (i : Int) = some (strCmpL (a.toList.drop i) (b.toList.drop i)) := by
  intro j
  induction j with
  | zero =>
    intro k i hi hk hb
    obtain ⟨k, rfl⟩ : ∃ m, k = m + 2 := ⟨k - 2, by omega⟩
    simp only [ref05_texts.l0]
    rw [if_neg (by omega)]
    simp only [ref05_texts.j1]
    rw [if_neg (by simp), order_f]
    simp only [Option.bind_some]
    congr 1
    rw [drop_nil a i (by omega)]
    unfold strCmpL cmpI
    by_cases h : a.size < b.size
    · rw [drop_cons b i (by omega), if_pos (by omega), if_pos (by simp [Op.bytesLess])]
    · rw [drop_nil b i (by omega), if_neg (by omega), if_neg (by omega)]
      simp [Op.bytesLess]
  | succ j ih =>
    intro k i hi hk hb
    obtain ⟨k, rfl⟩ : ∃ m, k = m + 2 := ⟨k - 2, by omega⟩
    simp only [ref05_texts.l0]
    rw [if_pos (by omega)]
    simp only [ref05_texts.j1, decide_eq_true_iff]
    by_cases h : i < b.size
    · rw [if_pos (by omega), if_pos (by omega), if_pos (by omega), if_pos (by omega), bt_nat a i (by omega), bt_nat b i h, drop_cons a i (by omega), drop_cons b i h, strCmpL_cons]
      by_cases h1 : a[i].toNat < b[i].toNat
      · rw [if_pos (by omega), if_pos h1]
      · rw [if_neg (by omega), if_neg h1]
        by_cases h2 : b[i].toNat < a[i].toNat
        · rw [if_pos (by omega), if_pos h2]
        · rw [if_neg (by omega), if_neg h2]
          have hw : wrap64 ((i : Int) + 1) = ((i + 1 : Nat) : Int) := by unfold wrap64; omega
          rw [hw]
          exact ih k (i + 1) (by omega) (by omega) (by omega)
    · rw [if_neg (by omega), order_f]
      simp only [Option.bind_some]
      congr 1
      rw [drop_nil b i (by omega), drop_cons a i (by omega)]
      unfold strCmpL cmpI
      rw [if_neg (by omega), if_pos (by omega), if_neg (by simp [Op.bytesLess]), if_neg (by simp)]
theorem texts_f (a b : ByteArray) (ha : a.size ≤ 140737488351232) (k : Nat) (hk : 2 * a.size + 2 < k) : ref05_texts.f k a b = some (strCmp a b) := by
  have := texts_l a b ha a.size k 0 (by omega) hk (by omega)
  unfold ref05_texts.f
  rw [List.drop_zero, List.drop_zero] at this
  exact this
theorem rvcmp_f (k1 i1 : Int) (s1 : ByteArray) (k2 i2 : Int) (s2 : ByteArray) (hs : s1.size ≤ 140737488351232) (k : Nat) (hk : 2 * s1.size + 2 < k) : ref05_Compare.f k k1 i1 s1 k2 i2 s2 = some (valCmp k1 i1 s1 k2 i2 s2) := by
  unfold ref05_Compare.f valCmp
  rw [order_f, order_f, texts_f s1 s2 hs k hk]
  have := rfcmp_f (u64_U i1) (u64_U i2)
  unfold u64 at this
  rw [this]
  simp only [Option.bind_some]
  unfold u64
  split
  · split
    · rfl
    · split
      · rfl
      · split <;> rfl
  · rfl
end Go.Proofs.Ytedgfhijkkedaaa.PAgg
