/-
  Plain laws for rows in order: the document's order of values and of rows is the program's.
-/
import Derived.Test.YthpoeljnmdjjiaaSpL
import Derived.Test.YthpoeljnmdjjiaaPSrnx13
namespace Go.Proofs.Ythpoeljnmdjjiaa.PSrn
open Go.RowKit Go.Proofs.Ythpoeljnmdjjiaa.Hand Go.Proofs.Ythpoeljnmdjjiaa.Srt Go.Proofs.YthpoeljnmdjjiaaW.PrintWords Go.Proofs.YthpoeljnmdjjiaaW.PrintLast Go.Proofs.YthpoeljnmdjjiaaW.PrintMore
set_option linter.unusedVariables false
set_option linter.unusedSimpArgs false

theorem rparts_f {a : Int} (h : U a) : ref04_Parts.f a = some (decide (a ≥ 9223372036854775808), a / 4503599627370496 % 2048, a % 4503599627370496) := by
  obtain ⟨h1, h2⟩ := h
  unfold ref04_Parts.f
  rw [Int.tdiv_eq_ediv_of_nonneg h1, IntKind.wrap_u64, Int.tmod_eq_emod_of_nonneg (by omega), Int.tmod_eq_emod_of_nonneg h1]
  congr 3
  omega
theorem isnan_f {a : Int} (h : U a) : ref04_IsNan.f a = some (decide (a % 9223372036854775808 > 9218868437227405312)) := by
  unfold ref04_IsNan.f
  rw [rparts_f h]
  simp only [Option.bind_some]
  obtain ⟨h1, h2⟩ := h
  split
  · congr 1
    rw [Bool.eq_iff_iff, bne_iff_ne, decide_eq_true_iff]
    omega
  · congr 1
    symm
    rw [decide_eq_false_iff_not]
    omega
theorem rclean_f {a : Int} (h : U a) : ref04_Clean.f a = some (cl a) := by
  unfold ref04_Clean.f
  rw [isnan_f h]
  simp only [Option.bind_some, cl, decide_eq_true_iff]
  split <;> rfl
theorem rkey_f {a : Int} (h : U a) : ref04_Key.f a = some (ck a) := by
  have h2 := cl_U h
  unfold ref04_Key.f
  rw [rclean_f h]
  simp only [Option.bind_some]
  rw [rparts_f h2]
  simp only [Option.bind_some, ck, Hand.keyOf, decide_eq_true_iff, IntKind.wrap_u64]
  obtain ⟨h3, h4⟩ := h2
  split <;> congr 1 <;> omega
theorem rcompare_f {a b : Int} (ha : U a) (hb : U b) : ref04_Compare.f a b = some (cmpI (ck a) (ck b)) := by
  unfold ref04_Compare.f
  rw [rkey_f ha, rkey_f hb]
  simp only [Option.bind_some, cmpI]
  split
  · rfl
  · split <;> rfl

theorem order_f (x y : Int) : ref05_order.f (decide (x < y)) (decide (x > y)) = some (cmpI x y) := by
  unfold ref05_order.f cmpI
  by_cases h : x < y
  · rw [decide_eq_true h, if_pos rfl, if_pos h]
  · rw [decide_eq_false h, if_neg (by decide), if_neg h]
    by_cases h2 : x > y
    · rw [decide_eq_true h2, if_pos rfl, if_pos h2]
    · rw [decide_eq_false h2, if_neg (by decide), if_neg h2]
/-- The order of texts, byte by byte. -/
def tcmp : List UInt8 → List UInt8 → Int
  | [], [] => 0
  | [], _ :: _ => -1
  | _ :: _, [] => 1
  | x :: a, y :: b => if x < y then -1 else if y < x then 1 else tcmp a b
theorem tcmp_cons (x y : UInt8) (a b : List UInt8) : tcmp (x :: a) (y :: b) = if x < y then -1 else if y < x then 1 else tcmp a b := rfl
theorem tcmp_str : ∀ a b : List UInt8, tcmp a b = if Op.bytesLess a b = true then -1 else if a = b then 0 else 1
  | [], [] => by simp [tcmp, Op.bytesLess]
  | [], _ :: _ => by simp [tcmp, Op.bytesLess]
  | _ :: _, [] => by simp [tcmp, Op.bytesLess]
  | x :: a, y :: b => by
    have ih := tcmp_str a b
    unfold tcmp
    by_cases h : x < y
    · rw [if_pos h, if_pos (by simp [Op.bytesLess, h])]
    · rw [if_neg h]
      by_cases h2 : y < x
      · have hne : ¬ x = y := fun e => by subst e; exact h h2
        rw [if_pos h2, if_neg (by simp [Op.bytesLess, h, hne]), if_neg (by simp [hne])]
      · have e : x = y := by
          have h1 : ¬ x.toNat < y.toNat := fun q => h (UInt8.lt_iff_toNat_lt.2 q)
          have h3 : ¬ y.toNat < x.toNat := fun q => h2 (UInt8.lt_iff_toNat_lt.2 q)
          exact UInt8.toNat_inj.1 (by omega)
        subst e
        rw [if_neg h2, ih]
        simp [Op.bytesLess, h]
theorem toList_len (s : ByteArray) : s.toList.length = s.size := by rw [ByteArray.toList_eq, Array.length_toList]; rfl
theorem bt_get (s : ByteArray) (i : Nat) (h : i < s.size) : bt s (i : Int) = ((s.toList[i]'(by rw [toList_len]; exact h)).toNat : Int) := by
  unfold bt
  rw [dif_pos (by simpa using h)]
  congr 1
  simp only [Int.toNat_natCast, ByteArray.toList_eq]
  rfl
theorem texts_l (a b : ByteArray) (ha : a.size ≤ 1000000000000000000) : ∀ (d i k : Nat), i + d = a.size → i ≤ b.size → 2 * d + 2 ≤ k → ref05_texts.l0 k a b (i : Int) = some (tcmp (a.toList.drop i) (b.toList.drop i)) := by
  intro d
  induction d with
  | zero =>
    intro i k hi hb hk
    obtain ⟨k, rfl⟩ : ∃ m, k = m + 2 := ⟨k - 2, by omega⟩
    rw [ref05_texts.l0, if_neg (by omega), ref05_texts.j1, if_neg (by decide), order_f, Option.bind_some]
    rw [List.drop_eq_nil_of_le (by rw [toList_len]; omega)]
    congr 1
    unfold cmpI
    by_cases h : a.size < b.size
    · rw [if_pos (by omega), List.drop_eq_getElem_cons (show i < b.toList.length by rw [toList_len]; omega)]
      rfl
    · rw [if_neg (by omega), if_neg (by omega), List.drop_eq_nil_of_le (by rw [toList_len]; omega)]
      rfl
  | succ d ih =>
    intro i k hi hb hk
    obtain ⟨k, rfl⟩ : ∃ m, k = m + 2 := ⟨k - 2, by omega⟩
    have hia : i < a.size := by omega
    have hia2 : i < a.toList.length := by rw [toList_len]; exact hia
    have hw : wrap64 ((i : Int) + 1) = ((i + 1 : Nat) : Int) := by unfold wrap64; omega
    rw [ref05_texts.l0, if_pos (by omega), ref05_texts.j1]
    by_cases hib : i < b.size
    · have hib2 : i < b.toList.length := by rw [toList_len]; exact hib
      rw [decide_eq_true (by omega), if_pos rfl, if_pos (by omega), if_pos (by omega), if_pos (by omega), bt_get a i hia, bt_get b i hib, hw, ih (i + 1) k (by omega) (by omega) (by omega)]
      rw [List.drop_eq_getElem_cons hia2, List.drop_eq_getElem_cons hib2, tcmp_cons]
      by_cases h : a.toList[i] < b.toList[i]
      · have := UInt8.lt_iff_toNat_lt.1 h
        rw [if_pos (by omega), if_pos h]
      · have h3 : ¬ a.toList[i].toNat < b.toList[i].toNat := fun q => h (UInt8.lt_iff_toNat_lt.2 q)
        rw [if_neg (by omega), if_neg h]
        by_cases h2 : b.toList[i] < a.toList[i]
        · have := UInt8.lt_iff_toNat_lt.1 h2
          rw [if_pos (by omega), if_pos h2]
        · have h4 : ¬ b.toList[i].toNat < a.toList[i].toNat := fun q => h2 (UInt8.lt_iff_toNat_lt.2 q)
          rw [if_neg (by omega), if_neg h2]
    · rw [decide_eq_false (by omega), if_neg (by decide), order_f, Option.bind_some, List.drop_eq_getElem_cons hia2, List.drop_eq_nil_of_le (show b.toList.length ≤ i by rw [toList_len]; omega)]
      congr 1
      unfold cmpI
      rw [if_neg (by omega), if_pos (by omega)]
      rfl
theorem texts_f (k : Nat) (a b : ByteArray) (ha : a.size ≤ 1000000000000000000) (hk : 2 * a.size + 2 ≤ k) : ref05_texts.f k a b = some (strCmp a b) := by
  unfold ref05_texts.f
  have := texts_l a b ha a.size 0 k (by omega) (Nat.zero_le _) hk
  rw [List.drop_zero, List.drop_zero, tcmp_str] at this
  exact this
theorem rvcmp_f (k : Nat) (k1 i1 : Int) (s1 : ByteArray) (k2 i2 : Int) (s2 : ByteArray) (ha : s1.size ≤ 1000000000000000000) (hk : 2 * s1.size + 2 ≤ k) : ref05_Compare.f k k1 i1 s1 k2 i2 s2 = some (valCmp k1 i1 s1 k2 i2 s2) := by
  unfold ref05_Compare.f valCmp
  have := rcompare_f (u64_U i1) (u64_U i2)
  unfold u64 at this
  rw [order_f, order_f, this, texts_f k s1 s2 ha hk]
  simp only [Option.bind_some]
  unfold u64
  split
  · split
    · rfl
    · split
      · rfl
      · split <;> rfl
  · rfl
/-- Texts of at most so many bytes. -/
def TU (M : Nat) (r : List S28) : Prop := ∀ v ∈ r, v.f2.size ≤ M
theorem TU.at {M : Nat} {r : List S28} (h : TU M r) (c : Int) : (atV r c).f2.size ≤ M := by
  unfold atV
  split
  · rename_i hc
    obtain ⟨i, rfl⟩ : ∃ i : Nat, c = (i : Int) := ⟨c.toNat, by omega⟩
    rw [rd28 r i (by omega)]
    exact h _ (List.getElem_mem _)
  · exact Nat.zero_le _
theorem rat_f (l : List S28) (c : Int) : ref16_At.f l c = some ((atV l c).f0, (atV l c).f1, (atV l c).f2) := at_f l c
theorem rd_i (x : List Int) (i : Nat) (h : i < x.length) : rd x (i : Int) = x[i] := by
  unfold rd; rw [Int.toNat_natCast, List.getD_eq_getElem?_getD, List.getElem?_eq_getElem h]; rfl
theorem rorder_l (M : Nat) (hM : M ≤ 1000000000000000000) (a b : List S28) (key : List Int) (hl : key.length ≤ 1000) (ha : TU M a) : ∀ (d i k : Nat), i + d = key.length → d + 2 * M + 3 ≤ k → ref16_Order.l0 k a b key (i : Int) = some (cmpRow a b (key.drop i)) := by
  intro d
  induction d with
  | zero =>
    intro i k hi hk
    obtain ⟨k, rfl⟩ : ∃ m, k = m + 1 := ⟨k - 1, by omega⟩
    rw [ref16_Order.l0, if_neg (by omega), List.drop_eq_nil_of_le (by omega)]
    rfl
  | succ d ih =>
    intro i k hi hk
    obtain ⟨k, rfl⟩ : ∃ m, k = m + 1 := ⟨k - 1, by omega⟩
    have hil : i < key.length := by omega
    have hw : wrap64 ((i : Int) + 1) = ((i + 1 : Nat) : Int) := by unfold wrap64; omega
    have hs := ha.at key[i]
    rw [ref16_Order.l0, if_pos (by omega), if_pos (by omega), rd_i key i hil, rat_f, Option.bind_some, rat_f, Option.bind_some, rvcmp_f k _ _ _ _ _ _ (by show (atV a key[i]).f2.size ≤ _; omega) (by show 2 * (atV a key[i]).f2.size + 2 ≤ k; omega), Option.bind_some, hw, ih (i + 1) k (by omega) (by omega), List.drop_eq_getElem_cons hil]
    show (if cmpV (atV a key[i]) (atV b key[i]) = 0 then _ else some (cmpV (atV a key[i]) (atV b key[i]))) = some (if cmpV (atV a key[i]) (atV b key[i]) = 0 then _ else cmpV (atV a key[i]) (atV b key[i]))
    split <;> rfl
theorem rorder_f (M : Nat) (hM : M ≤ 1000000000000000000) (k : Nat) (a b : List S28) (key : List Int) (hl : key.length ≤ 1000) (ha : TU M a) (hk : 2 * M + 1003 ≤ k) : ref16_Order.f k a b key = some (cmpRow a b key) := by
  unfold ref16_Order.f
  have := rorder_l M hM a b key hl ha key.length 0 k (by omega) (by omega)
  rw [List.drop_zero] at this
  exact this
end Go.Proofs.Ythpoeljnmdjjiaa.PSrn
