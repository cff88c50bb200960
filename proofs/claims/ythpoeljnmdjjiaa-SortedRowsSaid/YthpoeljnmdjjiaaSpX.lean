/-
  Several texts in one (by wip/gprint/mergeh.py), in their order.
-/
import Derived.Test.YthpoeljnmdjjiaaPSrnx12
import Derived.Test.YthpoeljnmdjjiaaPSrnx7
import Derived.Test.YthpoeljnmdjjiaaPSrnx9
import Derived.Test.YthpoeljnmdjjiaaPSrnx11
import Derived.Test.YthpoeljnmdjjiaaSvM
import Derived.Test.YthpoeljnmdjjiaaPSrnx18
import Derived.Test.YthpoeljnmdjjiaaPSrnx15
import Derived.Test.YthpoeljnmdjjiaaPSrnx19
import Derived.Test.YthpoeljnmdjjiaaPSrnx20
import Derived.Test.YthpoeljnmdjjiaaPSrnx21
section
/-
  Plain laws for rows in order: what few and By tell; rows in order by their places.
-/
namespace Go.Proofs.Ythpoeljnmdjjiaa.PSrn
open Go.RowKit Go.Proofs.Ythpoeljnmdjjiaa.Hand Go.Proofs.Ythpoeljnmdjjiaa.Srt Go.Proofs.YthpoeljnmdjjiaaW.PrintWords Go.Proofs.YthpoeljnmdjjiaaW.PrintLast Go.Proofs.YthpoeljnmdjjiaaW.PrintMore
set_option linter.unusedVariables false
set_option linter.unusedSimpArgs false

def fewL (l : List (List S28)) : List (List S28) := (l.take 150).map (List.take 9)
theorem fewL_len (l : List (List S28)) : (fewL l).length ≤ 150 := by unfold fewL; rw [List.length_map, List.length_take]; omega
def Short (l : List (List S28)) : Prop := ∀ r ∈ l, r.length ≤ 9
theorem fewL_short (l : List (List S28)) : Short (fewL l) := by
  intro r hr
  obtain ⟨x, _, rfl⟩ := List.mem_map.1 hr
  rw [List.length_take]; omega
theorem few_l (l : List (List S28)) (hl : l.length ≤ 9223372036854775807) : ∀ (d i k : Nat) (acc : List (List S28)), i + d = (l.take 150).length → 2 * d + 2 ≤ k → acc.length = i → law16_few.l0 k l acc (i : Int) = some (acc ++ ((l.take 150).drop i).map (List.take 9)) := by
  intro d
  induction d with
  | zero =>
    intro i k acc hi hk ha
    obtain ⟨k, rfl⟩ : ∃ m, k = m + 2 := ⟨k - 2, by omega⟩
    rw [List.drop_eq_nil_of_le (by omega), List.map_nil, List.append_nil]
    rw [List.length_take] at hi
    rw [law16_few.l0]
    by_cases h : (i : Int) < (l.length : Int)
    · rw [if_pos h, decide_eq_false (show ¬ (i : Int) < 150 by omega), law16_few.j1, if_neg (by decide)]
    · rw [if_neg h, law16_few.j1, if_neg (by decide)]
  | succ d ih =>
    intro i k acc hi hk ha
    obtain ⟨k, rfl⟩ : ∃ m, k = m + 2 := ⟨k - 2, by omega⟩
    have hi2 : i < (l.take 150).length := by omega
    have hil : i < l.length := by rw [List.length_take] at hi2; omega
    have hi3 : i < 150 := by rw [List.length_take] at hi2; omega
    have hg : (l.take 150)[i] = l[i] := List.getElem_take
    have hw : wrap64 ((i : Int) + 1) = ((i + 1 : Nat) : Int) := by unfold wrap64; omega
    rw [List.drop_eq_getElem_cons hi2, List.map_cons, hg]
    rw [law16_few.l0, if_pos (show (i : Int) < (l.length : Int) by omega), decide_eq_true (show (i : Int) < 150 by omega), law16_few.j1, if_pos rfl, if_pos (by omega), if_pos (by omega), rdL3 l i hil]
    have e : acc ++ List.take 9 l[i] :: List.map (List.take 9) (List.drop (i + 1) (List.take 150 l)) = (acc ++ [List.take 9 l[i]]) ++ List.map (List.take 9) (List.drop (i + 1) (List.take 150 l)) := by simp
    rw [e]
    by_cases h9 : ((l[i].length : Nat) : Int) > 9
    · rw [if_pos h9, if_pos (by omega), if_pos (by omega), hw]
      exact ih (i + 1) k _ (by omega) (by omega) (by simp [ha])
    · rw [if_neg h9, if_pos (by omega), hw, List.take_of_length_le (show l[i].length ≤ 9 by omega)]
      exact ih (i + 1) k _ (by omega) (by omega) (by simp [ha])
theorem few_f (k : Nat) (l : List (List S28)) (hl : l.length ≤ 9223372036854775807) (hk : 400 ≤ k) : law16_few.f k l = some (fewL l) := by
  unfold law16_few.f
  have := few_l l hl (l.take 150).length 0 k [] (by omega) (by rw [List.length_take]; omega) rfl
  rw [List.drop_zero] at this
  exact this
/-- Rows in order. -/
def ordR (rows : List (List S28)) (key : List Int) : List (List S28) := (places (cfRow rows key) rows.length).map fun i => rows.getD i []
theorem Short.short {l : List (List S28)} (h : Short l) : shortRows l = true := by
  unfold shortRows
  rw [List.all_eq_true]
  intro r hr
  have := h r hr
  exact decide_eq_true (by omega)
theorem by_f (rows : List (List S28)) (key : List Int) (hl : rows.length ≤ 1000) (hs : Short rows) : sorted_By.f rows key = some (ordR rows key) := by
  show byF rows key = _
  unfold byF
  rw [if_pos ⟨by omega, hs.short⟩]
  rfl
theorem rise_f (rows : List (List S28)) (key : List Int) : sorted_Rise.f rows key = some (riseB rows key) := rfl
theorem bag_f (a b : List (List S28)) (ha : a.length ≤ 10000) (hb : b.length ≤ 10000) : sorted_Bag.f a b = some (bagB a b) := by
  show bagF a b = _
  unfold bagF
  rw [if_pos ⟨ha, hb⟩]
theorem ordR_perm (rows : List (List S28)) (key : List Int) : (ordR rows key).Perm rows := by
  have := ((places_ok (cfRow_ok rows key) rows.length).2).map fun i => rows.getD i []
  rw [map_range] at this
  exact this
theorem ordR_len (rows : List (List S28)) (key : List Int) : (ordR rows key).length = rows.length := (ordR_perm rows key).length_eq
theorem Short.ord {rows : List (List S28)} (h : Short rows) (key : List Int) : Short (ordR rows key) := fun r hr => h r ((ordR_perm rows key).mem_iff.1 hr)
theorem Short.append {a b : List (List S28)} (ha : Short a) (hb : Short b) : Short (a ++ b) := fun r hr => by
  rcases List.mem_append.1 hr with h | h
  · exact ha r h
  · exact hb r h
theorem getD_map (l : List Nat) (f : Nat → List S28) (j : Nat) (h : j < l.length) : (l.map f).getD j [] = f (l.getD j 0) := by
  rw [List.getD_eq_getElem?_getD, List.getElem?_map, List.getElem?_eq_getElem h, List.getD_eq_getElem?_getD, List.getElem?_eq_getElem h]; rfl
theorem getD_get (l : List Nat) (j : Nat) (h : j < l.length) : l.getD j 0 = l[j] := by rw [List.getD_eq_getElem?_getD, List.getElem?_eq_getElem h]; rfl
/-- Neighbours of rows in order. -/
theorem ordR_next (rows : List (List S28)) (key : List Int) (i j : Nat) (hij : i < j) (h : j < rows.length) : cmpRow ((ordR rows key).getD i []) ((ordR rows key).getD j []) key ≤ 0 := by
  obtain ⟨h1, h2⟩ := places_ok (cfRow_ok rows key) rows.length
  have hl : (places (cfRow rows key) rows.length).length = rows.length := by rw [h2.length_eq, List.length_range]
  unfold ordR
  rw [getD_map _ _ _ (by omega), getD_map _ _ _ (by omega), getD_get _ _ (by omega), getD_get _ _ (by omega)]
  exact Ah.le (List.pairwise_iff_getElem.1 h1 i j (by omega) (by omega) hij)
theorem rise_iff (rows : List (List S28)) (key : List Int) : riseB rows key = true ↔ ∀ j, j + 1 < rows.length → cmpRow (rows.getD j []) (rows.getD (j + 1) []) key ≤ 0 := by
  unfold riseB
  rw [List.all_eq_true]
  constructor
  · intro h j hj
    have := h j (List.mem_range.2 (by omega))
    have h2 : ¬ cfRow rows key (j + 1) j < 0 := by simpa using this
    have h3 := cmpRow_anti (rows.getD j []) (rows.getD (j + 1) []) key
    change ¬ cmpRow (rows.getD (j + 1) []) (rows.getD j []) key < 0 at h2
    omega
  · intro h j hj
    rw [List.mem_range] at hj
    have := h j (by omega)
    have h3 := cmpRow_anti (rows.getD j []) (rows.getD (j + 1) []) key
    have h2 : ¬ cfRow rows key (j + 1) j < 0 := by show ¬ cmpRow (rows.getD (j + 1) []) (rows.getD j []) key < 0; omega
    simpa using h2
theorem ordR_rise (rows : List (List S28)) (key : List Int) : riseB (ordR rows key) key = true := by
  rw [rise_iff]
  intro j hj
  rw [ordR_len] at hj
  exact ordR_next rows key j (j + 1) (by omega) hj
/-- Rows whose places are in order are in order as they are. -/
theorem ordR_self {rows : List (List S28)} {key : List Int} (h : ∀ i j, i < j → j < rows.length → cmpRow (rows.getD i []) (rows.getD j []) key ≤ 0) : ordR rows key = rows := by
  have hs : Srd (cfRow rows key) (List.range rows.length) := by
    refine List.pairwise_iff_getElem.2 (fun i j hi hj hij => ?_)
    rw [List.length_range] at hi hj
    rw [List.getElem_range, List.getElem_range]
    have := h i j hij hj
    change cfRow rows key i j ≤ 0 at this
    unfold Ah
    omega
  unfold ordR
  rw [← places_unique (cfRow_ok rows key) hs (List.Perm.refl _), map_range]
/-- By columns that are the first ones of the key rows in order are in order. -/
theorem cmpRow_first (a b : List S28) (c : Int) (t : List Int) (h : cmpRow a b (c :: t) ≤ 0) : cmpRow a b [c] ≤ 0 := by
  unfold cmpRow at h ⊢
  by_cases h0 : cmpV (atV a c) (atV b c) = 0
  · rw [if_pos h0]; exact Int.le_refl _
  · rw [if_neg h0] at h ⊢; exact h
end Go.Proofs.Ythpoeljnmdjjiaa.PSrn
end
section
/-
  Plain laws for rows in order: what Lists tells.
-/
namespace Go.Proofs.Ythpoeljnmdjjiaa.PSrn
open Go.RowKit Go.Proofs.Ythpoeljnmdjjiaa.Hand Go.Proofs.Ythpoeljnmdjjiaa.Srt Go.Proofs.YthpoeljnmdjjiaaW.PrintWords Go.Proofs.YthpoeljnmdjjiaaW.PrintLast Go.Proofs.YthpoeljnmdjjiaaW.PrintMore
set_option linter.unusedVariables false
set_option linter.unusedSimpArgs false

theorem lists_l (x0 x1 : List (List S28)) (hl : x0.length = x1.length) (h0 : x0.length ≤ 9223372036854775807) (hs : Short x0) : ∀ (d k i : Nat), i + d = x0.length → d + 12 ≤ k → ref05_Lists.l0 k x0 x1 (i : Int) = some (eqRows (x0.drop i) (x1.drop i)) := by
  intro d
  induction d with
  | zero =>
    intro k i hi hk
    obtain ⟨k, rfl⟩ : ∃ m, k = m + 1 := ⟨k - 1, by omega⟩
    simp only [ref05_Lists.l0]
    rw [if_neg (by omega), List.drop_eq_nil_of_le (show x0.length ≤ i by omega), List.drop_eq_nil_of_le (show x1.length ≤ i by omega)]
    rfl
  | succ d ih =>
    intro k i hi hk
    obtain ⟨k, rfl⟩ : ∃ m, k = m + 1 := ⟨k - 1, by omega⟩
    have g0 : i < x0.length := by omega
    have g1 : i < x1.length := by omega
    have h9 := hs _ (List.getElem_mem g0)
    simp only [ref05_Lists.l0]
    rw [if_pos (by omega), if_pos (by omega), if_pos (by omega), rdL3 _ _ g0, rdL3 _ _ g1, same_f k _ _ (by omega) (by omega), Option.bind_some]
    rw [List.drop_eq_getElem_cons g0, List.drop_eq_getElem_cons g1]
    have hw : wrap64 ((i : Int) + 1) = ((i + 1 : Nat) : Int) := by unfold wrap64; omega
    unfold eqRows
    cases he : eqRow x0[i] x1[i]
    · rfl
    · rw [if_pos rfl, hw, Bool.true_and]
      exact ih k (i + 1) (by omega) (by omega)
theorem lists_f (k : Nat) (x0 x1 : List (List S28)) (h0 : x0.length ≤ 1000) (hs : Short x0) (hk : 1100 ≤ k) : ref05_Lists.f k x0 x1 = some (eqRows x0 x1) := by
  unfold ref05_Lists.f
  by_cases hl : x0.length = x1.length
  · rw [if_pos (by omega)]
    have := lists_l x0 x1 hl (by omega) hs x0.length k 0 (by omega) (by omega)
    simpa using this
  · rw [if_neg (by omega)]
    congr 1
    symm
    apply Bool.eq_false_iff.2
    intro h
    exact hl (eqRows_len _ _ h)
theorem lists_same (k : Nat) (x : List (List S28)) (h0 : x.length ≤ 1000) (hs : Short x) (hk : 1100 ≤ k) : ref05_Lists.f k x x = some true := by
  rw [lists_f k x x h0 hs hk, eqRows_eq.2 rfl]
end Go.Proofs.Ythpoeljnmdjjiaa.PSrn
end
section
/-
  Plain laws for rows in order: the document's order of values and of rows is the program's.
-/
namespace Go.Proofs.Ythpoeljnmdjjiaa.PSrn
open Go.RowKit Go.Proofs.Ythpoeljnmdjjiaa.Hand Go.Proofs.Ythpoeljnmdjjiaa.Srt Go.Proofs.YthpoeljnmdjjiaaW.PrintWords Go.Proofs.YthpoeljnmdjjiaaW.PrintLast Go.Proofs.YthpoeljnmdjjiaaW.PrintMore
set_option linter.unusedVariables false
set_option linter.unusedSimpArgs false

theorem rparts_f {a : Int} (h : U a) : ref04_Parts.f a = some (decide (a ≥ 9223372036854775808), a / 4503599627370496 % 2048, a % 4503599627370496) := by
  obtain ⟨h1, h2⟩ := h
  unfold ref04_Parts.f
  rw [Int.tdiv_eq_ediv_of_nonneg h1, IntKind.wrap_u64, Int.tmod_eq_emod_of_nonneg (by omega), Int.tmod_eq_emod_of_nonneg h1]
  congr 3
  omega
theorem isnan_f {a : Int} (h : U a) : ref04_IsNan.f a = some (decide (a % 9223372036854775808 > 9218868437227405312)) := by
  unfold ref04_IsNan.f
  rw [rparts_f h]
  simp only [Option.bind_some]
  obtain ⟨h1, h2⟩ := h
  split
  · congr 1
    rw [Bool.eq_iff_iff, bne_iff_ne, decide_eq_true_iff]
    omega
  · congr 1
    symm
    rw [decide_eq_false_iff_not]
    omega
theorem rclean_f {a : Int} (h : U a) : ref04_Clean.f a = some (cl a) := by
  unfold ref04_Clean.f
  rw [isnan_f h]
  simp only [Option.bind_some, cl, decide_eq_true_iff]
  split <;> rfl
theorem rkey_f {a : Int} (h : U a) : ref04_Key.f a = some (ck a) := by
  have h2 := cl_U h
  unfold ref04_Key.f
  rw [rclean_f h]
  simp only [Option.bind_some]
  rw [rparts_f h2]
  simp only [Option.bind_some, ck, Hand.keyOf, decide_eq_true_iff, IntKind.wrap_u64]
  obtain ⟨h3, h4⟩ := h2
  split <;> congr 1 <;> omega
theorem rcompare_f {a b : Int} (ha : U a) (hb : U b) : ref04_Compare.f a b = some (cmpI (ck a) (ck b)) := by
  unfold ref04_Compare.f
  rw [rkey_f ha, rkey_f hb]
  simp only [Option.bind_some, cmpI]
  split
  · rfl
  · split <;> rfl

theorem order_f (x y : Int) : ref05_order.f (decide (x < y)) (decide (x > y)) = some (cmpI x y) := by
  unfold ref05_order.f cmpI
  by_cases h : x < y
  · rw [decide_eq_true h, if_pos rfl, if_pos h]
  · rw [decide_eq_false h, if_neg (by decide), if_neg h]
    by_cases h2 : x > y
    · rw [decide_eq_true h2, if_pos rfl, if_pos h2]
    · rw [decide_eq_false h2, if_neg (by decide), if_neg h2]
/-- The order of texts, byte by byte. -/
def tcmp : List UInt8 → List UInt8 → Int
  | [], [] => 0
  | [], _ :: _ => -1
  | _ :: _, [] => 1
  | x :: a, y :: b => if x < y then -1 else if y < x then 1 else tcmp a b
theorem tcmp_cons (x y : UInt8) (a b : List UInt8) : tcmp (x :: a) (y :: b) = if x < y then -1 else if y < x then 1 else tcmp a b := rfl
theorem tcmp_str : ∀ a b : List UInt8, tcmp a b = if Op.bytesLess a b = true then -1 else if a = b then 0 else 1
  | [], [] => by simp [tcmp, Op.bytesLess]
  | [], _ :: _ => by simp [tcmp, Op.bytesLess]
  | _ :: _, [] => by simp [tcmp, Op.bytesLess]
  | x :: a, y :: b => by
    have ih := tcmp_str a b
    unfold tcmp
    by_cases h : x < y
    · rw [if_pos h, if_pos (by simp [Op.bytesLess, h])]
    · rw [if_neg h]
      by_cases h2 : y < x
      · have hne : ¬ x = y := fun e => by subst e; exact h h2
        rw [if_pos h2, if_neg (by simp [Op.bytesLess, h, hne]), if_neg (by simp [hne])]
      · have e : x = y := by
          have h1 : ¬ x.toNat < y.toNat := fun q => h (UInt8.lt_iff_toNat_lt.2 q)
          have h3 : ¬ y.toNat < x.toNat := fun q => h2 (UInt8.lt_iff_toNat_lt.2 q)
          exact UInt8.toNat_inj.1 (by omega)
        subst e
        rw [if_neg h2, ih]
        simp [Op.bytesLess, h]
theorem toList_len (s : ByteArray) : s.toList.length = s.size := by rw [ByteArray.toList_eq, Array.length_toList]; rfl
theorem bt_get (s : ByteArray) (i : Nat) (h : i < s.size) : bt s (i : Int) = ((s.toList[i]'(by rw [toList_len]; exact h)).toNat : Int) := by
  unfold bt
  rw [dif_pos (by simpa using h)]
  congr 1
  simp only [Int.toNat_natCast, ByteArray.toList_eq]
  rfl
theorem texts_l (a b : ByteArray) (ha : a.size ≤ 1000000000000000000) : ∀ (d i k : Nat), i + d = a.size → i ≤ b.size → 2 * d + 2 ≤ k → ref05_texts.l0 k a b (i : Int) = some (tcmp (a.toList.drop i) (b.toList.drop i)) := by
  intro d
  induction d with
  | zero =>
    intro i k hi hb hk
    obtain ⟨k, rfl⟩ : ∃ m, k = m + 2 := ⟨k - 2, by omega⟩
    rw [ref05_texts.l0, if_neg (by omega), ref05_texts.j1, if_neg (by decide), order_f, Option.bind_some]
    rw [List.drop_eq_nil_of_le (by rw [toList_len]; omega)]
    congr 1
    unfold cmpI
    by_cases h : a.size < b.size
    · rw [if_pos (by omega), List.drop_eq_getElem_cons (show i < b.toList.length by rw [toList_len]; omega)]
      rfl
    · rw [if_neg (by omega), if_neg (by omega), List.drop_eq_nil_of_le (by rw [toList_len]; omega)]
      rfl
  | succ d ih =>
    intro i k hi hb hk
    obtain ⟨k, rfl⟩ : ∃ m, k = m + 2 := ⟨k - 2, by omega⟩
    have hia : i < a.size := by omega
    have hia2 : i < a.toList.length := by rw [toList_len]; exact hia
    have hw : wrap64 ((i : Int) + 1) = ((i + 1 : Nat) : Int) := by unfold wrap64; omega
    rw [ref05_texts.l0, if_pos (by omega), ref05_texts.j1]
    by_cases hib : i < b.size
    · have hib2 : i < b.toList.length := by rw [toList_len]; exact hib
      rw [decide_eq_true (by omega), if_pos rfl, if_pos (by omega), if_pos (by omega), if_pos (by omega), bt_get a i hia, bt_get b i hib, hw, ih (i + 1) k (by omega) (by omega) (by omega)]
      rw [List.drop_eq_getElem_cons hia2, List.drop_eq_getElem_cons hib2, tcmp_cons]
      by_cases h : a.toList[i] < b.toList[i]
      · have := UInt8.lt_iff_toNat_lt.1 h
        rw [if_pos (by omega), if_pos h]
      · have h3 : ¬ a.toList[i].toNat < b.toList[i].toNat := fun q => h (UInt8.lt_iff_toNat_lt.2 q)
        rw [if_neg (by omega), if_neg h]
        by_cases h2 : b.toList[i] < a.toList[i]
        · have := UInt8.lt_iff_toNat_lt.1 h2
          rw [if_pos (by omega), if_pos h2]
        · have h4 : ¬ b.toList[i].toNat < a.toList[i].toNat := fun q => h2 (UInt8.lt_iff_toNat_lt.2 q)
          rw [if_neg (by omega), if_neg h2]
    · rw [decide_eq_false (by omega), if_neg (by decide), order_f, Option.bind_some, List.drop_eq_getElem_cons hia2, List.drop_eq_nil_of_le (show b.toList.length ≤ i by rw [toList_len]; omega)]
      congr 1
      unfold cmpI
      rw [if_neg (by omega), if_pos (by omega)]
      rfl
theorem texts_f (k : Nat) (a b : ByteArray) (ha : a.size ≤ 1000000000000000000) (hk : 2 * a.size + 2 ≤ k) : ref05_texts.f k a b = some (strCmp a b) := by
  unfold ref05_texts.f
  have := texts_l a b ha a.size 0 k (by omega) (Nat.zero_le _) hk
  rw [List.drop_zero, List.drop_zero, tcmp_str] at this
  exact this
theorem rvcmp_f (k : Nat) (k1 i1 : Int) (s1 : ByteArray) (k2 i2 : Int) (s2 : ByteArray) (ha : s1.size ≤ 1000000000000000000) (hk : 2 * s1.size + 2 ≤ k) : ref05_Compare.f k k1 i1 s1 k2 i2 s2 = some (valCmp k1 i1 s1 k2 i2 s2) := by
  unfold ref05_Compare.f valCmp
  have := rcompare_f (u64_U i1) (u64_U i2)
  unfold u64 at this
  rw [order_f, order_f, this, texts_f k s1 s2 ha hk]
  simp only [Option.bind_some]
  unfold u64
  split
  · split
    · rfl
    · split
      · rfl
      · split <;> rfl
  · rfl
/-- Texts of at most so many bytes. -/
def TU (M : Nat) (r : List S28) : Prop := ∀ v ∈ r, v.f2.size ≤ M
theorem TU.at {M : Nat} {r : List S28} (h : TU M r) (c : Int) : (atV r c).f2.size ≤ M := by
  unfold atV
  split
  · rename_i hc
    obtain ⟨i, rfl⟩ : ∃ i : Nat, c = (i : Int) := ⟨c.toNat, by omega⟩
    rw [rd28 r i (by omega)]
    exact h _ (List.getElem_mem _)
  · exact Nat.zero_le _
theorem rat_f (l : List S28) (c : Int) : ref16_At.f l c = some ((atV l c).f0, (atV l c).f1, (atV l c).f2) := at_f l c
theorem rd_i (x : List Int) (i : Nat) (h : i < x.length) : rd x (i : Int) = x[i] := by
  unfold rd; rw [Int.toNat_natCast, List.getD_eq_getElem?_getD, List.getElem?_eq_getElem h]; rfl
theorem rorder_l (M : Nat) (hM : M ≤ 1000000000000000000) (a b : List S28) (key : List Int) (hl : key.length ≤ 1000) (ha : TU M a) : ∀ (d i k : Nat), i + d = key.length → d + 2 * M + 3 ≤ k → ref16_Order.l0 k a b key (i : Int) = some (cmpRow a b (key.drop i)) := by
  intro d
  induction d with
  | zero =>
    intro i k hi hk
    obtain ⟨k, rfl⟩ : ∃ m, k = m + 1 := ⟨k - 1, by omega⟩
    rw [ref16_Order.l0, if_neg (by omega), List.drop_eq_nil_of_le (by omega)]
    rfl
  | succ d ih =>
    intro i k hi hk
    obtain ⟨k, rfl⟩ : ∃ m, k = m + 1 := ⟨k - 1, by omega⟩
    have hil : i < key.length := by omega
    have hw : wrap64 ((i : Int) + 1) = ((i + 1 : Nat) : Int) := by unfold wrap64; omega
    have hs := ha.at key[i]
    rw [ref16_Order.l0, if_pos (by omega), if_pos (by omega), rd_i key i hil, rat_f, Option.bind_some, rat_f, Option.bind_some, rvcmp_f k _ _ _ _ _ _ (by show (atV a key[i]).f2.size ≤ _; omega) (by show 2 * (atV a key[i]).f2.size + 2 ≤ k; omega), Option.bind_some, hw, ih (i + 1) k (by omega) (by omega), List.drop_eq_getElem_cons hil]
    show (if cmpV (atV a key[i]) (atV b key[i]) = 0 then _ else some (cmpV (atV a key[i]) (atV b key[i]))) = some (if cmpV (atV a key[i]) (atV b key[i]) = 0 then _ else cmpV (atV a key[i]) (atV b key[i]))
    split <;> rfl
theorem rorder_f (M : Nat) (hM : M ≤ 1000000000000000000) (k : Nat) (a b : List S28) (key : List Int) (hl : key.length ≤ 1000) (ha : TU M a) (hk : 2 * M + 1003 ≤ k) : ref16_Order.f k a b key = some (cmpRow a b key) := by
  unfold ref16_Order.f
  have := rorder_l M hM a b key hl ha key.length 0 k (by omega) (by omega)
  rw [List.drop_zero] at this
  exact this
end Go.Proofs.Ythpoeljnmdjjiaa.PSrn
end
section
/-
  Plain laws for SortedRows: whether rows may be a table's is as the document says.
-/
namespace Go.Proofs.Ythpoeljnmdjjiaa.PSrn
open Go.RowKit Go.Proofs.Ythpoeljnmdjjiaa.Hand Go.Proofs.Ythpoeljnmdjjiaa.Srt Go.Proofs.YthpoeljnmdjjiaaW.PrintWords Go.Proofs.YthpoeljnmdjjiaaW.PrintLast Go.Proofs.YthpoeljnmdjjiaaW.PrintMore
set_option linter.unusedVariables false
set_option linter.unusedSimpArgs false

theorem w1 {i : Nat} (h : i ≤ 1000000) : wrap64 ((i : Int) + 1) = ((i + 1 : Nat) : Int) := by unfold wrap64; omega
theorem rmay_f (k i : Int) (s : ByteArray) : ref05_May.f k i s = some (valMay k i s) := by
  have hc : ref04_Clean.f (IntKind.u64.wrap i) = some (cl (u64 i)) := rclean_f (u64_U i)
  have he : (s.toList = ([] : List UInt8)) ↔ s.size = 0 := by
    have := empty_bool s
    rw [Bool.eq_iff_iff, beq_iff_eq, decide_eq_true_iff] at this
    exact this
  unfold ref05_May.f valMay
  rw [hc, empty_bool]
  simp only [Option.bind_some]
  by_cases c0 : k = 0
  · subst c0
    rw [if_pos rfl]
    by_cases ci : i = 0
    · rw [if_pos ci]; simp [ci]
    · rw [if_neg ci]; simp [ci]
  · rw [if_neg c0]
    by_cases c1 : k = 1
    · subst c1
      rw [if_pos rfl]; simp
    · rw [if_neg c1]
      by_cases c2 : k = 2
      · subst c2
        rw [if_pos rfl]
        by_cases cs : s.toList = ([] : List UInt8)
        · rw [if_pos cs]
          have := he.1 cs
          simp [this, u64]
          first | exact Bool.beq_comm | (rw [Bool.eq_iff_iff]; simp; exact eq_comm) | rfl
        · rw [if_neg cs]
          have : ¬ s.size = 0 := fun h => cs (he.2 h)
          simp [this]
      · rw [if_neg c2]
        by_cases c3 : k = 3
        · subst c3
          rw [if_pos rfl]
          by_cases ci : i = 0
          · rw [if_pos ci]; simp [ci]; first | omega | rfl
          · rw [if_neg ci]; simp [ci]
        · rw [if_neg c3]
          simp [c0, c1, c2, c3]
theorem rrow_l0 (r : List S28) (ks : List Int) (hr : r.length ≤ 100) : ∀ (d i k : Nat), i + d = r.length → ref16_row.l0 (d + 1 + k) r ks (i : Int) = if ((r.drop i).any fun v => !(mayV v)) = true then some 1 else ref16_row.l1 k r ks 0 := by
  intro d
  induction d with
  | zero =>
    intro i k hi
    rw [show 0 + 1 + k = k + 1 by omega, ref16_row.l0, if_neg (by omega), List.drop_eq_nil_of_le (by omega)]
    rfl
  | succ d ih =>
    intro i k hi
    have hil : i < r.length := by omega
    rw [show d + 1 + 1 + k = (d + 1 + k) + 1 by omega, ref16_row.l0, if_pos (by omega), if_pos (by omega), rd28 r i hil, rmay_f, Option.bind_some, w1 (by omega), ih (i + 1) k (by omega), List.drop_eq_getElem_cons hil, List.any_cons]
    show (if mayV r[i] = true then _ else _) = _
    cases hv : mayV r[i]
    · rfl
    · rfl
theorem rrow_l1 (r : List S28) (ks : List Int) (hr : r.length ≤ 100) (he : r.length = ks.length) : ∀ (d i k : Nat), i + d = r.length → d + 1 ≤ k → ref16_row.l1 k r ks (i : Int) = some (if mism (r.drop i) (ks.drop i) = true then 7 else 0) := by
  intro d
  induction d with
  | zero =>
    intro i k hi hk
    obtain ⟨k, rfl⟩ : ∃ m, k = m + 1 := ⟨k - 1, by omega⟩
    rw [ref16_row.l1, if_neg (by omega), List.drop_eq_nil_of_le (by omega)]
    rfl
  | succ d ih =>
    intro i k hi hk
    obtain ⟨k, rfl⟩ : ∃ m, k = m + 1 := ⟨k - 1, by omega⟩
    have hil : i < r.length := by omega
    have hik : i < ks.length := by omega
    rw [ref16_row.l1, if_pos (by omega), if_pos (by omega), rd28 r i hil, w1 (by omega), ih (i + 1) k (by omega) (by omega), List.drop_eq_getElem_cons hil, List.drop_eq_getElem_cons hik, rd_i ks i hik]
    show _ = some (if ((r[i].f0 != 0 && r[i].f0 != ks[i]) || mism (r.drop (i + 1)) (ks.drop (i + 1))) = true then 7 else 0)
    by_cases c0 : r[i].f0 = 0
    · rw [if_pos c0, c0]
      rfl
    · rw [if_neg c0, if_pos (by omega)]
      have e0 : (r[i].f0 != 0) = true := by rw [bne_iff_ne]; exact c0
      rw [e0]
      by_cases c1 : r[i].f0 = ks[i]
      · have e1 : (r[i].f0 != ks[i]) = false := by rw [c1]; simp
        rw [if_pos c1, e1]
        rfl
      · have e1 : (r[i].f0 != ks[i]) = true := by rw [bne_iff_ne]; exact c1
        rw [if_neg c1, e1]
        rfl
theorem rrow_f (k : Nat) (r : List S28) (ks : List Int) (hr : r.length ≤ 9) (hk : 30 ≤ k) : ref16_row.f k r ks = some (rowE r ks) := by
  unfold ref16_row.f rowE
  by_cases he : r.length = ks.length
  · rw [if_pos (by omega), if_neg (by omega)]
    have := rrow_l0 r ks (by omega) r.length 0 (k - r.length - 1) (by omega)
    rw [show r.length + 1 + (k - r.length - 1) = k by omega, show ((0 : Nat) : Int) = 0 from rfl, List.drop_zero] at this
    rw [this]
    have h1 := rrow_l1 r ks (by omega) he r.length 0 (k - r.length - 1) (by omega) (by omega)
    rw [List.drop_zero, List.drop_zero, show ((0 : Nat) : Int) = 0 from rfl] at h1
    rw [h1]
    split
    · rfl
    · rfl
  · rw [if_neg (by omega), if_pos he]
theorem kinds_f (k : Int) : ref07_Kinds.f k = some (!oddK k) := by
  unfold ref07_Kinds.f oddK
  by_cases h1 : k = 1
  · subst h1; rfl
  · rw [if_neg h1]
    by_cases h2 : k = 2
    · subst h2; rfl
    · rw [if_neg h2]
      congr 1
      rw [Bool.eq_iff_iff]
      simp
      omega
theorem rcheck_l1 (rows : List (List S28)) (ks : List Int) (hr : rows.length ≤ 1000) (hs : Short rows) : ∀ (d i k : Nat), i + d = rows.length → d + 31 ≤ k → ref16_Check.l1 k rows ks (i : Int) = some (rowsE ks (rows.drop i)) := by
  intro d
  induction d with
  | zero =>
    intro i k hi hk
    obtain ⟨k, rfl⟩ : ∃ m, k = m + 1 := ⟨k - 1, by omega⟩
    rw [ref16_Check.l1, if_neg (by omega), List.drop_eq_nil_of_le (by omega)]
    rfl
  | succ d ih =>
    intro i k hi hk
    obtain ⟨k, rfl⟩ : ∃ m, k = m + 1 := ⟨k - 1, by omega⟩
    have hil : i < rows.length := by omega
    have h9 := hs _ (List.getElem_mem hil)
    rw [ref16_Check.l1, if_pos (by omega), if_pos (by omega), rdL3 rows i hil, rrow_f k _ ks h9 (by omega), Option.bind_some, w1 (by omega), ih (i + 1) k (by omega) (by omega), List.drop_eq_getElem_cons hil]
    show _ = some (if rowE rows[i] ks = 0 then rowsE ks (rows.drop (i + 1)) else rowE rows[i] ks)
    split <;> rfl
theorem rcheck_l0 (rows : List (List S28)) (ks : List Int) (hk8 : ks.length ≤ 8) : ∀ (d i k : Nat), i + d = ks.length → ref16_Check.l0 (d + 1 + k) rows ks (i : Int) = if (ks.drop i).any oddK = true then some 1 else if (rows.length : Int) > 4096 then some 2 else ref16_Check.l1 k rows ks 0 := by
  intro d
  induction d with
  | zero =>
    intro i k hi
    rw [show 0 + 1 + k = k + 1 by omega, ref16_Check.l0, if_neg (by omega), List.drop_eq_nil_of_le (by omega)]
    rfl
  | succ d ih =>
    intro i k hi
    have hil : i < ks.length := by omega
    rw [show d + 1 + 1 + k = (d + 1 + k) + 1 by omega, ref16_Check.l0, if_pos (by omega), if_pos (by omega), rd_i ks i hil, kinds_f, Option.bind_some, w1 (by omega), ih (i + 1) k (by omega), List.drop_eq_getElem_cons hil, List.any_cons]
    cases hv : oddK ks[i]
    · rfl
    · rfl
theorem rcheck_f (k : Nat) (rows : List (List S28)) (ks : List Int) (hr : rows.length ≤ 150) (hs : Short rows) (hk : 300 ≤ k) : ref16_Check.f k rows ks = some (checkE rows ks) := by
  obtain ⟨k, rfl⟩ : ∃ m, k = m + 1 := ⟨k - 1, by omega⟩
  unfold ref16_Check.f checkE
  by_cases h0 : ks.length = 0
  · rw [if_pos (by omega), ref16_Check.j0, if_pos rfl, if_pos (by rw [decide_eq_true h0]; rfl)]
  · rw [if_neg (by omega), decide_eq_false h0, Bool.false_or]
    by_cases h8 : ks.length > 8
    · rw [decide_eq_true (show (ks.length : Int) > 8 by omega), ref16_Check.j0, if_pos rfl, if_pos (by rw [decide_eq_true h8]; rfl)]
    · rw [decide_eq_false (show ¬ (ks.length : Int) > 8 by omega), ref16_Check.j0, if_neg (by decide), decide_eq_false h8, Bool.false_or]
      have := rcheck_l0 rows ks (by omega) ks.length 0 (k - ks.length - 1) (by omega)
      rw [show ks.length + 1 + (k - ks.length - 1) = k by omega, show ((0 : Nat) : Int) = 0 from rfl, List.drop_zero] at this
      rw [this]
      have h1 := rcheck_l1 rows ks (by omega) hs rows.length 0 (k - ks.length - 1) (by omega) (by omega)
      rw [List.drop_zero, show ((0 : Nat) : Int) = 0 from rfl] at h1
      rw [h1, if_neg (show ¬ (rows.length : Int) > 4096 by omega), if_neg (show ¬ rows.length > 4096 by omega)]
      split
      · rfl
      · rfl
end Go.Proofs.Ythpoeljnmdjjiaa.PSrn
end
section
/-
  Plain laws for SortedRows: the document's rows in order, whether they rise, and their columns, are the program's.
-/
namespace Go.Proofs.Ythpoeljnmdjjiaa.PSrn
open Go.RowKit Go.Proofs.Ythpoeljnmdjjiaa.Hand Go.Proofs.Ythpoeljnmdjjiaa.Srt Go.Proofs.YthpoeljnmdjjiaaW.PrintWords Go.Proofs.YthpoeljnmdjjiaaW.PrintLast Go.Proofs.YthpoeljnmdjjiaaW.PrintMore
set_option linter.unusedVariables false
set_option linter.unusedSimpArgs false

theorem isort_append (lt : Nat → Nat → Bool) (x : Nat) : ∀ X S : List Nat, isort lt S (X ++ [x]) = ins lt (isort lt S X) x
  | [], S => rfl
  | y :: t, S => by
    show isort lt (ins lt S y) (t ++ [x]) = _
    rw [isort_append lt x t]
    rfl
theorem TU_nil (M : Nat) : TU M [] := fun v h => nomatch h
theorem TU_getD {M : Nat} {a : List (List S28)} (h : ∀ r ∈ a, TU M r) (i : Nat) : TU M (a.getD i []) := by
  rw [List.getD_eq_getElem?_getD]
  cases hr : a[i]? with
  | none => exact TU_nil M
  | some r => exact h r (List.mem_of_getElem? hr)
theorem rby_l1 (M : Nat) (hM : M ≤ 1000000000000000000) (a : List (List S28)) (key : List Int) (hk9 : key.length ≤ 1000) (hl : a.length ≤ 1000) (ht : ∀ r ∈ a, TU M r) (i : Nat) (hi : i < a.length) (K : Nat) (hK : 2 * M + 1010 ≤ K) :
    ∀ (t : Nat) (U V : List Nat), U.length = t → U.length + V.length ≤ 1000 → ∃ k2, K ≤ k2 ∧ ref16_By.l1 (t + 1 + K) a key ((U ++ V).map fun j => a.getD j []) (i : Int) (t : Int) = ref16_By.l0 k2 a key ((ins (ltc (cfRow a key)) U i ++ V).map fun j => a.getD j []) ((i + 1 : Nat) : Int) := by
  intro t
  have hri : rd_L3 a (i : Int) = a.getD i [] := by unfold rd_L3; rw [Int.toNat_natCast]
  induction t with
  | zero =>
    intro U V hU hUV
    have e : U = [] := List.eq_nil_of_length_eq_zero hU
    subst e
    refine ⟨K, Nat.le_refl _, ?_⟩
    rw [show 0 + 1 + K = K + 1 by omega, ref16_By.l1, if_neg (by omega), Option.bind_some, if_pos (by omega), if_pos (by omega), Option.bind_some, if_pos (by simp), Option.bind_some, if_pos (by omega), if_pos (by omega), if_pos (by simp), Option.bind_some, Option.bind_some, if_pos (by simp at hUV ⊢; omega), w1 (by omega), hri, ins_nil]
    simp
  | succ t ih =>
    intro U V hU hUV
    obtain ⟨U', y, rfl⟩ : ∃ U' y, U = U' ++ [y] := by
      rcases List.eq_nil_or_concat U with h | ⟨L, b, h⟩
      · rw [h] at hU; simp at hU
      · exact ⟨L, b, by rw [h]; simp⟩
    have hU' : U'.length = t := by simpa using hU
    have hlen : ((U' ++ [y] ++ V).map fun j => a.getD j []).length = t + 1 + V.length := by simp [hU']; omega
    have wt : wrap64 (((t + 1 : Nat) : Int) - 1) = (t : Int) := by rw [List.length_append] at hUV; unfold wrap64; omega
    have hry : rd_L3 ((U' ++ [y] ++ V).map fun j => a.getD j []) (t : Int) = a.getD y [] := by
      unfold rd_L3
      rw [Int.toNat_natCast, List.getD_eq_getElem?_getD, List.getElem?_map, List.append_assoc, List.getElem?_append_right (by omega), hU', Nat.sub_self]
      rfl
    have ho := rorder_f M hM (t + 1 + K) (a.getD y []) (a.getD i []) key hk9 (TU_getD ht y) (by omega)
    have hanti : cmpRow (a.getD i []) (a.getD y []) key = - cmpRow (a.getD y []) (a.getD i []) key := cmpRow_anti _ _ key
    rw [List.length_append, List.length_singleton] at hUV
    by_cases hgt : cmpRow (a.getD y []) (a.getD i []) key > 0
    · have hlt : ltc (cfRow a key) i y = true := decide_eq_true (by show cmpRow (a.getD i []) (a.getD y []) key < 0; omega)
      obtain ⟨k2, h1, h2⟩ := ih U' (y :: V) hU' (by rw [List.length_cons]; omega)
      refine ⟨k2, h1, ?_⟩
      have ev : ∀ L : List Nat, L ++ [y] ++ V = L ++ y :: V := fun L => by simp
      rw [ev] at hlen hry
      rw [ins_go _ _ _ _ hlt, ev, ev, ← h2]
      rw [show t + 1 + 1 + K = (t + 1 + K) + 1 by omega, ref16_By.l1, if_pos (by omega), wt, if_pos (by omega), if_pos (by rw [hlen]; omega), if_pos (by omega), if_pos (by omega), hry, hri, ho, Option.bind_some, if_pos hgt]
    · have hlt : ltc (cfRow a key) i y = false := decide_eq_false (by show ¬ cmpRow (a.getD i []) (a.getD y []) key < 0; omega)
      refine ⟨t + 1 + K, by omega, ?_⟩
      rw [ins_stop _ _ _ _ hlt]
      have etn : ((t + 1 : Nat) : Int).toNat = t + 1 := by omega
      have etake : ((U' ++ [y] ++ V).map fun j => a.getD j []).take (t + 1) = (U' ++ [y]).map fun j => a.getD j [] := by
        rw [List.map_append, List.take_left' (by simp [hU'])]
      have edrop : ((U' ++ [y] ++ V).map fun j => a.getD j []).drop (t + 1) = V.map fun j => a.getD j [] := by
        rw [List.map_append, List.drop_left' (by simp [hU'])]
      have l1 : ((U' ++ [y]).map fun j => a.getD j []).length = t + 1 := by simp [hU']
      rw [show t + 1 + 1 + K = (t + 1 + K) + 1 by omega, ref16_By.l1, if_pos (by omega), wt, if_pos (by omega), if_pos (by rw [hlen]; omega), if_pos (by omega), if_pos (by omega), hry, hri, ho, Option.bind_some, if_neg hgt, Option.bind_some, if_pos (by omega), if_pos (by rw [hlen]; omega), Option.bind_some, etn, etake, edrop, if_pos (by rw [l1]; simp; omega), Option.bind_some, List.nil_append, if_pos (by rw [l1]; omega), Option.bind_some, Option.bind_some, if_pos (by rw [List.length_append, l1]; simp; omega), w1 (by omega)]
      simp
theorem rby_l0 (M : Nat) (hM : M ≤ 1000000000000000000) (a : List (List S28)) (key : List Int) (hk9 : key.length ≤ 1000) (hl : a.length ≤ 1000) (ht : ∀ r ∈ a, TU M r) : ∀ (d i k : Nat), i + d = a.length → d * (a.length + 3) + 2 * M + 1020 ≤ k →
    ref16_By.l0 k a key ((isort (ltc (cfRow a key)) [] (List.range i)).map fun j => a.getD j []) (i : Int) = some (ordR a key) := by
  intro d
  induction d with
  | zero =>
    intro i k hi hk
    obtain ⟨k, rfl⟩ : ∃ m, k = m + 1 := ⟨k - 1, by omega⟩
    obtain rfl : i = a.length := by omega
    rw [ref16_By.l0, if_neg (by omega)]
    rfl
  | succ d ih =>
    intro i k hi hk
    rw [Nat.add_mul, Nat.one_mul] at hk
    have hil : i < a.length := by omega
    have hS : (isort (ltc (cfRow a key)) [] (List.range i)).length = i := by
      have := (isort_srd (cfRow_ok a key) (List.range i) [] srd_nil List.pairwise_lt_range (fun s h => nomatch h)).2.length_eq
      simpa using this
    obtain ⟨k, rfl⟩ : ∃ m, k = (i + 1 + m) + 1 := ⟨k - i - 2, by omega⟩
    obtain ⟨k2, h1, h2⟩ := rby_l1 M hM a key hk9 hl ht i hil k (by omega) i (isort (ltc (cfRow a key)) [] (List.range i)) [] hS (by rw [hS]; simp; omega)
    rw [List.append_nil, List.append_nil, ← isort_append, ← List.range_succ] at h2
    have hlen : ((isort (ltc (cfRow a key)) [] (List.range i)).map fun j => a.getD j []).length = i := by rw [List.length_map, hS]
    rw [ref16_By.l0, if_pos (by omega), hlen, h2]
    exact ih (i + 1) k2 (by omega) (by omega)
theorem rby_f (M : Nat) (hM : M ≤ 1000000000000000000) (k : Nat) (a : List (List S28)) (key : List Int) (hk9 : key.length ≤ 1000) (hl : a.length ≤ 150) (ht : ∀ r ∈ a, TU M r) (hk : 2 * M + 30000 ≤ k) : ref16_By.f k a key = some (ordR a key) := by
  unfold ref16_By.f
  have h1 : a.length * (a.length + 3) ≤ 150 * 153 := Nat.mul_le_mul hl (by omega)
  exact rby_l0 M hM a key hk9 (by omega) ht a.length 0 k (by omega) (by omega)
theorem rrise_l (M : Nat) (hM : M ≤ 1000000000000000000) (a : List (List S28)) (key : List Int) (hk9 : key.length ≤ 1000) (hl : a.length ≤ 1000) (ht : ∀ r ∈ a, TU M r) : ∀ (d j k : Nat), j + d = a.length - 1 → d + 2 * M + 1010 ≤ k →
    ref16_Rise.l0 k a key ((j + 1 : Nat) : Int) = some (((List.range (a.length - 1)).drop j).all fun j => !decide (cfRow a key (j + 1) j < 0)) := by
  intro d
  induction d with
  | zero =>
    intro j k hj hk
    obtain ⟨k, rfl⟩ : ∃ m, k = m + 1 := ⟨k - 1, by omega⟩
    rw [ref16_Rise.l0, if_neg (by omega), List.drop_eq_nil_of_le (by rw [List.length_range]; omega)]
    rfl
  | succ d ih =>
    intro j k hj hk
    obtain ⟨k, rfl⟩ : ∃ m, k = m + 1 := ⟨k - 1, by omega⟩
    have wj : wrap64 (((j + 1 : Nat) : Int) - 1) = (j : Int) := by unfold wrap64; omega
    have hj1 : j + 1 < a.length := by omega
    have hj0 : j < a.length := by omega
    have hjr : j < (List.range (a.length - 1)).length := by rw [List.length_range]; omega
    have e0 : a.getD j [] = a[j] := by rw [List.getD_eq_getElem?_getD, List.getElem?_eq_getElem hj0]; rfl
    have e1 : a.getD (j + 1) [] = a[j + 1] := by rw [List.getD_eq_getElem?_getD, List.getElem?_eq_getElem hj1]; rfl
    have hanti : cmpRow a[j + 1] a[j] key = - cmpRow a[j] a[j + 1] key := cmpRow_anti _ _ key
    rw [ref16_Rise.l0, if_pos (by omega), wj, if_pos (by omega), if_pos (by omega), if_pos (by omega), rdL3 a j hj0, rdL3 a (j + 1) hj1, rorder_f M hM k _ _ key hk9 (ht _ (List.getElem_mem hj0)) (by omega), Option.bind_some, w1 (by omega), ih (j + 1) k (by omega) (by omega), List.drop_eq_getElem_cons hjr, List.all_cons, List.getElem_range]
    show _ = some (!decide (cmpRow (a.getD (j + 1) []) (a.getD j []) key < 0) && _)
    rw [e0, e1]
    by_cases hgt : cmpRow a[j] a[j + 1] key > 0
    · rw [if_pos hgt, decide_eq_true (show cmpRow a[j + 1] a[j] key < 0 by omega)]
      rfl
    · rw [if_neg hgt, decide_eq_false (show ¬ cmpRow a[j + 1] a[j] key < 0 by omega)]
      rfl
theorem rrise_f (M : Nat) (hM : M ≤ 1000000000000000000) (k : Nat) (a : List (List S28)) (key : List Int) (hk9 : key.length ≤ 1000) (hl : a.length ≤ 1000) (ht : ∀ r ∈ a, TU M r) (hk : 2 * M + 3000 ≤ k) : ref16_Rise.f k a key = some (riseB a key) := by
  unfold ref16_Rise.f
  have := rrise_l M hM a key hk9 hl ht (a.length - 1) 0 k (by omega) (by omega)
  rw [List.drop_zero] at this
  exact this
/-! ## columns -/
def colsR (cols : List Int) (r : List S28) : List S28 := cols.map (atV r)
def colsL (rows : List (List S28)) (cols : List Int) : List (List S28) := rows.map (colsR cols)
theorem cols_l1 (cols : List Int) (out : List (List S28)) (row : List S28) (rows : List (List S28)) (len i : Int) (hc : cols.length ≤ 1000) : ∀ (d j k : Nat) (acc : List S28), j + d = cols.length → acc.length = j →
    sorted_Cols.l1 (d + 1 + k) cols out row acc rows len i cols (cols.length : Int) (j : Int) = if out.length < 5864062014805 then sorted_Cols.l0 k cols (out ++ [acc ++ (cols.drop j).map (atV row)]) rows len (wrap64 (i + 1)) else none := by
  intro d
  induction d with
  | zero =>
    intro j k acc hj ha
    rw [show 0 + 1 + k = k + 1 by omega, sorted_Cols.l1, if_neg (by omega), List.drop_eq_nil_of_le (by omega), List.map_nil, List.append_nil]
  | succ d ih =>
    intro j k acc hj ha
    have hjl : j < cols.length := by omega
    rw [show d + 1 + 1 + k = (d + 1 + k) + 1 by omega, sorted_Cols.l1, if_pos (by omega), if_pos (by omega), if_pos (by omega), at_f, Option.bind_some, if_pos (by omega), w1 (by omega), rd_i cols j hjl]
    rw [ih (j + 1) k _ (by omega) (by simp [ha]), List.drop_eq_getElem_cons hjl, List.map_cons, List.append_assoc]
    rfl
theorem cols_l0 (cols : List Int) (rows : List (List S28)) (hc : cols.length ≤ 1000) (hr : rows.length ≤ 1000) : ∀ (d i k : Nat) (out : List (List S28)), i + d = rows.length → d * (cols.length + 2) + 1 ≤ k → out.length = i →
    sorted_Cols.l0 k cols out rows (rows.length : Int) (i : Int) = some (out ++ (rows.drop i).map (colsR cols)) := by
  intro d
  induction d with
  | zero =>
    intro i k out hi hk ho
    obtain ⟨k, rfl⟩ : ∃ m, k = m + 1 := ⟨k - 1, by omega⟩
    rw [sorted_Cols.l0, if_neg (by omega), List.drop_eq_nil_of_le (by omega), List.map_nil, List.append_nil]
  | succ d ih =>
    intro i k out hi hk ho
    have hil : i < rows.length := by omega
    rw [Nat.add_mul, Nat.one_mul] at hk
    obtain ⟨k2, rfl⟩ : ∃ m, k = (cols.length + 1 + m) + 1 := ⟨k - (cols.length + 2), by omega⟩
    rw [sorted_Cols.l0, if_pos (by omega), if_pos (by omega), if_pos (by omega)]
    have := cols_l1 cols out (rd_L3 rows (i : Int)) rows (rows.length : Int) (i : Int) hc cols.length 0 k2 [] (by omega) rfl
    rw [show ((0 : Nat) : Int) = 0 from rfl] at this
    rw [this, if_pos (by omega), w1 (by omega), ih (i + 1) k2 _ (by omega) (by omega) (by simp [ho]), List.drop_eq_getElem_cons hil, List.map_cons, List.append_assoc, List.nil_append, List.drop_zero, rdL3 rows i hil]
    rfl
theorem cols_f (k : Nat) (rows : List (List S28)) (cols : List Int) (hc : cols.length ≤ 9) (hr : rows.length ≤ 150) (hk : 1700 ≤ k) : sorted_Cols.f k rows cols = some (colsL rows cols) := by
  unfold sorted_Cols.f
  have h1 : rows.length * (cols.length + 2) ≤ 150 * 11 := Nat.mul_le_mul hr (by omega)
  have := cols_l0 cols rows (by omega) (by omega) rows.length 0 k [] (by omega) (by omega) rfl
  rw [List.drop_zero] at this
  exact this
theorem rcols_l1 (cols : List Int) (rows out : List (List S28)) (i : Nat) (hi : i < rows.length) (hc : cols.length ≤ 1000) : ∀ (d j k : Nat) (acc : List S28), j + d = cols.length → acc.length = j →
    ref16_Cols.l1 (d + 1 + k) rows cols out (i : Int) acc (j : Int) = if out.length < 5864062014805 then ref16_Cols.l0 k rows cols (out ++ [acc ++ (cols.drop j).map (atV rows[i])]) (wrap64 ((i : Int) + 1)) else none := by
  intro d
  induction d with
  | zero =>
    intro j k acc hj ha
    rw [show 0 + 1 + k = k + 1 by omega, ref16_Cols.l1, if_neg (by omega), List.drop_eq_nil_of_le (by omega), List.map_nil, List.append_nil]
  | succ d ih =>
    intro j k acc hj ha
    have hjl : j < cols.length := by omega
    rw [show d + 1 + 1 + k = (d + 1 + k) + 1 by omega, ref16_Cols.l1, if_pos (by omega), if_pos (by omega), if_pos (by omega), if_pos (by omega), rdL3 rows i hi, rd_i cols j hjl, rat_f, Option.bind_some, if_pos (by omega), w1 (by omega)]
    rw [ih (j + 1) k _ (by omega) (by simp [ha]), List.drop_eq_getElem_cons hjl, List.map_cons, List.append_assoc]
    rfl
theorem rcols_l0 (cols : List Int) (rows : List (List S28)) (hc : cols.length ≤ 1000) (hr : rows.length ≤ 1000) : ∀ (d i k : Nat) (out : List (List S28)), i + d = rows.length → d * (cols.length + 2) + 1 ≤ k → out.length = i →
    ref16_Cols.l0 k rows cols out (i : Int) = some (out ++ (rows.drop i).map (colsR cols)) := by
  intro d
  induction d with
  | zero =>
    intro i k out hi hk ho
    obtain ⟨k, rfl⟩ : ∃ m, k = m + 1 := ⟨k - 1, by omega⟩
    rw [ref16_Cols.l0, if_neg (by omega), List.drop_eq_nil_of_le (by omega), List.map_nil, List.append_nil]
  | succ d ih =>
    intro i k out hi hk ho
    have hil : i < rows.length := by omega
    rw [Nat.add_mul, Nat.one_mul] at hk
    obtain ⟨k2, rfl⟩ : ∃ m, k = (cols.length + 1 + m) + 1 := ⟨k - (cols.length + 2), by omega⟩
    rw [ref16_Cols.l0, if_pos (by omega)]
    have := rcols_l1 cols rows out i hil hc cols.length 0 k2 [] (by omega) rfl
    rw [show ((0 : Nat) : Int) = 0 from rfl] at this
    rw [this, if_pos (by omega), w1 (by omega), ih (i + 1) k2 _ (by omega) (by omega) (by simp [ho]), List.drop_eq_getElem_cons hil, List.map_cons, List.append_assoc, List.nil_append, List.drop_zero]
    rfl
theorem rcols_f (k : Nat) (rows : List (List S28)) (cols : List Int) (hc : cols.length ≤ 9) (hr : rows.length ≤ 150) (hk : 1700 ≤ k) : ref16_Cols.f k rows cols = some (colsL rows cols) := by
  unfold ref16_Cols.f
  have h1 : rows.length * (cols.length + 2) ≤ 150 * 11 := Nat.mul_le_mul hr (by omega)
  have := rcols_l0 cols rows (by omega) (by omega) rows.length 0 k [] (by omega) (by omega) rfl
  rw [List.drop_zero] at this
  exact this
end Go.Proofs.Ythpoeljnmdjjiaa.PSrn
end
section
/-
  Plain laws for SortedRows: the document's bag is the program's.
-/
namespace Go.Proofs.Ythpoeljnmdjjiaa.PSrn
open Go.RowKit Go.Proofs.Ythpoeljnmdjjiaa.Hand Go.Proofs.Ythpoeljnmdjjiaa.Srt Go.Proofs.YthpoeljnmdjjiaaW.PrintWords Go.Proofs.YthpoeljnmdjjiaaW.PrintLast Go.Proofs.YthpoeljnmdjjiaaW.PrintMore
set_option linter.unusedVariables false
set_option linter.unusedSimpArgs false

/-- The rows that are not used yet. -/
def un : List (List S28) → List Bool → List (List S28)
  | r :: b, u :: us => if u = true then un b us else r :: un b us
  | _, _ => []
theorem un_none : ∀ b : List (List S28), un b (List.replicate b.length false) = b
  | [] => rfl
  | r :: b => by
    rw [List.length_cons, List.replicate_succ]
    show (if false = true then _ else r :: un b (List.replicate b.length false)) = _
    rw [if_neg (by decide), un_none b]
theorem un_set : ∀ (b : List (List S28)) (us : List Bool) (j : Nat) (hj : j < b.length) (hu : j < us.length), us[j] = false → (b[j] :: un b (us.set j true)).Perm (un b us)
  | r :: b, u :: us, 0, hj, hu, h => by
    simp only [List.getElem_cons_zero] at h
    subst h
    show (r :: (if true = true then un b us else _)).Perm (if false = true then _ else r :: un b us)
    rw [if_pos rfl, if_neg (by decide)]
  | r :: b, u :: us, j + 1, hj, hu, h => by
    have hjb : j < b.length := by simpa using hj
    have ih := un_set b us j hjb (by simpa using hu) (by simpa using h)
    simp only [List.getElem_cons_succ, List.set_cons_succ]
    cases u
    · show (b[j] :: (if false = true then _ else r :: un b (us.set j true))).Perm (if false = true then _ else r :: un b us)
      rw [if_neg (by decide), if_neg (by decide)]
      exact (List.Perm.swap _ _ _).trans (ih.cons r)
    · show (b[j] :: (if true = true then un b (us.set j true) else _)).Perm (if true = true then un b us else _)
      rw [if_pos rfl, if_pos rfl]
      exact ih
theorem rbool (us : List Bool) (j : Nat) (h : j < us.length) : rdOf false us (j : Int) = us[j] := by
  unfold rdOf; rw [Int.toNat_natCast, List.getD_eq_getElem?_getD, List.getElem?_eq_getElem h]; rfl
theorem un_drop (b : List (List S28)) (us : List Bool) (j : Nat) (hj : j < b.length) (hu : j < us.length) : un (b.drop j) (us.drop j) = if us[j] = true then un (b.drop (j + 1)) (us.drop (j + 1)) else b[j] :: un (b.drop (j + 1)) (us.drop (j + 1)) := by
  rw [List.drop_eq_getElem_cons hj, List.drop_eq_getElem_cons hu]
  rfl
/-- One row sought among those that are not used yet. -/
theorem rbag_l1 (a b : List (List S28)) (us : List Bool) (hlu : us.length = b.length) (hb : b.length ≤ 1000) (haa : a.length ≤ 1000) (i : Nat) (hi : i < a.length) (h9 : a[i].length ≤ 9) (K : Nat) (hK : 20 ≤ K) : ∀ (d j : Nat), j + d = b.length →
    (∃ j2 k2, ∃ h : j2 < b.length, ∃ hu : j2 < us.length, us[j2] = false ∧ b[j2] = a[i] ∧ K ≤ k2 ∧ ref16_Bag.l1 (2 * d + 2 + K) a b us (i : Int) false (j : Int) = ref16_Bag.l0 k2 a b (us.set j2 true) ((i + 1 : Nat) : Int)) ∨
    (¬ a[i] ∈ un (b.drop j) (us.drop j) ∧ ref16_Bag.l1 (2 * d + 2 + K) a b us (i : Int) false (j : Int) = some false) := by
  intro d
  induction d with
  | zero =>
    intro j hj
    right
    refine ⟨?_, ?_⟩
    · rw [List.drop_eq_nil_of_le (show b.length ≤ j by omega)]
      unfold un
      simp
    · rw [show 2 * 0 + 2 + K = (K + 1) + 1 by omega, ref16_Bag.l1, if_neg (by omega), ref16_Bag.j2, if_neg (by decide), if_neg (by decide)]
  | succ d ih =>
    intro j hj
    have hjl : j < b.length := by omega
    have hju : j < us.length := by omega
    have hf : 2 * (d + 1) + 2 + K = (2 * d + 2 + K + 1) + 1 := by omega
    have step : ref16_Bag.l1 (2 * (d + 1) + 2 + K) a b us (i : Int) false (j : Int) = (if us[j] = true then ref16_Bag.l1 (2 * d + 2 + K) a b us (i : Int) false ((j + 1 : Nat) : Int) else if eqRow a[i] b[j] = true then ref16_Bag.l1 (2 * d + 2 + K) a b (us.set j true) (i : Int) true ((j + 1 : Nat) : Int) else ref16_Bag.l1 (2 * d + 2 + K) a b us (i : Int) false ((j + 1 : Nat) : Int)) := by
      rw [hf, ref16_Bag.l1, if_pos (by omega), ref16_Bag.j2, if_pos (by decide), if_pos (by omega), if_pos (by omega), rbool us j hju, w1 (by omega)]
      by_cases hu : us[j] = true
      · rw [if_pos hu, if_pos hu]
      · rw [if_neg hu, if_neg hu, if_pos (by omega), if_pos (by omega), if_pos (by omega), rdL3 a i hi, rdL3 b j hjl, same_f (2 * d + 2 + K) a[i] b[j] (by omega) (by omega), Option.bind_some]
        rfl
    cases hu : us[j] with
    | true =>
      have s1 : ref16_Bag.l1 (2 * (d + 1) + 2 + K) a b us (i : Int) false (j : Int) = ref16_Bag.l1 (2 * d + 2 + K) a b us (i : Int) false ((j + 1 : Nat) : Int) := by rw [step, if_pos hu]
      have s2 : un (b.drop j) (us.drop j) = un (b.drop (j + 1)) (us.drop (j + 1)) := by rw [un_drop b us j hjl hju, if_pos hu]
      rw [s1, s2]
      exact ih (j + 1) (by omega)
    | false =>
      have hun : ¬ us[j] = true := by rw [hu]; decide
      have s2 : un (b.drop j) (us.drop j) = b[j] :: un (b.drop (j + 1)) (us.drop (j + 1)) := by rw [un_drop b us j hjl hju, if_neg hun]
      rw [if_neg hun] at step
      cases he : eqRow a[i] b[j] with
      | false =>
        have hen : ¬ eqRow a[i] b[j] = true := by rw [he]; decide
        rw [if_neg hen] at step
        rw [step, s2]
        rcases ih (j + 1) (by omega) with h | ⟨h1, h2⟩
        · exact .inl h
        · refine .inr ⟨fun hm => ?_, h2⟩
          rcases List.mem_cons.1 hm with e | e
          · exact hen (eqRow_eq.2 e)
          · exact h1 e
      | true =>
        rw [if_pos he] at step
        rw [step]
        left
        have hfound : ref16_Bag.l1 (2 * d + 2 + K) a b (us.set j true) (i : Int) true ((j + 1 : Nat) : Int) = ref16_Bag.l0 (2 * d + K) a b (us.set j true) ((i + 1 : Nat) : Int) := by
          rw [show 2 * d + 2 + K = (2 * d + K + 1) + 1 by omega, ref16_Bag.l1]
          have hn : ref16_Bag.j2 (2 * d + K + 1) a b (us.set j true) (i : Int) true ((j + 1 : Nat) : Int) false = ref16_Bag.l0 (2 * d + K) a b (us.set j true) ((i + 1 : Nat) : Int) := by
            rw [ref16_Bag.j2, if_neg (by decide), if_pos rfl, w1 (by omega)]
          split
          · exact hn
          · exact hn
        exact ⟨j, 2 * d + K, hjl, hju, hu, (eqRow_eq.1 he).symm, by omega, hfound⟩
theorem rbag_l0 (a b : List (List S28)) (hb : b.length ≤ 150) (ha : a.length = b.length) (hs : Short a) : ∀ (d i k : Nat) (us : List Bool), i + d = a.length → us.length = b.length → (a.drop i).length = (un b us).length → d * (2 * b.length + 30) + 30 ≤ k →
    ∃ r, ref16_Bag.l0 k a b us (i : Int) = some r ∧ (r = true ↔ (a.drop i).Perm (un b us)) := by
  intro d
  induction d with
  | zero =>
    intro i k us hi hu hl hk
    obtain ⟨k, rfl⟩ : ∃ m, k = m + 1 := ⟨k - 1, by omega⟩
    refine ⟨true, by rw [ref16_Bag.l0, if_neg (by omega)], ?_⟩
    have h1 : a.drop i = [] := List.drop_eq_nil_of_le (by omega)
    rw [h1] at hl ⊢
    have h2 : un b us = [] := List.eq_nil_of_length_eq_zero hl.symm
    rw [h2]
    simp
  | succ d ih =>
    intro i k us hi hu hl hk
    rw [Nat.add_mul, Nat.one_mul] at hk
    have hil : i < a.length := by omega
    have h9 := hs _ (List.getElem_mem hil)
    obtain ⟨k, rfl⟩ : ∃ m, k = (2 * b.length + 2 + m) + 1 := ⟨k - (2 * b.length + 3), by omega⟩
    rw [ref16_Bag.l0, if_pos (by omega)]
    have key := rbag_l1 a b us hu (by omega) (by omega) i hil h9 k (by omega) b.length 0 (by omega)
    rw [show ((0 : Nat) : Int) = 0 from rfl, List.drop_zero, List.drop_zero] at key
    have hd : a.drop i = a[i] :: a.drop (i + 1) := List.drop_eq_getElem_cons hil
    rcases key with ⟨j2, k2, hj, hju, e1, e2, hk2, e3⟩ | ⟨hno, e3⟩
    · rw [e3]
      have hp := un_set b us j2 hj hju e1
      rw [e2] at hp
      have hl2 : (a.drop (i + 1)).length = (un b (us.set j2 true)).length := by
        have := hp.length_eq
        rw [hd] at hl
        simp only [List.length_cons] at hl this
        omega
      obtain ⟨r, h1, h2⟩ := ih (i + 1) k2 (us.set j2 true) (by omega) (by rw [List.length_set]; exact hu) hl2 (by omega)
      refine ⟨r, h1, h2.trans ?_⟩
      rw [hd]
      constructor
      · intro h
        exact (h.cons a[i]).trans hp
      · intro h
        exact (List.perm_cons a[i]).1 (h.trans hp.symm)
    · refine ⟨false, e3, ?_⟩
      constructor
      · intro h; cases h
      · intro h
        rw [hd] at h
        exact absurd (h.mem_iff.1 (List.mem_cons_self ..)) hno
theorem rbag_f (k : Nat) (a b : List (List S28)) (ha : a.length ≤ 150) (hb : b.length ≤ 150) (hs : Short a) (hk : 60000 ≤ k) : ref16_Bag.f k a b = some (bagB a b) := by
  unfold ref16_Bag.f
  by_cases hl : a.length = b.length
  · have h1 : a.length * (2 * b.length + 30) ≤ 150 * 330 := Nat.mul_le_mul ha (by omega)
    rw [if_pos (by omega), if_pos (by omega), if_pos (by omega), Int.toNat_natCast]
    obtain ⟨r, h2, h3⟩ := rbag_l0 a b hb hl hs a.length 0 k (List.replicate b.length false) (by omega) (by simp) (by rw [un_none, List.drop_zero]; exact hl) (by omega)
    rw [show ((0 : Nat) : Int) = 0 from rfl] at h2
    rw [h2]
    rw [un_none, List.drop_zero] at h3
    congr 1
    rw [Bool.eq_iff_iff, h3, bagB_iff]
  · rw [if_neg (by omega)]
    congr 1
    symm
    refine Bool.eq_false_iff.2 (fun h => hl ((bagB_iff _ _).1 h).length_eq)
end Go.Proofs.Ythpoeljnmdjjiaa.PSrn
end
