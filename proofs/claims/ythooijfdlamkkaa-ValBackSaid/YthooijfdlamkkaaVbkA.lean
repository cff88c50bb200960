/-
  Any value's bytes and any bytes read, plainly (ValBack).
-/
import Derived.Test.YthooijfdlamkkaaPVbkx15
import Derived.Test.YthooijfdlamkkaaLebN
namespace Go.Proofs.Ythooijfdlamkkaa.PureB
open Go.RowKit Go.Proofs.Ythooijfdlamkkaa.PVbk Go.Proofs.YthooijfdlamkkaaW.PrintWords Go.Proofs.YthooijfdlamkkaaW.PrintLast Go.Proofs.YthooijfdlamkkaaW.PrintMore
open Go.Proofs.Ythooijfdlamkkaa.Hand

/-- A value. -/
structure S32 where
  f0 : Int
  f1 : Int
  f2 : ByteArray
def mayOf (v : S32) : Bool := (val_May.f v.f0 v.f1 v.f2).getD false
def U (a : Int) : Prop := 0 ≤ a ∧ a < 18446744073709551616
def cl (a : Int) : Int := if a % 9223372036854775808 > 9218868437227405312 then 9221120237041090560 else a
theorem clean_f {a : Int} (h : U a) : flt_Clean.f a = some (cl a) := by unfold flt_Clean.f Hand.fltClean; exact if_pos h
theorem cl_U {a : Int} (h : U a) : U (cl a) := by obtain ⟨h1, h2⟩ := h; unfold cl U; split <;> omega
theorem key_f {a : Int} (h : U a) : flt_Key.f a = some (Hand.keyOf (cl a)) := by
  unfold flt_Key.f Hand.fltKey
  have := clean_f h
  unfold flt_Clean.f at this
  rw [this]; rfl
theorem u64_U (i : Int) : U (IntKind.u64.wrap i) := by rw [IntKind.wrap_u64]; unfold U; omega
def dig : Nat → Int → List Int
  | 0, _ => []
  | n + 1, a => (a / 256 ^ n % 256) :: dig n a
theorem dig_len (a : Int) : ∀ n, (dig n a).length = n
  | 0 => rfl
  | n + 1 => by simp [dig, dig_len a n]
theorem bytes_l (K : Int) : val_Bytes.l0 9 K [] 0 = some (dig 8 K, 0) := by
  have s : ∀ (x n : Int) (m : Nat), IntKind.u64.wrap (wrap64 (8 * wrap64 (7 - n))) = x → x.toNat = 8 * m → 8 * m ≤ 64 → shr .u64 K (IntKind.u64.wrap (wrap64 (8 * wrap64 (7 - n)))) = K / 256 ^ m := by
    intro x n m h1 h2 h3
    rw [h1]
    unfold shr
    rw [h2, show min (8 * m) IntKind.u64.bits = 8 * m from Nat.min_eq_left h3, Int.pow_mul]
    rfl
  have s0 := s 56 0 7 (by decide +kernel) rfl (by decide +kernel)
  have s1 := s 48 1 6 (by decide +kernel) rfl (by decide +kernel)
  have s2 := s 40 2 5 (by decide +kernel) rfl (by decide +kernel)
  have s3 := s 32 3 4 (by decide +kernel) rfl (by decide +kernel)
  have s4 := s 24 4 3 (by decide +kernel) rfl (by decide +kernel)
  have s5 := s 16 5 2 (by decide +kernel) rfl (by decide +kernel)
  have s6 := s 8 6 1 (by decide +kernel) rfl (by decide +kernel)
  have s7 := s 0 7 0 (by decide +kernel) rfl (by decide +kernel)
  have step : ∀ (k : Nat) (acc : List Int) (n m : Int) (d : Int), n < 8 → 0 ≤ IntKind.u64.wrap (wrap64 (8 * wrap64 (7 - n))) → acc.length < 100 → shr .u64 K (IntKind.u64.wrap (wrap64 (8 * wrap64 (7 - n)))) = d → wrap64 (n + 1) = m →
      val_Bytes.l0 (k + 1) K acc n = val_Bytes.l0 k K (acc ++ [d % 256]) m := by
    intro k acc n m d h1 h2 h3 h4 h5
    rw [val_Bytes.l0, if_pos h1, if_pos h2, if_pos (by omega), h4, h5]
  rw [step 8 _ 0 1 _ (by decide +kernel) (by decide +kernel) (by simp) s0 (by decide +kernel), step 7 _ 1 2 _ (by decide +kernel) (by decide +kernel) (by simp) s1 (by decide +kernel), step 6 _ 2 3 _ (by decide +kernel) (by decide +kernel) (by simp) s2 (by decide +kernel),
    step 5 _ 3 4 _ (by decide +kernel) (by decide +kernel) (by simp) s3 (by decide +kernel), step 4 _ 4 5 _ (by decide +kernel) (by decide +kernel) (by simp) s4 (by decide +kernel), step 3 _ 5 6 _ (by decide +kernel) (by decide +kernel) (by simp) s5 (by decide +kernel),
    step 2 _ 6 7 _ (by decide +kernel) (by decide +kernel) (by simp) s6 (by decide +kernel), step 1 _ 7 8 _ (by decide +kernel) (by decide +kernel) (by simp) s7 (by decide +kernel)]
  rw [val_Bytes.l0, if_neg (by decide +kernel)]
  rfl
theorem more_l (K : Int) : ∀ j, val_Bytes.l0 (9 + j) K [] 0 = some (dig 8 K, 0)
  | 0 => bytes_l K
  | j + 1 => (val_Bytes.mono_l (9 + j)) _ _ _ _ (more_l K j)
theorem empty_bool (s : ByteArray) : (s.toList == ([] : List UInt8)) = decide (s.size = 0) := by
  rw [ByteArray.toList_eq, Bool.eq_iff_iff, beq_iff_eq, decide_eq_true_iff]
  cases s with | mk d => simp [ByteArray.size]
theorem may_some (k i : Int) (s : ByteArray) : ∃ b, val_May.f k i s = some b := by
  unfold val_May.f
  rw [clean_f (u64_U i)]
  simp only [Option.bind_some]
  repeat' split
  all_goals exact ⟨_, rfl⟩
theorem may_of (v : S32) : val_May.f v.f0 v.f1 v.f2 = some (mayOf v) := by
  obtain ⟨b, hb⟩ := may_some v.f0 v.f1 v.f2
  unfold mayOf
  rw [hb]; rfl
/-- A value's bytes. -/
def vby (v : S32) : List Int := if v.f0 = 1 then putL 9 (zig v.f1) else if v.f0 = 2 then dig 8 (Hand.keyOf (cl (IntKind.u64.wrap v.f1))) else if v.f0 = 3 then putL 9 (v.f2.size : Int) ++ bytesOf v.f2 else []
def Wf (v : S32) : Prop := (-9223372036854775808 ≤ v.f1 ∧ v.f1 < 9223372036854775808) ∧ v.f2.size ≤ 140737488351232
theorem text_f (s : ByteArray) (h : s.size ≤ 140737488351232) : leb_Text.f s = some (putL 9 (s.size : Int) ++ bytesOf s) := by
  have h2 : (0 : Int) ≤ s.size ∧ (s.size : Int) < 18446744073709551616 := by omega
  have hw : IntKind.u64.wrap (s.size : Int) = s.size := by rw [IntKind.wrap_u64]; omega
  have := putL9_len (n := (s.size : Int))
  unfold leb_Text.f leb_Put.f
  rw [hw, lebPut_eq h2]
  simp only [Option.bind_some]
  rw [if_pos (by omega)]
theorem vbytes_f (v : S32) (hv : Wf v) (k : Nat) (hk : 9 ≤ k) : val_Bytes.f k v.f0 v.f1 v.f2 = some (if mayOf v = true then (vby v, 0) else ([], 1)) := by
  obtain ⟨j, rfl⟩ : ∃ j, k = 9 + j := ⟨k - 9, by omega⟩
  unfold val_Bytes.f
  rw [may_of v]
  simp only [Option.bind_some]
  cases mayOf v with
  | false => rfl
  | true =>
    rw [if_pos rfl, if_pos rfl, text_f v.f2 hv.2]
    unfold leb_Zig.f leb_Put.f vby
    rw [lebZig_eq hv.1, key_f (u64_U v.f1)]
    simp only [Option.bind_some]
    rw [lebPut_eq (zig_range hv.1), more_l]
    simp only [Option.bind_some]
    repeat' split
    all_goals rfl
theorem may_text {v : S32} (h : mayOf v = true) (h3 : v.f0 = 3) : v.f2.size ≤ 1024 := by
  have h2 := may_of v
  rw [h] at h2
  unfold val_May.f at h2
  rw [if_neg (by omega), if_neg (by omega), if_pos h3] at h2
  split at h2
  · have := of_decide_eq_true (Option.some.inj h2); omega
  · cases h2
theorem vby_len {v : S32} (h : mayOf v = true) : (vby v).length ≤ 2000 := by
  unfold vby
  split
  · have := putL9_len (n := zig v.f1); omega
  · split
    · rw [dig_len]; omega
    · split
      · have := may_text h (by assumption)
        have := putL9_len (n := (v.f2.size : Int))
        rw [List.length_append, bytesOf_length]; omega
      · simp
def Bs (l : List Int) : Prop := ∀ x ∈ l, 0 ≤ x ∧ x < 256
theorem Bs.at {l : List Int} (h : Bs l) (i : Nat) : 0 ≤ l.getD i 0 ∧ l.getD i 0 < 256 := by
  rw [List.getD_eq_getElem?_getD]
  rcases Nat.lt_or_ge i l.length with hi | hi
  · rw [List.getElem?_eq_getElem hi]; exact h _ (List.getElem_mem hi)
  · rw [List.getElem?_eq_none hi]; decide
theorem Bs.app {l m : List Int} (h : Bs (l ++ m)) : Bs l ∧ Bs m := ⟨fun x hx => h x (List.mem_append_left _ hx), fun x hx => h x (List.mem_append_right _ hx)⟩
theorem Bs.mk_app {l m : List Int} (h : Bs l) (h2 : Bs m) : Bs (l ++ m) := fun x hx => by
  rcases List.mem_append.1 hx with hx | hx
  · exact h x hx
  · exact h2 x hx
theorem Bs.take {l : List Int} (h : Bs l) (n : Nat) : Bs (l.take n) := fun x hx => h x (List.mem_of_mem_take hx)
theorem Bs.drop {l : List Int} (h : Bs l) (n : Nat) : Bs (l.drop n) := fun x hx => h x (List.mem_of_mem_drop hx)
theorem bytesOf_Bs (s : ByteArray) : Bs (bytesOf s) := by
  intro x hx
  unfold bytesOf at hx
  obtain ⟨b, _, rfl⟩ := List.mem_map.1 hx
  have := UInt8.toNat_lt b
  omega
theorem str_bytes (s : ByteArray) : strOfNums (bytesOf s) = s := by
  have h : ∀ x y : ByteArray, x.data = y.data → x = y := by intro x y h; cases x; cases y; simpa using h
  refine h _ _ ?_
  unfold strOfNums bytesOf
  simp only [List.map_map]
  have e : ((fun n : Int => UInt8.ofNat n.toNat) ∘ fun b : UInt8 => (b.toNat : Int)) = id := by
    funext b
    simp
  rw [e, List.map_id]
theorem bytes_str {l : List Int} (h : Bs l) : bytesOf (strOfNums l) = l := by
  unfold strOfNums bytesOf
  simp only [List.map_map]
  have e : ∀ x ∈ l, ((fun b : UInt8 => (b.toNat : Int)) ∘ fun n : Int => UInt8.ofNat n.toNat) x = x := by
    intro x hx
    obtain ⟨h1, h2⟩ := h x hx
    simp only [Function.comp, UInt8.toNat_ofNat']
    omega
  conv => rhs; rw [← List.map_id l]
  exact List.map_congr_left e
theorem bits_f {k : Int} (h : U k) : flt_Bits.f k = some (if k ≥ 9223372036854775808 then cl (k - 9223372036854775808) else cl (18446744073709551615 - k)) := by
  unfold flt_Bits.f fltBits
  rw [if_pos (show 0 ≤ k ∧ k < 18446744073709551616 from h)]
  obtain ⟨h1, h2⟩ := h
  split
  · exact clean_f ⟨by omega, by omega⟩
  · exact clean_f ⟨by omega, by omega⟩
theorem or_low (x b : Int) (hb : 0 ≤ b ∧ b < 256) : Go.bits .or .u64 (IntKind.u64.wrap (x * 256)) (IntKind.u64.wrap b) = IntKind.u64.wrap (IntKind.u64.wrap (x * 256) + IntKind.u64.wrap b) := by
  simp only [IntKind.wrap_u64]
  have e1 : x * 256 % 18446744073709551616 = 256 * (x % 72057594037927936) := by omega
  have e2 : b % 18446744073709551616 = b := by omega
  rw [e1, e2]
  have hy : 0 ≤ x % 72057594037927936 ∧ x % 72057594037927936 < 72057594037927936 := by omega
  generalize x % 72057594037927936 = y at *
  obtain ⟨n, rfl⟩ := Int.eq_ofNat_of_zero_le hy.1
  obtain ⟨c, rfl⟩ := Int.eq_ofNat_of_zero_le hb.1
  have hc : c < 2 ^ 8 := by omega
  have e := Nat.two_pow_add_eq_or_of_lt hc n
  have h3 := bits_or_u64_nat (256 * n) c (by omega) (by omega)
  have e4 : (256 * (n : Int)) = ((256 * n : Nat) : Int) := by omega
  rw [e4, h3, show (256 * n ||| c) = 256 * n + c from e.symm]
  omega
def f8 (x b : Int) : Int := (x * 256 + b) % 18446744073709551616
theorem f8_U (x b : Int) : U (f8 x b) := by unfold f8 U; omega
theorem or_f8 (x b : Int) (hb : 0 ≤ b ∧ b < 256) : Go.bits .or .u64 (IntKind.u64.wrap (x * 256)) (IntKind.u64.wrap b) = f8 x b := by
  rw [or_low x b hb]
  simp only [IntKind.wrap_u64]
  unfold f8
  omega
def bitsOf (K : Int) : Int := if K ≥ 9223372036854775808 then cl (K - 9223372036854775808) else cl (18446744073709551615 - K)
theorem bitsOf_U {K : Int} (h : U K) : U (bitsOf K) := by
  obtain ⟨h1, h2⟩ := h
  unfold bitsOf
  split
  · exact cl_U ⟨by omega, by omega⟩
  · exact cl_U ⟨by omega, by omega⟩
theorem cl_cl (a : Int) : cl (cl a) = cl a := by
  unfold cl
  by_cases h : a % 9223372036854775808 > 9218868437227405312
  · rw [if_pos h]; decide
  · rw [if_neg h, if_neg h]
theorem bitsOf_cl (K : Int) : cl (bitsOf K) = bitsOf K := by unfold bitsOf; split <;> exact cl_cl _
def floatEnd (l : List Int) (K : Int) : Int × Int × ByteArray × List Int × Int :=
  if Hand.keyOf (bitsOf K) = K then (2, wrap64 (bitsOf K), ⟨#[]⟩, l.drop 8, 0) else (0, 0, ⟨#[]⟩, [], 4)
theorem float_l (l : List Int) (hB : Bs l) (hl : l.length ≤ 140737488355000) (h8 : 8 ≤ l.length) : ∀ (j k i : Nat) (x : Int), i + j = 8 → j < k → U x →
    val_float.l0 k l x (l.take 8) ((l.take 8).length : Int) (i : Int) = some (floatEnd l (((l.take 8).drop i).foldl f8 x)) := by
  have hlen : (l.take 8).length = 8 := by rw [List.length_take]; omega
  have hBt := hB.take 8
  rw [hlen]
  intro j
  induction j with
  | zero =>
    intro k i x hi hk hx
    obtain ⟨k, rfl⟩ : ∃ j, k = j + 1 := ⟨k - 1, by omega⟩
    obtain rfl : i = 8 := by omega
    have hU := bitsOf_U hx
    have hc := bitsOf_cl x
    rw [val_float.l0, if_neg (by omega), bits_f hx]
    simp only [Option.bind_some]
    have ed : (l.take 8).drop 8 = [] := List.drop_eq_nil_of_le (by omega)
    rw [show (if x ≥ 9223372036854775808 then cl (x - 9223372036854775808) else cl (18446744073709551615 - x)) = bitsOf x from rfl, key_f hU, hc, ed, List.foldl_nil]
    simp only [Option.bind_some]
    unfold floatEnd
    split
    · rw [if_pos (by omega), if_pos (by simp; omega)]; rfl
    · rfl
  | succ j ih =>
    intro k i x hi hk hx
    obtain ⟨k, rfl⟩ : ∃ j, k = j + 1 := ⟨k - 1, by omega⟩
    have hil : i < (l.take 8).length := by omega
    have er : rd (l.take 8) (i : Int) = (l.take 8)[i] := by
      simp only [rd, Int.toNat_natCast, List.getD_eq_getElem?_getD]
      rw [List.getElem?_eq_getElem hil]; rfl
    rw [val_float.l0, if_pos (by omega), if_pos (by omega), if_pos (by rw [hlen]; omega), er, or_f8 _ _ (hBt _ (List.getElem_mem hil)),
      show wrap64 ((i : Int) + 1) = ((i + 1 : Nat) : Int) by unfold wrap64; omega, ih k (i + 1) _ (by omega) (by omega) (f8_U _ _), List.drop_eq_getElem_cons hil, List.foldl_cons]
theorem rest_of {l t : List Int} {n : Int} (hB : Bs l) (h : numGo l 0 0 = .inr (n, t)) : t.length ≤ l.length ∧ t = l.drop (l.length - t.length) := by
  have e := put_num0 hB h
  have hlen : l.length = (putL 9 n).length + t.length := by rw [e, List.length_append]
  refine ⟨by omega, ?_⟩
  rw [show l.length - t.length = (putL 9 n).length by omega]
  rw [e, List.drop_left']
  rfl
theorem inl_ne : ∀ (l : List Int) (i : Nat) (m e : Int), numGo l i m = .inl e → e ≠ 0 := by
  intro l
  induction l with
  | nil => intro i m e h; simp [numGo] at h; omega
  | cons c l ih =>
    intro i m e h
    simp only [numGo] at h
    split at h
    · injection h with h; omega
    · split at h
      · cases h
      · exact ih _ _ _ h
/-- A value of a kind, read. -/
def dec (l : List Int) (k : Int) : Int × Int × ByteArray × List Int × Int :=
  if k = 1 then (match numGo l 0 0 with | .inl e => (0, 0, ⟨#[]⟩, [], e) | .inr (n, t) => (1, zag n, ⟨#[]⟩, t, 0))
  else if k = 2 then (if (l.length : Int) < 8 then (0, 0, ⟨#[]⟩, [], 3) else floatEnd l ((l.take 8).foldl f8 0))
  else (match numGo l 0 0 with | .inl e => (0, 0, ⟨#[]⟩, [], e) | .inr (n, t) => if 1024 < n then (0, 0, ⟨#[]⟩, [], 2) else if (t.length : Int) < n then (0, 0, ⟨#[]⟩, [], 3) else (3, 0, strOfNums (t.take n.toNat), t.drop n.toNat, 0))
theorem of_f (l : List Int) (k : Int) (hB : Bs l) (hl : l.length ≤ 140737488355000) (h1 : 1 ≤ k) (h3 : k ≤ 3) (K : Nat) (hK : 20 ≤ K) : val_Of.f K l k = some (dec l k) := by
  unfold val_Of.f dec
  rw [if_neg (by omega)]
  by_cases k1 : k = 1
  · rw [if_pos k1, if_pos k1]
    unfold leb_Get.f lebGet
    rw [if_pos (show ∀ x ∈ l, 0 ≤ x ∧ x < 256 from hB)]
    simp only [Option.bind_some]
    have hr := fun (n : Int) (t : List Int) => rest_of (l := l) (n := n) (t := t) hB
    have hn := numGo_range l 0 0
    have h4 := inl_ne l 0 0
    unfold getOut
    generalize numGo l 0 0 = o at *
    rcases o with e | ⟨n, t⟩
    · simp only
      rw [if_neg (h4 e rfl)]
    · obtain ⟨r1, r2⟩ := hr _ _ rfl
      have hnr := hn n t hB (by omega) (by omega) (by decide) rfl
      simp only
      rw [if_pos trivial]
      unfold leb_Zag.f
      rw [lebZag_eq hnr]
      simp only [Option.bind_some]
      rw [if_pos (by omega), if_pos (by omega), if_pos (by simp; omega), show ((l.length : Int) - (t.length : Int)).toNat = l.length - t.length by omega, ← r2]
      rfl
  · rw [if_neg k1, if_neg k1]
    by_cases k2 : k = 2
    · rw [if_pos k2, if_pos k2]
      unfold val_float.f
      by_cases h8 : (l.length : Int) < 8
      · rw [if_pos h8, if_pos h8]; rfl
      · rw [if_neg h8, if_neg h8, if_pos (by omega)]
        have := float_l l hB hl (by omega) 8 K 0 0 rfl (by omega) ⟨by omega, by omega⟩
        rw [List.drop_zero] at this
        have this2 : val_float.l0 K l 0 (l.take 8) ((l.take 8).length : Int) 0 = some (floatEnd l ((l.take 8).foldl f8 0)) := this
        rw [this2]
        rfl
    · rw [if_neg k2, if_neg k2, if_pos (by omega)]
      unfold leb_ToText.f lebToText
      rw [if_pos ⟨hB, by omega, by omega, by omega⟩]
      unfold toTextOut
      have h4 := inl_ne l 0 0
      generalize numGo l 0 0 = o at *
      rcases o with e | ⟨n, t⟩
      · simp only [Option.bind_some]
        rw [if_neg (h4 e rfl)]
      · simp only [Option.bind_some]
        by_cases c1 : 1024 < n
        · simp only [show ((1024 : Int) < 0 ∨ 1024 < n) = True from eq_true (Or.inr c1), if_true, if_pos c1]; rfl
        · have c0 : ((1024 : Int) < 0 ∨ 1024 < n) = False := eq_false (by omega)
          simp only [c0, if_false, if_neg c1]
          by_cases c2 : (t.length : Int) < n
          · simp only [if_pos c2]; rfl
          · simp only [if_neg c2, if_true]
theorem f8_small {x b : Int} (h : 0 ≤ x ∧ x < 72057594037927936) (hb : 0 ≤ b ∧ b < 256) : f8 x b = x * 256 + b := by unfold f8; omega
theorem eight {l : List Int} (h : l.length = 8) : ∃ a b c d e f g i, l = [a, b, c, d, e, f, g, i] := by
  match l, h with
  | [a, b, c, d, e, f, g, i], _ => exact ⟨a, b, c, d, e, f, g, i, rfl⟩
theorem fold_dig {l : List Int} (hB : Bs l) (h : l.length = 8) : U (l.foldl f8 0) ∧ dig 8 (l.foldl f8 0) = l := by
  obtain ⟨a, b, c, d, e, f, g, i, rfl⟩ := eight h
  have ha := hB a (by simp); have hb := hB b (by simp); have hc := hB c (by simp); have hd := hB d (by simp)
  have he := hB e (by simp); have hf := hB f (by simp); have hg := hB g (by simp); have hi := hB i (by simp)
  simp only [List.foldl_cons, List.foldl_nil]
  rw [f8_small (x := 0) (by omega) ha, f8_small (by omega) hb, f8_small (by omega) hc, f8_small (by omega) hd, f8_small (by omega) he, f8_small (by omega) hf, f8_small (by omega) hg, f8_small (by omega) hi]
  refine ⟨⟨by omega, by omega⟩, ?_⟩
  simp only [dig]
  have e0 : (256 : Int) ^ 0 = 1 := rfl
  have e1 : (256 : Int) ^ 1 = 256 := rfl
  have e2 : (256 : Int) ^ 2 = 65536 := rfl
  have e3 : (256 : Int) ^ 3 = 16777216 := rfl
  have e4 : (256 : Int) ^ 4 = 4294967296 := rfl
  have e5 : (256 : Int) ^ 5 = 1099511627776 := rfl
  have e6 : (256 : Int) ^ 6 = 281474976710656 := rfl
  have e7 : (256 : Int) ^ 7 = 72057594037927936 := rfl
  rw [e0, e1, e2, e3, e4, e5, e6, e7]
  simp only [List.cons.injEq, and_true]
  refine ⟨?_, ?_, ?_, ?_, ?_, ?_, ?_, ?_⟩ <;> omega
theorem dig_Bs (a : Int) : ∀ n, Bs (dig n a)
  | 0 => by intro x hx; simp [dig] at hx
  | n + 1 => by
    intro x hx
    simp only [dig, List.mem_cons] at hx
    rcases hx with rfl | hx
    · omega
    · exact dig_Bs a n x hx
theorem dig_fold {K : Int} (h : U K) : (dig 8 K).foldl f8 0 = K := by
  obtain ⟨h1, h2⟩ := h
  simp only [dig]
  have e0 : (256 : Int) ^ 0 = 1 := rfl
  have e1 : (256 : Int) ^ 1 = 256 := rfl
  have e2 : (256 : Int) ^ 2 = 65536 := rfl
  have e3 : (256 : Int) ^ 3 = 16777216 := rfl
  have e4 : (256 : Int) ^ 4 = 4294967296 := rfl
  have e5 : (256 : Int) ^ 5 = 1099511627776 := rfl
  have e6 : (256 : Int) ^ 6 = 281474976710656 := rfl
  have e7 : (256 : Int) ^ 7 = 72057594037927936 := rfl
  rw [e0, e1, e2, e3, e4, e5, e6, e7]
  simp only [List.foldl_cons, List.foldl_nil]
  have s0 : f8 0 (K / 72057594037927936 % 256) = K / 72057594037927936 := by unfold f8; omega
  have s1 : f8 (K / 72057594037927936) (K / 281474976710656 % 256) = K / 281474976710656 := by unfold f8; omega
  have s2 : f8 (K / 281474976710656) (K / 1099511627776 % 256) = K / 1099511627776 := by unfold f8; omega
  have s3 : f8 (K / 1099511627776) (K / 4294967296 % 256) = K / 4294967296 := by unfold f8; omega
  have s4 : f8 (K / 4294967296) (K / 16777216 % 256) = K / 16777216 := by unfold f8; omega
  have s5 : f8 (K / 16777216) (K / 65536 % 256) = K / 65536 := by unfold f8; omega
  have s6 : f8 (K / 65536) (K / 256 % 256) = K / 256 := by unfold f8; omega
  have s7 : f8 (K / 256) (K / 1 % 256) = K := by unfold f8; omega
  rw [s0, s1, s2, s3, s4, s5, s6, s7]
/-- A column's value of a kind that may be. -/
def Ok (k : Int) (v : S32) : Prop := v.f0 = k ∧ Wf v ∧ mayOf v = true
theorem size0 {s : ByteArray} (h : s.size = 0) : s = ⟨#[]⟩ := by
  cases s with | mk d => simp only [ByteArray.size] at h; rw [Array.size_eq_zero_iff.1 h]
theorem may1 {v : S32} (h : v.f0 = 1) : mayOf v = true ↔ v.f2.size = 0 := by
  have h2 := may_of v
  unfold val_May.f at h2
  rw [if_neg (by omega), if_pos h, empty_bool] at h2
  rw [← Option.some.inj h2, decide_eq_true_iff]
theorem may2 {v : S32} (h : v.f0 = 2) : mayOf v = true ↔ v.f2.size = 0 ∧ cl (IntKind.u64.wrap v.f1) = IntKind.u64.wrap v.f1 := by
  have h2 := may_of v
  unfold val_May.f at h2
  rw [if_pos h, clean_f (u64_U v.f1)] at h2
  simp only [Option.bind_some] at h2
  split at h2
  · rename_i e
    rw [empty_bool] at h2
    rw [← Option.some.inj h2, decide_eq_true_iff]
    exact ⟨fun q => ⟨q, e.symm⟩, fun q => q.1⟩
  · rename_i e
    rw [← Option.some.inj h2]
    exact ⟨fun q => (by cases q), fun q => absurd q.2.symm e⟩
theorem may3 {v : S32} (h : v.f0 = 3) : mayOf v = true ↔ v.f1 = 0 ∧ v.f2.size ≤ 1024 := by
  have h2 := may_of v
  unfold val_May.f at h2
  rw [if_neg (by omega), if_neg (by omega), if_pos h] at h2
  split at h2
  · rename_i e
    rw [← Option.some.inj h2, decide_eq_true_iff]
    exact ⟨fun q => ⟨e, by omega⟩, fun q => by omega⟩
  · rename_i e
    rw [← Option.some.inj h2]
    exact ⟨fun q => (by cases q), fun q => absurd q.1 e⟩
theorem wrap_u64 {i : Int} (h : -9223372036854775808 ≤ i ∧ i < 9223372036854775808) : wrap64 (IntKind.u64.wrap i) = i := by rw [IntKind.wrap_u64]; unfold wrap64; omega
theorem u64_wrap {c : Int} (h : U c) : IntKind.u64.wrap (wrap64 c) = c := by
  obtain ⟨h1, h2⟩ := h
  rw [IntKind.wrap_u64]; unfold wrap64; omega
theorem bits_key {u : Int} (h : U u) (hc : cl u = u) : bitsOf (Hand.keyOf u) = u := by
  obtain ⟨h1, h2⟩ := h
  unfold bitsOf Hand.keyOf
  by_cases c : u ≥ 9223372036854775808
  · rw [if_pos c, if_neg (by omega), show 18446744073709551615 - (18446744073709551615 - u) = u by omega, hc]
  · rw [if_neg c, if_pos (by omega), show u + 9223372036854775808 - 9223372036854775808 = u by omega, hc]
theorem key_U {a : Int} (h : U a) : U (Hand.keyOf a) := by obtain ⟨h1, h2⟩ := h; unfold Hand.keyOf U; split <;> omega
theorem vby_Bs {k : Int} {v : S32} (h : Ok k v) : Bs (vby v) := by
  obtain ⟨_, hw, hm⟩ := h
  unfold vby
  split
  · exact putL9_range (zig_range hw.1)
  · split
    · exact dig_Bs _ _
    · split
      · exact Bs.mk_app (putL9_range ⟨by omega, by have := hw.2; omega⟩) (bytesOf_Bs _)
      · intro x hx; cases hx
theorem dec_enc {k : Int} {v : S32} (h : Ok k v) (h1 : 1 ≤ k) (h3 : k ≤ 3) (rest : List Int) : dec (vby v ++ rest) k = (v.f0, v.f1, v.f2, rest, 0) := by
  obtain ⟨hk, hw, hm⟩ := h
  unfold dec vby
  by_cases k1 : k = 1
  · have e := size0 ((may1 (by omega)).1 hm)
    rw [if_pos k1, if_pos (show v.f0 = 1 by omega), num_put0 (zig_range hw.1)]
    simp only [zag_zig, e, hk, k1]
  · rw [if_neg k1]
    by_cases k2 : k = 2
    · obtain ⟨e, hc⟩ := (may2 (by omega)).1 hm
      have hu := u64_U v.f1
      have hkU := key_U hu
      have hlen := dig_len (Hand.keyOf (IntKind.u64.wrap v.f1)) 8
      rw [if_pos k2, if_neg (show ¬ v.f0 = 1 by omega), if_pos (show v.f0 = 2 by omega), hc, if_neg (by rw [List.length_append, hlen]; omega)]
      rw [show (dig 8 (Hand.keyOf (IntKind.u64.wrap v.f1)) ++ rest).take 8 = dig 8 (Hand.keyOf (IntKind.u64.wrap v.f1)) by rw [List.take_append_of_le_length (by omega), List.take_of_length_le (by omega)], dig_fold hkU]
      unfold floatEnd
      rw [bits_key hu hc, if_pos rfl, wrap_u64 hw.1, show (dig 8 (Hand.keyOf (IntKind.u64.wrap v.f1)) ++ rest).drop 8 = rest by rw [List.drop_append_of_le_length (by omega), List.drop_of_length_le (by omega), List.nil_append], size0 e, hk, k2]
    · obtain ⟨e, hc⟩ := (may3 (by omega)).1 hm
      have hb := bytesOf_length v.f2
      rw [if_neg k2, if_neg (show ¬ v.f0 = 1 by omega), if_neg (show ¬ v.f0 = 2 by omega), if_pos (show v.f0 = 3 by omega), List.append_assoc, num_put0 ⟨by omega, by omega⟩]
      simp only
      rw [if_neg (by omega), if_neg (by rw [List.length_append, hb]; omega), Int.toNat_natCast, show (bytesOf v.f2 ++ rest).take v.f2.size = bytesOf v.f2 by rw [List.take_append_of_le_length (by omega), List.take_of_length_le (by omega)], str_bytes,
        show (bytesOf v.f2 ++ rest).drop v.f2.size = rest by rw [List.drop_append_of_le_length (by omega), List.drop_of_length_le (by omega), List.nil_append], e, hk, show k = 3 by omega]
theorem enc_dec {k : Int} {l : List Int} (hB : Bs l) (hl : l.length ≤ 140737488351232) (h1 : 1 ≤ k) (h3 : k ≤ 3) (h : (dec l k).2.2.2.2 = 0) :
    Ok k ⟨(dec l k).1, (dec l k).2.1, (dec l k).2.2.1⟩ ∧ l = vby ⟨(dec l k).1, (dec l k).2.1, (dec l k).2.2.1⟩ ++ (dec l k).2.2.2.1 := by
  unfold dec at h ⊢
  by_cases k1 : k = 1
  · rw [if_pos k1] at h ⊢
    have hp := fun (n : Int) (t : List Int) => put_num0 (l := l) (y := n) (t := t) hB
    have hn := numGo_range l 0 0
    have h4 := inl_ne l 0 0
    generalize numGo l 0 0 = o at *
    rcases o with e | ⟨n, t⟩
    · exact absurd h (h4 e rfl)
    · have hnr := hn n t hB (by omega) (by omega) (by decide) rfl
      refine ⟨⟨k1.symm, ⟨zag_range hnr, by show (0 : Nat) ≤ _; omega⟩, (may1 rfl).2 rfl⟩, ?_⟩
      unfold vby
      rw [if_pos rfl]
      show l = putL 9 (zig (zag n)) ++ t
      rw [zig_zag hnr.1]
      exact hp n t rfl
  · rw [if_neg k1] at h ⊢
    by_cases k2 : k = 2
    · rw [if_pos k2] at h ⊢
      by_cases h8 : (l.length : Int) < 8
      · rw [if_pos h8] at h; cases h
      · rw [if_neg h8] at h ⊢
        obtain ⟨hU, hd⟩ := fold_dig (hB.take 8) (by rw [List.length_take]; omega)
        unfold floatEnd at h ⊢
        by_cases hk : Hand.keyOf (bitsOf ((l.take 8).foldl f8 0)) = (l.take 8).foldl f8 0
        · rw [if_pos hk] at h ⊢
          have hbU := bitsOf_U hU
          refine ⟨⟨k2.symm, ⟨by show -9223372036854775808 ≤ wrap64 _ ∧ wrap64 _ < 9223372036854775808; unfold wrap64; omega, by show (0 : Nat) ≤ _; omega⟩, (may2 rfl).2 ⟨rfl, ?_⟩⟩, ?_⟩
          · show cl (IntKind.u64.wrap (wrap64 _)) = IntKind.u64.wrap (wrap64 _)
            rw [u64_wrap hbU, bitsOf_cl]
          · unfold vby
            rw [if_neg (show ¬ (2 : Int) = 1 by decide), if_pos rfl]
            show l = dig 8 (Hand.keyOf (cl (IntKind.u64.wrap (wrap64 _)))) ++ l.drop 8
            rw [u64_wrap hbU, bitsOf_cl, hk, hd, List.take_append_drop]
        · rw [if_neg hk] at h; cases h
    · rw [if_neg k2] at h ⊢
      have hp := fun (n : Int) (t : List Int) => put_num0 (l := l) (y := n) (t := t) hB
      have hn := numGo_range l 0 0
      have h4 := inl_ne l 0 0
      generalize numGo l 0 0 = o at *
      rcases o with e | ⟨n, t⟩
      · exact absurd h (h4 e rfl)
      · have hnr := hn n t hB (by omega) (by omega) (by decide) rfl
        have hpl := hp n t rfl
        simp only at h ⊢
        by_cases c1 : 1024 < n
        · rw [if_pos c1] at h; cases h
        · rw [if_neg c1] at h ⊢
          by_cases c2 : (t.length : Int) < n
          · rw [if_pos c2] at h; cases h
          · rw [if_neg c2]
            have hBt : Bs t := by rw [hpl] at hB; exact hB.app.2
            have hsz : (strOfNums (t.take n.toNat)).size = n.toNat := by rw [Hand.strOfNums_size, List.length_take]; omega
            refine ⟨⟨by show (3 : Int) = k; omega, ⟨by show (-9223372036854775808 : Int) ≤ 0 ∧ (0 : Int) < 9223372036854775808; omega, by show (strOfNums (t.take n.toNat)).size ≤ _; omega⟩, (may3 rfl).2 ⟨rfl, by show (strOfNums (t.take n.toNat)).size ≤ _; omega⟩⟩, ?_⟩
            unfold vby
            rw [if_neg (show ¬ (3 : Int) = 1 by decide), if_neg (show ¬ (3 : Int) = 2 by decide), if_pos rfl]
            show l = putL 9 ((strOfNums (t.take n.toNat)).size : Int) ++ bytesOf (strOfNums (t.take n.toNat)) ++ t.drop n.toNat
            rw [hsz, bytes_str (hBt.take _), List.append_assoc, List.take_append_drop, show (n.toNat : Int) = n by omega]
            exact hpl

theorem dec_rest (l : List Int) (k : Int) (h : (dec l k).2.2.2.2 ≠ 0) : (dec l k).2.2.2.1 = [] := by
  unfold dec at *
  by_cases k1 : k = 1
  · rw [if_pos k1] at h ⊢
    generalize numGo l 0 0 = o at *
    rcases o with e | ⟨n, t⟩
    · rfl
    · exact absurd rfl h
  · rw [if_neg k1] at h ⊢
    by_cases k2 : k = 2
    · rw [if_pos k2] at h ⊢
      by_cases h8 : (l.length : Int) < 8
      · rw [if_pos h8]
      · rw [if_neg h8] at h ⊢
        unfold floatEnd at *
        split at h
        · exact absurd rfl h
        · rename_i hc
          rw [if_neg hc]
    · rw [if_neg k2] at h ⊢
      generalize numGo l 0 0 = o at *
      rcases o with e | ⟨n, t⟩
      · rfl
      · simp only at h ⊢
        by_cases c1 : 1024 < n
        · rw [if_pos c1]
        · rw [if_neg c1] at h ⊢
          by_cases c2 : (t.length : Int) < n
          · rw [if_pos c2]
          · rw [if_neg c2] at h
            exact absurd rfl h
theorem may0 {v : S32} (h : v.f0 = 0) (hm : mayOf v = true) : v.f1 = 0 ∧ v.f2 = ⟨#[]⟩ := by
  have h2 := may_of v
  rw [hm] at h2
  unfold val_May.f at h2
  rw [if_neg (by omega), if_neg (by omega), if_neg (by omega), if_pos h, empty_bool] at h2
  have h3 := Option.some.inj h2
  simp only [h, Bool.and_eq_true, beq_iff_eq, decide_eq_true_eq, true_and] at h3
  exact ⟨h3.1, size0 h3.2⟩
theorem may_zero : mayOf ⟨0, 0, ⟨#[]⟩⟩ = true := by
  have h2 := may_of ⟨0, 0, ⟨#[]⟩⟩
  unfold val_May.f at h2
  rw [if_neg (by decide), if_neg (by decide), if_neg (by decide), if_pos rfl, empty_bool] at h2
  exact (Option.some.inj h2).symm
theorem may_kind {v : S32} (hm : mayOf v = true) : v.f0 = 0 ∨ (1 ≤ v.f0 ∧ v.f0 ≤ 3) := by
  have h2 := may_of v
  rw [hm] at h2
  unfold val_May.f at h2
  by_cases c2 : v.f0 = 2
  · omega
  · rw [if_neg c2] at h2
    by_cases c1 : v.f0 = 1
    · omega
    · rw [if_neg c1] at h2
      by_cases c3 : v.f0 = 3
      · omega
      · rw [if_neg c3] at h2
        by_cases c0 : v.f0 = 0
        · exact .inl c0
        · rw [if_neg c0] at h2
          cases h2
theorem of_0 (l : List Int) (hl : l.length ≤ 140737488355000) (K : Nat) : val_Of.f K l 0 = some (0, 0, ⟨#[]⟩, l, 0) := by
  unfold val_Of.f
  rw [if_pos rfl]
  simp only [Option.bind_some, List.nil_append, List.length_nil]
  rw [if_pos (by omega)]
theorem of_no (l : List Int) (k : Int) (h : k ≠ 0 ∧ ¬ (1 ≤ k ∧ k ≤ 3)) (K : Nat) : val_Of.f K l k = some (0, 0, ⟨#[]⟩, [], 1) := by
  unfold val_Of.f
  rw [if_neg h.1, if_neg (by omega), if_neg (by omega), if_neg (by omega)]
/-- What was laid down is read. -/
theorem of_bytes {v : S32} (hv : Wf v) (hm : mayOf v = true) (more : List Int) (hB : Bs more) (hl : more.length ≤ 140737488351232) (K : Nat) (hK : 30 ≤ K) : val_Of.f K (vby v ++ more) v.f0 = some (v.f0, v.f1, v.f2, more, 0) := by
  have hlen := vby_len hm
  rcases may_kind hm with h0 | h1
  · obtain ⟨e1, e2⟩ := may0 h0 hm
    have e : vby v = [] := by
      unfold vby
      rw [if_neg (by omega), if_neg (by omega), if_neg (by omega)]
    rw [e, h0, e1, e2, List.nil_append, of_0 more (by omega)]
  · have hok : Ok v.f0 v := ⟨rfl, hv, hm⟩
    rw [of_f (vby v ++ more) v.f0 (Bs.mk_app (vby_Bs hok) hB) (by rw [List.length_append]; omega) h1.1 h1.2 K (by omega), dec_enc hok h1.1 h1.2]
end Go.Proofs.Ythooijfdlamkkaa.PureB
