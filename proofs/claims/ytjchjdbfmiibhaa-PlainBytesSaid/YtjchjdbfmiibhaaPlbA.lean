/-
  Columns laid down plainly: whether values may be a column's; the bytes of values one behind the other.
-/
import Derived.Test.YtjchjdbfmiibhaaPPlbx5
import Derived.Test.YtjchjdbfmiibhaaLebN
namespace Go.Proofs.Ytjchjdbfmiibhaa.Pure
open Go.RowKit Go.Proofs.Ytjchjdbfmiibhaa.PPlb Go.Proofs.YtjchjdbfmiibhaaW.PrintWords Go.Proofs.YtjchjdbfmiibhaaW.PrintLast Go.Proofs.YtjchjdbfmiibhaaW.PrintMore
open Go.Proofs.Ytjchjdbfmiibhaa.Hand

def U (a : Int) : Prop := 0 ≤ a ∧ a < 18446744073709551616
def cl (a : Int) : Int := if a % 9223372036854775808 > 9218868437227405312 then 9221120237041090560 else a
theorem clean_f {a : Int} (h : U a) : flt_Clean.f a = some (cl a) := by unfold flt_Clean.f Hand.fltClean; exact if_pos h
theorem cl_U {a : Int} (h : U a) : U (cl a) := by obtain ⟨h1, h2⟩ := h; unfold cl U; split <;> omega
theorem key_f {a : Int} (h : U a) : flt_Key.f a = some (Hand.keyOf (cl a)) := by
  unfold flt_Key.f Hand.fltKey
  have := clean_f h
  unfold flt_Clean.f at this
  rw [this]; rfl
theorem u64_U (i : Int) : U (IntKind.u64.wrap i) := by rw [IntKind.wrap_u64]; unfold U; omega
def dig : Nat → Int → List Int
  | 0, _ => []
  | n + 1, a => (a / 256 ^ n % 256) :: dig n a
theorem dig_len (a : Int) : ∀ n, (dig n a).length = n
  | 0 => rfl
  | n + 1 => by simp [dig, dig_len a n]
theorem bytes_l (K : Int) : val_Bytes.l0 9 K [] 0 = some (dig 8 K, 0) := by
  have s : ∀ (x n : Int) (m : Nat), IntKind.u64.wrap (wrap64 (8 * wrap64 (7 - n))) = x → x.toNat = 8 * m → 8 * m ≤ 64 → shr .u64 K (IntKind.u64.wrap (wrap64 (8 * wrap64 (7 - n)))) = K / 256 ^ m := by
    intro x n m h1 h2 h3
    rw [h1]
    unfold shr
    rw [h2, show min (8 * m) IntKind.u64.bits = 8 * m from Nat.min_eq_left h3, Int.pow_mul]
    rfl
  have s0 := s 56 0 7 (by decide +kernel) rfl (by decide +kernel)
  have s1 := s 48 1 6 (by decide +kernel) rfl (by decide +kernel)
  have s2 := s 40 2 5 (by decide +kernel) rfl (by decide +kernel)
  have s3 := s 32 3 4 (by decide +kernel) rfl (by decide +kernel)
  have s4 := s 24 4 3 (by decide +kernel) rfl (by decide +kernel)
  have s5 := s 16 5 2 (by decide +kernel) rfl (by decide +kernel)
  have s6 := s 8 6 1 (by decide +kernel) rfl (by decide +kernel)
  have s7 := s 0 7 0 (by decide +kernel) rfl (by decide +kernel)
  have step : ∀ (k : Nat) (acc : List Int) (n m : Int) (d : Int), n < 8 → 0 ≤ IntKind.u64.wrap (wrap64 (8 * wrap64 (7 - n))) → acc.length < 100 → shr .u64 K (IntKind.u64.wrap (wrap64 (8 * wrap64 (7 - n)))) = d → wrap64 (n + 1) = m →
      val_Bytes.l0 (k + 1) K acc n = val_Bytes.l0 k K (acc ++ [d % 256]) m := by
    intro k acc n m d h1 h2 h3 h4 h5
    rw [val_Bytes.l0, if_pos h1, if_pos h2, if_pos (by omega), h4, h5]
  rw [step 8 _ 0 1 _ (by decide +kernel) (by decide +kernel) (by simp) s0 (by decide +kernel), step 7 _ 1 2 _ (by decide +kernel) (by decide +kernel) (by simp) s1 (by decide +kernel), step 6 _ 2 3 _ (by decide +kernel) (by decide +kernel) (by simp) s2 (by decide +kernel),
    step 5 _ 3 4 _ (by decide +kernel) (by decide +kernel) (by simp) s3 (by decide +kernel), step 4 _ 4 5 _ (by decide +kernel) (by decide +kernel) (by simp) s4 (by decide +kernel), step 3 _ 5 6 _ (by decide +kernel) (by decide +kernel) (by simp) s5 (by decide +kernel),
    step 2 _ 6 7 _ (by decide +kernel) (by decide +kernel) (by simp) s6 (by decide +kernel), step 1 _ 7 8 _ (by decide +kernel) (by decide +kernel) (by simp) s7 (by decide +kernel)]
  rw [val_Bytes.l0, if_neg (by decide +kernel)]
  rfl
theorem more_l (K : Int) : ∀ j, val_Bytes.l0 (9 + j) K [] 0 = some (dig 8 K, 0)
  | 0 => bytes_l K
  | j + 1 => (val_Bytes.mono_l (9 + j)) _ _ _ _ (more_l K j)
theorem empty_bool (s : ByteArray) : (s.toList == ([] : List UInt8)) = decide (s.size = 0) := by
  rw [ByteArray.toList_eq, Bool.eq_iff_iff, beq_iff_eq, decide_eq_true_iff]
  cases s with | mk d => simp [ByteArray.size]
theorem may_some (k i : Int) (s : ByteArray) : ∃ b, val_May.f k i s = some b := by
  unfold val_May.f
  rw [clean_f (u64_U i)]
  simp only [Option.bind_some]
  repeat' split
  all_goals exact ⟨_, rfl⟩
theorem may_of (v : S32) : val_May.f v.f0 v.f1 v.f2 = some (mayOf v) := by
  obtain ⟨b, hb⟩ := may_some v.f0 v.f1 v.f2
  unfold mayOf
  rw [hb]; rfl
/-- A value's bytes. -/
def vby (v : S32) : List Int := if v.f0 = 1 then putL 9 (zig v.f1) else if v.f0 = 2 then dig 8 (Hand.keyOf (cl (IntKind.u64.wrap v.f1))) else if v.f0 = 3 then putL 9 (v.f2.size : Int) ++ bytesOf v.f2 else []
def Wf (v : S32) : Prop := (-9223372036854775808 ≤ v.f1 ∧ v.f1 < 9223372036854775808) ∧ v.f2.size ≤ 140737488351232
theorem wf_of {v : S32} (h : wfS32 v) : Wf v := ⟨wf_i64_ h.2.1, h.2.2⟩
theorem text_f (s : ByteArray) (h : s.size ≤ 140737488351232) : leb_Text.f s = some (putL 9 (s.size : Int) ++ bytesOf s) := by
  have h2 : (0 : Int) ≤ s.size ∧ (s.size : Int) < 18446744073709551616 := by omega
  have hw : IntKind.u64.wrap (s.size : Int) = s.size := by rw [IntKind.wrap_u64]; omega
  have := putL9_len (n := (s.size : Int))
  unfold leb_Text.f leb_Put.f
  rw [hw, lebPut_eq h2]
  simp only [Option.bind_some]
  rw [if_pos (by omega)]
theorem vbytes_f (v : S32) (hv : Wf v) (k : Nat) (hk : 9 ≤ k) : val_Bytes.f k v.f0 v.f1 v.f2 = some (if mayOf v = true then (vby v, 0) else ([], 1)) := by
  obtain ⟨j, rfl⟩ : ∃ j, k = 9 + j := ⟨k - 9, by omega⟩
  unfold val_Bytes.f
  rw [may_of v]
  simp only [Option.bind_some]
  cases mayOf v with
  | false => rfl
  | true =>
    rw [if_pos rfl, if_pos rfl, text_f v.f2 hv.2]
    unfold leb_Zig.f leb_Put.f vby
    rw [lebZig_eq hv.1, key_f (u64_U v.f1)]
    simp only [Option.bind_some]
    rw [lebPut_eq (zig_range hv.1), more_l]
    simp only [Option.bind_some]
    repeat' split
    all_goals rfl
theorem may_text {v : S32} (h : mayOf v = true) (h3 : v.f0 = 3) : v.f2.size ≤ 1024 := by
  have h2 := may_of v
  rw [h] at h2
  unfold val_May.f at h2
  rw [if_neg (by omega), if_neg (by omega), if_pos h3] at h2
  split at h2
  · have := of_decide_eq_true (Option.some.inj h2); omega
  · cases h2
theorem vby_len {v : S32} (h : mayOf v = true) : (vby v).length ≤ 2000 := by
  unfold vby
  split
  · have := putL9_len (n := zig v.f1); omega
  · split
    · rw [dig_len]; omega
    · split
      · have := may_text h (by assumption)
        have := putL9_len (n := (v.f2.size : Int))
        rw [List.length_append, bytesOf_length]; omega
      · simp
/-- What Check says. -/
def chk (l : List S32) (k : Int) : Int := if k < 1 ∨ 3 < k then 1 else if 4096 < l.length then 2 else if (l.any fun v => v.f0 != k) = true then 7 else if (l.any fun v => !mayOf v) = true then 1 else 0
theorem check_f (l : List S32) (k : Int) : plain_Check.f l k = some (chk l k) := by
  unfold plain_Check.f chk
  rw [if_pos (show ∀ v ∈ l, ∃ r, val_May.f v.f0 v.f1 v.f2 = some r from fun v _ => ⟨_, may_of v⟩)]
  repeat' split
  all_goals rfl
theorem chk_ok {l : List S32} {k : Int} (h : chk l k = 0) : 1 ≤ k ∧ k ≤ 3 ∧ l.length ≤ 4096 ∧ (∀ v ∈ l, v.f0 = k) ∧ ∀ v ∈ l, mayOf v = true := by
  unfold chk at h
  split at h
  · cases h
  · split at h
    · cases h
    · split at h
      · cases h
      · split at h
        · cases h
        · rename_i h1 h2 h3 h4
          refine ⟨by omega, by omega, by omega, fun v hv => ?_, fun v hv => ?_⟩
          · simp only [List.any_eq_true, not_exists, not_and, bne_iff_ne, ne_eq, Decidable.not_not] at h3
            exact h3 v hv
          · simp only [List.any_eq_true, not_exists, not_and, Bool.not_eq_true', Bool.not_eq_false] at h4
            exact h4 v hv
theorem chk_zero {l : List S32} {k : Int} (h1 : 1 ≤ k) (h3 : k ≤ 3) (hl : l.length ≤ 4096) (hk : ∀ v ∈ l, v.f0 = k) (hm : ∀ v ∈ l, mayOf v = true) : chk l k = 0 := by
  unfold chk
  rw [if_neg (by omega), if_neg (by omega), if_neg, if_neg]
  · simp only [List.any_eq_true, not_exists, not_and, Bool.not_eq_true', Bool.not_eq_false]
    exact hm
  · simp only [List.any_eq_true, not_exists, not_and, bne_iff_ne, ne_eq, Decidable.not_not]
    exact hk
theorem rd_at (l : List S32) (i : Nat) (h : i < l.length) : rd_T32 l (i : Int) = l[i] := by
  unfold rd_T32
  rw [List.getD_eq_getElem?_getD, Int.toNat_natCast, List.getElem?_eq_getElem h]; rfl
theorem flat_len (l : List S32) (hm : ∀ v ∈ l, mayOf v = true) : (l.flatMap vby).length ≤ 2000 * l.length := by
  induction l with
  | nil => simp
  | cons v t ih =>
    have h1 := ih (fun x hx => hm x (List.mem_cons_of_mem _ hx))
    have h2 := vby_len (hm v List.mem_cons_self)
    simp only [List.flatMap_cons, List.length_append, List.length_cons]
    omega
theorem pbytes_l (l : List S32) (hl : l.length ≤ 4096) (hw : ∀ v ∈ l, Wf v) (hm : ∀ v ∈ l, mayOf v = true) : ∀ (j k i : Nat) (acc : List Int), i + j = l.length → j + 10 < k → acc.length ≤ 2000 * i →
    plain_Bytes.l0 k acc l (l.length : Int) (i : Int) = some (acc ++ (l.drop i).flatMap vby, 0) := by
  intro j
  induction j with
  | zero =>
    intro k i acc hi hk ha
    obtain ⟨k, rfl⟩ : ∃ m, k = m + 1 := ⟨k - 1, by omega⟩
    simp only [plain_Bytes.l0]
    rw [if_neg (by omega), List.drop_eq_nil_of_le (by omega)]
    simp
  | succ j ih =>
    intro k i acc hi hk ha
    obtain ⟨k, rfl⟩ : ∃ m, k = m + 1 := ⟨k - 1, by omega⟩
    have hil : i < l.length := by omega
    have hv := hw l[i] (List.getElem_mem hil)
    have hmv := hm l[i] (List.getElem_mem hil)
    have hlen := vby_len hmv
    have hww : wrap64 ((i : Int) + 1) = ((i + 1 : Nat) : Int) := by unfold wrap64; omega
    simp only [plain_Bytes.l0]
    rw [if_pos (by omega), if_pos (by omega), if_pos (by omega), rd_at l i hil, vbytes_f l[i] hv k (by omega), if_pos hmv]
    simp only [Option.bind_some]
    rw [if_pos (by omega), hww, ih k (i + 1) _ (by omega) (by omega) (by rw [List.length_append]; omega), List.drop_eq_getElem_cons hil]
    simp only [List.flatMap_cons, List.append_assoc]
/-- Bytes: where Check says so; else nothing. -/
theorem pbytes_f (l : List S32) (k : Int) (hw : ∀ v ∈ l, Wf v) (n : Nat) (hn : 5000 ≤ n) : plain_Bytes.f n l k = some (if chk l k = 0 then (l.flatMap vby, 0) else ([], chk l k)) := by
  unfold plain_Bytes.f
  rw [check_f]
  simp only [Option.bind_some]
  split
  · rename_i h
    obtain ⟨_, _, hl, _, hm⟩ := chk_ok h
    have := pbytes_l l hl hw hm l.length n 0 [] (by omega) (by omega) (by simp)
    simpa using this
  · rfl
theorem few_l (l : List S32) (hl : l.length ≤ 140737488351232) (hw : ∀ v ∈ l, Wf v) : ∀ (j k i : Nat) (n : Int), i + j = l.length → j < k → 0 ≤ n → n ≤ 200000000000000 → ∃ b, law07_few.l0 k l n (i : Int) = some b ∧ (b = true → l.length ≤ 1000) := by
  intro j
  induction j with
  | zero =>
    intro k i n hi hk h0 h1
    obtain ⟨k, rfl⟩ : ∃ m, k = m + 1 := ⟨k - 1, by omega⟩
    simp only [law07_few.l0]
    rw [if_neg (by omega)]
    split
    · exact ⟨_, rfl, fun _ => by omega⟩
    · exact ⟨_, rfl, by simp⟩
  | succ j ih =>
    intro k i n hi hk h0 h1
    obtain ⟨k, rfl⟩ : ∃ m, k = m + 1 := ⟨k - 1, by omega⟩
    have hil : i < l.length := by omega
    have hv := (hw l[i] (List.getElem_mem hil)).2
    simp only [law07_few.l0, rd_at l i hil]
    rw [if_pos (by omega)]
    split
    · rw [if_pos (by omega), show wrap64 (n + (l[i].f2.size : Int)) = n + l[i].f2.size by unfold wrap64; omega, show wrap64 ((i : Int) + 1) = ((i + 1 : Nat) : Int) by unfold wrap64; omega]
      exact ih k (i + 1) _ (by omega) (by omega) (by omega) (by omega)
    · split
      · exact ⟨_, rfl, fun _ => by omega⟩
      · exact ⟨_, rfl, by simp⟩
theorem few_f (l : List S32) (hl : l.length ≤ 140737488351232) (hw : ∀ v ∈ l, Wf v) (k : Nat) (hk : l.length < k) : ∃ b, law07_few.f k l = some b ∧ (b = true → l.length ≤ 1000) := by
  have := few_l l hl hw l.length k 0 0 (by omega) hk (by omega) (by omega)
  unfold law07_few.f
  exact this
theorem shown_f (k : Nat) (hk : 5000 ≤ k) : law07_shown.f k = some true := by
  have hw : ∀ v ∈ ([⟨1, -1, ⟨#[]⟩⟩, ⟨1, 2, ⟨#[]⟩⟩] : List S32), Wf v := by
    intro v hv
    simp only [List.mem_cons, List.not_mem_nil, or_false] at hv
    rcases hv with rfl | rfl <;> exact ⟨by decide, by decide⟩
  unfold law07_shown.f
  rw [pbytes_f _ _ hw k hk]
  decide +kernel
theorem wf_all {l : List S32} (h : Hand.WfRow 32 wfS32 l) : l.length ≤ 140737488351232 ∧ ∀ v ∈ l, Wf v := ⟨by have := h.2.1; omega, fun v hv => wf_of (h.2.2 v hv)⟩
theorem strOfNums_append (a b : List Int) : strOfNums (a ++ b) = strOfNums a ++ strOfNums b := by
  have h : ∀ x y : ByteArray, x.data = y.data → x = y := by intro x y h; cases x; cases y; simpa using h
  refine h _ _ ?_
  rw [ByteArray.data_append]
  simp [strOfNums]
end Go.Proofs.Ytjchjdbfmiibhaa.Pure
