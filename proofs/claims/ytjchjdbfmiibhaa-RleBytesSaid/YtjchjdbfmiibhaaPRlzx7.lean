import Derived.Test.YtjchjdbfmiibhaaPRlzx0
import Derived.Test.YtjchjdbfmiibhaaPRlzx3
import Derived.Test.YtjchjdbfmiibhaaPRlzx4
import Derived.Test.YtjchjdbfmiibhaaPRlzx5
import Derived.Test.YtjchjdbfmiibhaaPRlzx6
import Derived.Test.YtjchjdbfmiibhaaLebN
namespace Go.Proofs.Ytjchjdbfmiibhaa.PRlz
open Go.RowKit Go.Proofs.YtjchjdbfmiibhaaW.PrintWords Go.Proofs.YtjchjdbfmiibhaaW.PrintLast Go.Proofs.YtjchjdbfmiibhaaW.PrintMore
attribute [local go_sem] max2_int min2_int max_two min_two max_three min_three max_four min_four
set_option linter.unusedVariables false
set_option linter.unusedSimpArgs false
namespace Sh
open Go.Proofs.Ytjchjdbfmiibhaa.Hand
def U (a : Int) : Prop := 0 ≤ a ∧ a < 18446744073709551616
def cl (a : Int) : Int := if a % 9223372036854775808 > 9218868437227405312 then 9221120237041090560 else a
theorem clean_f {a : Int} (h : U a) : flt_Clean.f a = some (cl a) := by unfold flt_Clean.f Hand.fltClean; exact if_pos h
theorem cl_U {a : Int} (h : U a) : U (cl a) := by obtain ⟨h1, h2⟩ := h; unfold cl U; split <;> omega
theorem key_f {a : Int} (h : U a) : flt_Key.f a = some (Hand.keyOf (cl a)) := by
  unfold flt_Key.f Hand.fltKey
  have := clean_f h
  unfold flt_Clean.f at this
  rw [this]; rfl
theorem u64_U (i : Int) : U (IntKind.u64.wrap i) := by rw [IntKind.wrap_u64]; unfold U; omega
def dig : Nat → Int → List Int
  | 0, _ => []
  | n + 1, a => (a / 256 ^ n % 256) :: dig n a
theorem dig_len (a : Int) : ∀ n, (dig n a).length = n
  | 0 => rfl
  | n + 1 => by simp [dig, dig_len a n]
theorem bytes_l (K : Int) : val_Bytes.l0 9 K [] 0 = some (dig 8 K, 0) := by
  have s : ∀ (x n : Int) (m : Nat), IntKind.u64.wrap (wrap64 (8 * wrap64 (7 - n))) = x → x.toNat = 8 * m → 8 * m ≤ 64 → shr .u64 K (IntKind.u64.wrap (wrap64 (8 * wrap64 (7 - n)))) = K / 256 ^ m := by
    intro x n m h1 h2 h3
    rw [h1]
    unfold shr
    rw [h2, show min (8 * m) IntKind.u64.bits = 8 * m from Nat.min_eq_left h3, Int.pow_mul]
    rfl
  have s0 := s 56 0 7 (by decide +kernel) rfl (by decide +kernel)
  have s1 := s 48 1 6 (by decide +kernel) rfl (by decide +kernel)
  have s2 := s 40 2 5 (by decide +kernel) rfl (by decide +kernel)
  have s3 := s 32 3 4 (by decide +kernel) rfl (by decide +kernel)
  have s4 := s 24 4 3 (by decide +kernel) rfl (by decide +kernel)
  have s5 := s 16 5 2 (by decide +kernel) rfl (by decide +kernel)
  have s6 := s 8 6 1 (by decide +kernel) rfl (by decide +kernel)
  have s7 := s 0 7 0 (by decide +kernel) rfl (by decide +kernel)
  have step : ∀ (k : Nat) (acc : List Int) (n m : Int) (d : Int), n < 8 → 0 ≤ IntKind.u64.wrap (wrap64 (8 * wrap64 (7 - n))) → acc.length < 100 → shr .u64 K (IntKind.u64.wrap (wrap64 (8 * wrap64 (7 - n)))) = d → wrap64 (n + 1) = m →
      val_Bytes.l0 (k + 1) K acc n = val_Bytes.l0 k K (acc ++ [d % 256]) m := by
    intro k acc n m d h1 h2 h3 h4 h5
    rw [val_Bytes.l0, if_pos h1, if_pos h2, if_pos (by omega), h4, h5]
  rw [step 8 _ 0 1 _ (by decide +kernel) (by decide +kernel) (by simp) s0 (by decide +kernel), step 7 _ 1 2 _ (by decide +kernel) (by decide +kernel) (by simp) s1 (by decide +kernel), step 6 _ 2 3 _ (by decide +kernel) (by decide +kernel) (by simp) s2 (by decide +kernel),
    step 5 _ 3 4 _ (by decide +kernel) (by decide +kernel) (by simp) s3 (by decide +kernel), step 4 _ 4 5 _ (by decide +kernel) (by decide +kernel) (by simp) s4 (by decide +kernel), step 3 _ 5 6 _ (by decide +kernel) (by decide +kernel) (by simp) s5 (by decide +kernel),
    step 2 _ 6 7 _ (by decide +kernel) (by decide +kernel) (by simp) s6 (by decide +kernel), step 1 _ 7 8 _ (by decide +kernel) (by decide +kernel) (by simp) s7 (by decide +kernel)]
  rw [val_Bytes.l0, if_neg (by decide +kernel)]
  rfl
theorem more_l (K : Int) : ∀ j, val_Bytes.l0 (9 + j) K [] 0 = some (dig 8 K, 0)
  | 0 => bytes_l K
  | j + 1 => (val_Bytes.mono_l (9 + j)) _ _ _ _ (more_l K j)
theorem empty_bool (s : ByteArray) : (s.toList == ([] : List UInt8)) = decide (s.size = 0) := by
  rw [ByteArray.toList_eq, Bool.eq_iff_iff, beq_iff_eq, decide_eq_true_iff]
  cases s with | mk d => simp [ByteArray.size]
theorem may_some (k i : Int) (s : ByteArray) : ∃ b, val_May.f k i s = some b := by
  unfold val_May.f
  rw [clean_f (u64_U i)]
  simp only [Option.bind_some]
  repeat' split
  all_goals exact ⟨_, rfl⟩
theorem may_of (v : S32) : val_May.f v.f0 v.f1 v.f2 = some (mayOf v) := by
  obtain ⟨b, hb⟩ := may_some v.f0 v.f1 v.f2
  unfold mayOf
  rw [hb]; rfl
def vby (v : S32) : List Int := if v.f0 = 1 then putL 9 (zig v.f1) else if v.f0 = 2 then dig 8 (Hand.keyOf (cl (IntKind.u64.wrap v.f1))) else if v.f0 = 3 then putL 9 (v.f2.size : Int) ++ bytesOf v.f2 else []
def Wf (v : S32) : Prop := (-9223372036854775808 ≤ v.f1 ∧ v.f1 < 9223372036854775808) ∧ v.f2.size ≤ 140737488351232
theorem wf_of {v : S32} (h : wfS32 v) : Wf v := ⟨wf_i64_ h.2.1, h.2.2⟩
theorem text_f (s : ByteArray) (h : s.size ≤ 140737488351232) : leb_Text.f s = some (putL 9 (s.size : Int) ++ bytesOf s) := by
  have h2 : (0 : Int) ≤ s.size ∧ (s.size : Int) < 18446744073709551616 := by omega
  have hw : IntKind.u64.wrap (s.size : Int) = s.size := by rw [IntKind.wrap_u64]; omega
  have := putL9_len (n := (s.size : Int))
  unfold leb_Text.f leb_Put.f
  rw [hw, lebPut_eq h2]
  simp only [Option.bind_some]
  rw [if_pos (by omega)]
theorem vbytes_f (v : S32) (hv : Wf v) (k : Nat) (hk : 9 ≤ k) : val_Bytes.f k v.f0 v.f1 v.f2 = some (if mayOf v = true then (vby v, 0) else ([], 1)) := by
  obtain ⟨j, rfl⟩ : ∃ j, k = 9 + j := ⟨k - 9, by omega⟩
  unfold val_Bytes.f
  rw [may_of v]
  simp only [Option.bind_some]
  cases mayOf v with
  | false => rfl
  | true =>
    rw [if_pos rfl, if_pos rfl, text_f v.f2 hv.2]
    unfold leb_Zig.f leb_Put.f vby
    rw [lebZig_eq hv.1, key_f (u64_U v.f1)]
    simp only [Option.bind_some]
    rw [lebPut_eq (zig_range hv.1), more_l]
    simp only [Option.bind_some]
    repeat' split
    all_goals rfl
theorem may_text {v : S32} (h : mayOf v = true) (h3 : v.f0 = 3) : v.f2.size ≤ 1024 := by
  have h2 := may_of v
  rw [h] at h2
  unfold val_May.f at h2
  rw [if_neg (by omega), if_neg (by omega), if_pos h3] at h2
  split at h2
  · have := of_decide_eq_true (Option.some.inj h2); omega
  · cases h2
theorem vby_len {v : S32} (h : mayOf v = true) : (vby v).length ≤ 2000 := by
  unfold vby
  split
  · have := putL9_len (n := zig v.f1); omega
  · split
    · rw [dig_len]; omega
    · split
      · have := may_text h (by assumption)
        have := putL9_len (n := (v.f2.size : Int))
        rw [List.length_append, bytesOf_length]; omega
      · simp
def chk (l : List S32) (k : Int) : Int := if k < 1 ∨ 3 < k then 1 else if 4096 < l.length then 2 else if (l.any fun v => v.f0 != k) = true then 7 else if (l.any fun v => !mayOf v) = true then 1 else 0
theorem check_f (l : List S32) (k : Int) : plain_Check.f l k = some (chk l k) := by
  unfold plain_Check.f chk
  rw [if_pos (show ∀ v ∈ l, ∃ r, val_May.f v.f0 v.f1 v.f2 = some r from fun v _ => ⟨_, may_of v⟩)]
  repeat' split
  all_goals rfl
theorem chk_ok {l : List S32} {k : Int} (h : chk l k = 0) : 1 ≤ k ∧ k ≤ 3 ∧ l.length ≤ 4096 ∧ (∀ v ∈ l, v.f0 = k) ∧ ∀ v ∈ l, mayOf v = true := by
  unfold chk at h
  split at h
  · cases h
  · split at h
    · cases h
    · split at h
      · cases h
      · split at h
        · cases h
        · rename_i h1 h2 h3 h4
          refine ⟨by omega, by omega, by omega, fun v hv => ?_, fun v hv => ?_⟩
          · simp only [List.any_eq_true, not_exists, not_and, bne_iff_ne, ne_eq, Decidable.not_not] at h3
            exact h3 v hv
          · simp only [List.any_eq_true, not_exists, not_and, Bool.not_eq_true', Bool.not_eq_false] at h4
            exact h4 v hv
theorem chk_zero {l : List S32} {k : Int} (h1 : 1 ≤ k) (h3 : k ≤ 3) (hl : l.length ≤ 4096) (hk : ∀ v ∈ l, v.f0 = k) (hm : ∀ v ∈ l, mayOf v = true) : chk l k = 0 := by
  unfold chk
  rw [if_neg (by omega), if_neg (by omega), if_neg, if_neg]
  · simp only [List.any_eq_true, not_exists, not_and, Bool.not_eq_true', Bool.not_eq_false]
    exact hm
  · simp only [List.any_eq_true, not_exists, not_and, bne_iff_ne, ne_eq, Decidable.not_not]
    exact hk
theorem rd_at (l : List S32) (i : Nat) (h : i < l.length) : rd_T32 l (i : Int) = l[i] := by
  unfold rd_T32
  rw [List.getD_eq_getElem?_getD, Int.toNat_natCast, List.getElem?_eq_getElem h]; rfl
theorem veq (a b : S32) : (a.f0 == b.f0 && (a.f1 == b.f1 && (a.f2.toList == b.f2.toList))) = true ↔ a = b := by
  simp only [Bool.and_eq_true, beq_iff_eq]
  constructor
  · rintro ⟨h1, h2, h3⟩
    rw [ByteArray.toList_eq, ByteArray.toList_eq] at h3
    cases a with | mk a0 a1 a2 => cases b with | mk b0 b1 b2 =>
    cases a2; cases b2
    simp_all
  · rintro rfl; exact ⟨rfl, rfl, rfl⟩
instance (a b : S32) : Decidable (a = b) := decidable_of_iff _ (veq a b)
def lastV (out : List S49) : Option S32 := out.getLast?.map S49.f1
def step (out : List S49) (v : S32) : List S49 :=
  match out.getLast? with
  | some r => if r.f1 = v then out.dropLast ++ [⟨r.f0 + 1, v⟩] else out ++ [⟨1, v⟩]
  | none => [⟨1, v⟩]
def runs (out : List S49) (l : List S32) : List S49 := l.foldl step out
def chg : Option S32 → List S32 → Nat
  | _, [] => 0
  | u, v :: t => (if u = some v then 0 else 1) + chg (some v) t
theorem step_last (out : List S49) (v : S32) : lastV (step out v) = some v := by
  unfold step lastV
  cases h : out.getLast? with
  | none => rfl
  | some r =>
    simp only
    split <;> simp
theorem step_snoc (out : List S49) (r : S49) (v : S32) : step (out ++ [r]) v = if r.f1 = v then out ++ [⟨r.f0 + 1, v⟩] else out ++ [r] ++ [⟨1, v⟩] := by
  unfold step
  rw [List.getLast?_concat]
  simp only [List.dropLast_concat]
theorem step_nil (v : S32) : step [] v = [⟨1, v⟩] := rfl
theorem step_len (out : List S49) (v : S32) : (step out v).length = out.length + if lastV out = some v then 0 else 1 := by
  rcases List.eq_nil_or_concat out with rfl | ⟨o, r, rfl⟩
  · rfl
  · simp only [List.concat_eq_append]
    rw [step_snoc]
    have e : lastV (o ++ [r]) = some r.f1 := by unfold lastV; rw [List.getLast?_concat]; rfl
    rw [e]
    by_cases h : r.f1 = v
    · rw [if_pos h, if_pos (by rw [h])]; simp
    · rw [if_neg h, if_neg (by simpa using h)]; simp
theorem runs_len : ∀ (l : List S32) (out : List S49), (runs out l).length = out.length + chg (lastV out) l
  | [], out => rfl
  | v :: t, out => by
    have ih := runs_len t (step out v)
    unfold runs at *
    rw [List.foldl_cons, ih, step_last, step_len]
    simp only [chg]
    omega
theorem chg_le : ∀ (l : List S32) (u : Option S32), chg u l ≤ l.length
  | [], _ => by simp [chg]
  | v :: t, u => by
    have := chg_le t (some v)
    simp only [chg, List.length_cons]
    split <;> omega
theorem chg_append : ∀ (l m : List S32) (u : Option S32), chg u (l ++ m) = chg u l + chg (l.getLast?.or u) m
  | [], m, u => by simp [chg]
  | v :: t, m, u => by
    have := chg_append t m (some v)
    simp only [List.cons_append, chg, this]
    have e : (v :: t).getLast?.or u = t.getLast?.or (some v) := by
      rw [List.getLast?_cons]
      cases t.getLast? <;> rfl
    rw [e]; omega
def Inv (out : List S49) (i : Nat) : Prop := out.length ≤ i ∧ ∀ r ∈ out, 1 ≤ r.f0 ∧ r.f0 ≤ i
theorem inv_nil : Inv [] 0 := ⟨by simp, by simp⟩
theorem inv_step {out : List S49} {i : Nat} (h : Inv out i) (v : S32) : Inv (step out v) (i + 1) := by
  obtain ⟨h1, h2⟩ := h
  have hl := step_len out v
  refine ⟨by split at hl <;> omega, ?_⟩
  rcases List.eq_nil_or_concat out with rfl | ⟨o, r, rfl⟩
  · intro r hr
    rw [step_nil, List.mem_singleton] at hr
    subst hr
    exact ⟨by show (1 : Int) ≤ 1; omega, by show (1 : Int) ≤ _; omega⟩
  · simp only [List.concat_eq_append] at *
    rw [step_snoc]
    have hr0 := h2 r (by simp)
    split
    · intro x hx
      rcases List.mem_append.1 hx with hx | hx
      · have := h2 x (List.mem_append_left _ hx)
        omega
      · rw [List.mem_singleton.1 hx]
        exact ⟨by show 1 ≤ r.f0 + 1; omega, by show r.f0 + 1 ≤ _; omega⟩
    · intro x hx
      rcases List.mem_append.1 hx with hx | hx
      · have := h2 x hx
        omega
      · rw [List.mem_singleton.1 hx]
        exact ⟨by show (1 : Int) ≤ 1; omega, by show (1 : Int) ≤ _; omega⟩
theorem inv_runs : ∀ (l : List S32) (out : List S49) (i : Nat), Inv out i → Inv (runs out l) (i + l.length)
  | [], _, _, h => h
  | v :: t, out, i, h => by
    have := inv_runs t _ _ (inv_step h v)
    unfold runs at *
    rw [List.foldl_cons, List.length_cons]
    rw [show i + (t.length + 1) = i + 1 + t.length by omega]
    exact this
theorem rd49_at (l : List S49) (i : Nat) (h : i < l.length) : rd_T49 l (i : Int) = l[i] := by
  unfold rd_T49
  rw [List.getD_eq_getElem?_getD, Int.toNat_natCast, List.getElem?_eq_getElem h]; rfl
theorem last_f (out : List S49) (hl : out.length ≤ 1000000) : rle_Run.f out = some (match out.getLast? with | some r => (r.f0, r.f1.f0, r.f1.f1, r.f1.f2, true) | none => (0, 0, 0, ⟨#[]⟩, false)) := by
  rcases List.eq_nil_or_concat out with rfl | ⟨o, r, rfl⟩
  · rfl
  · simp only [List.concat_eq_append] at *
    have hw : wrap64 (((o ++ [r]).length : Int) - 1) = (o.length : Int) := by
      rw [List.length_append, List.length_singleton]; unfold wrap64; rw [List.length_append, List.length_singleton] at hl; omega
    unfold rle_Run.f
    rw [hw, if_neg (by simp; omega), if_pos (by omega), if_pos (by simp; omega), rd49_at _ _ (by simp), List.getLast?_concat]
    simp
theorem runs_l (l : List S32) (hl : l.length ≤ 1000000) : ∀ (j k i : Nat) (out : List S49), i + j = l.length → j < k → Inv out i → rle_Runs.l0 k out l (l.length : Int) (i : Int) = some (runs out (l.drop i)) := by
  intro j
  induction j with
  | zero =>
    intro k i out hi hk _
    obtain ⟨k, rfl⟩ : ∃ m, k = m + 1 := ⟨k - 1, by omega⟩
    simp only [rle_Runs.l0]
    rw [if_neg (by omega), List.drop_eq_nil_of_le (by omega)]
    rfl
  | succ j ih =>
    intro k i out hi hk hinv
    obtain ⟨k, rfl⟩ : ∃ m, k = m + 1 := ⟨k - 1, by omega⟩
    have hil : i < l.length := by omega
    have hww : wrap64 ((i : Int) + 1) = ((i + 1 : Nat) : Int) := by unfold wrap64; omega
    have hnext := ih k (i + 1) (step out l[i]) (by omega) (by omega) (inv_step hinv l[i])
    have hr : runs out (l.drop i) = runs (step out l[i]) (l.drop (i + 1)) := by
      rw [List.drop_eq_getElem_cons hil]; rfl
    have hil2 := hinv.1
    simp only [rle_Runs.l0, rd_at l i hil, hww]
    rw [if_pos (by omega), if_pos (by omega), if_pos (by omega), last_f out (by omega)]
    simp only [Option.bind_some]
    rw [hr, ← hnext]
    rcases List.eq_nil_or_concat out with rfl | ⟨o, r, rfl⟩
    · simp only [List.getLast?_nil, Bool.false_eq_true, if_false]
      rw [if_pos (by simp)]
      rfl
    · simp only [List.concat_eq_append] at *
      have hr0 := hinv.2 r (by simp)
      have hlen : (o ++ [r]).length = o.length + 1 := by simp
      have hw : wrap64 (((o ++ [r]).length : Int) - 1) = (o.length : Int) := by
        rw [hlen]; unfold wrap64; omega
      simp only [List.getLast?_concat, hw]
      rw [if_pos trivial, step_snoc, rd49_at _ o.length (by simp)]
      have e : (o ++ [r])[o.length]'(by simp) = r := by simp
      rw [e]
      by_cases h : r.f1 = l[i]
      · rw [if_pos ((veq _ _).2 h), if_pos h, if_pos (by omega), if_pos (by omega), Int.toNat_natCast]
        have hset : ∀ x : S49, (o ++ [r]).set o.length x = o ++ [x] := by intro x; simp
        rw [hset, show wrap64 (r.f0 + 1) = r.f0 + 1 by unfold wrap64; omega, ← h]
      · rw [if_neg (fun q => h ((veq _ _).1 q)), if_neg h, if_pos (by omega)]
theorem runs_f (l : List S32) (hl : l.length ≤ 1000000) (k : Nat) (hk : l.length < k) : rle_Runs.f k l = some (runs [] l) := by
  have := runs_l l hl l.length k 0 [] (by omega) hk inv_nil
  unfold rle_Runs.f
  simpa using this
def rby (r : S49) : List Int := putL 9 r.f0 ++ vby r.f1
theorem rbytes_l (l : List S49) (hl : l.length ≤ 4096) (hw : ∀ r ∈ l, Wf r.f1 ∧ mayOf r.f1 = true ∧ 1 ≤ r.f0 ∧ r.f0 ≤ 4096) : ∀ (j k i : Nat) (acc : List Int), i + j = l.length → j + 10 < k → acc.length ≤ 2010 * i →
    rle_Bytes.l0 k acc l (l.length : Int) (i : Int) = some (acc ++ (l.drop i).flatMap rby, 0) := by
  intro j
  induction j with
  | zero =>
    intro k i acc hi hk ha
    obtain ⟨k, rfl⟩ : ∃ m, k = m + 1 := ⟨k - 1, by omega⟩
    simp only [rle_Bytes.l0]
    rw [if_neg (by omega), List.drop_eq_nil_of_le (by omega)]
    simp
  | succ j ih =>
    intro k i acc hi hk ha
    obtain ⟨k, rfl⟩ : ∃ m, k = m + 1 := ⟨k - 1, by omega⟩
    have hil : i < l.length := by omega
    obtain ⟨hv, hmv, hn1, hn2⟩ := hw l[i] (List.getElem_mem hil)
    have hlen := vby_len hmv
    have hpl := putL9_len (n := l[i].f0)
    have hww : wrap64 ((i : Int) + 1) = ((i + 1 : Nat) : Int) := by unfold wrap64; omega
    have hu : IntKind.u64.wrap l[i].f0 = l[i].f0 := by rw [IntKind.wrap_u64]; omega
    simp only [rle_Bytes.l0]
    rw [if_pos (by omega), if_pos (by omega), if_pos (by omega), rd49_at l i hil, vbytes_f l[i].f1 hv k (by omega), if_pos hmv, hu]
    unfold leb_Put.f
    rw [lebPut_eq (by omega)]
    simp only [Option.bind_some]
    rw [if_pos (by omega), if_pos (by rw [List.length_append]; omega), hww, ih k (i + 1) _ (by omega) (by omega) (by rw [List.length_append, List.length_append]; omega), List.drop_eq_getElem_cons hil]
    simp only [List.flatMap_cons, List.append_assoc, rby]
theorem runs_vals : ∀ (l : List S32) (out : List S49) (p : S32 → Prop), (∀ r ∈ out, p r.f1) → (∀ v ∈ l, p v) → ∀ r ∈ runs out l, p r.f1
  | [], out, p, h, _ => h
  | v :: t, out, p, h, hl => by
    refine runs_vals t (step out v) p ?_ (fun x hx => hl x (List.mem_cons_of_mem _ hx))
    have hv := hl v List.mem_cons_self
    rcases List.eq_nil_or_concat out with rfl | ⟨o, r, rfl⟩
    · intro r hr
      rw [step_nil, List.mem_singleton] at hr
      subst hr; exact hv
    · simp only [List.concat_eq_append] at *
      rw [step_snoc]
      split
      · intro x hx
        rcases List.mem_append.1 hx with hx | hx
        · exact h x (List.mem_append_left _ hx)
        · rw [List.mem_singleton.1 hx]; exact hv
      · intro x hx
        rcases List.mem_append.1 hx with hx | hx
        · exact h x hx
        · rw [List.mem_singleton.1 hx]; exact hv
theorem rbytes_f (l : List S32) (k : Int) (hw : ∀ v ∈ l, Wf v) (n : Nat) (hn : 5000 ≤ n) : rle_Bytes.f n l k = some (if chk l k = 0 then ((runs [] l).flatMap rby, 0) else ([], chk l k)) := by
  unfold rle_Bytes.f
  rw [check_f]
  simp only [Option.bind_some]
  split
  · rename_i h
    obtain ⟨_, _, hl, _, hm⟩ := chk_ok h
    rw [runs_f l (by omega) n (by omega)]
    simp only [Option.bind_some]
    have hinv := inv_runs l [] 0 inv_nil
    have h1 := runs_vals l [] (fun v => Wf v ∧ mayOf v = true) (by simp) (fun v hv => ⟨hw v hv, hm v hv⟩)
    have := rbytes_l (runs [] l) (by have := hinv.1; omega) (fun r hr => ⟨(h1 r hr).1, (h1 r hr).2, (hinv.2 r hr).1, by have := (hinv.2 r hr).2; omega⟩) (runs [] l).length n 0 [] (by omega) (by have := hinv.1; omega) (by simp)
    simpa using this
  · rfl
theorem wf_all {l : List S32} (h : Hand.WfRow 32 wfS32 l) : l.length ≤ 140737488351232 ∧ ∀ v ∈ l, Wf v := ⟨by have := h.2.1; omega, fun v hv => wf_of (h.2.2 v hv)⟩
theorem strOfNums_append (a b : List Int) : strOfNums (a ++ b) = strOfNums a ++ strOfNums b := by
  have h : ∀ x y : ByteArray, x.data = y.data → x = y := by intro x y h; cases x; cases y; simpa using h
  refine h _ _ ?_
  rw [ByteArray.data_append]
  simp [strOfNums]
theorem shown_row (W : World) (xs : List S32) (hl : xs.length ≤ 1000) :
    Kd.C k32 (W.alloc (.cells ((xs.flatMap fun v => [.int .i64 v.f0, .int .i64 v.f1, .string v.f2]).toArray) 32)) (some ⟨W.heap.size, 0, none⟩) xs.length xs := by
  have key : ∀ (xs : List S32) (j : Nat) (p : S32), xs[j]? = some p → ∀ i u, ([.int .i64 p.f0, .int .i64 p.f1, .string p.f2] : List Value)[i]? = some u → (xs.flatMap fun v => ([.int .i64 v.f0, .int .i64 v.f1, .string v.f2] : List Value))[j * 3 + i]? = some u := by
    intro xs
    induction xs with
    | nil => intro j p h; simp at h
    | cons v t ih =>
      intro j p h i u hu
      have hi : i < 3 := (List.getElem?_eq_some_iff.1 hu).1
      cases j with
      | zero =>
        simp at h
        subst h
        rw [List.flatMap_cons, Nat.zero_mul, Nat.zero_add, List.getElem?_append_left (by simpa using hi)]
        exact hu
      | succ j =>
        rw [List.flatMap_cons, List.getElem?_append_right (by simp; omega)]
        have := ih j p (by simpa using h) i u hu
        rw [← this]
        congr 1
        simp; omega
  refine ⟨rfl, by omega, fun _ => ⟨_, rfl, fun j p hj => ⟨[.int .i64 p.f0, .int .i64 p.f1, .string p.f2], rfl, k32_mk _ _, fun i u hu => ?_⟩⟩⟩
  have h := key xs j p hj i u hu
  rw [show (Addr.mk W.heap.size 0 none).add (j * k32.sz + i) = ⟨W.heap.size, j * 3 + i, none⟩ by simp [Addr.add, show k32.sz = 3 from rfl]; omega]
  rw [World.cell?_alloc_mark]
  simpa using h
theorem shown_rowA (W : World) (B : Nat) (hB : B = W.heap.size) : Kd.C k32 (W.alloc (.cells #[.int .i64 1, .int .i64 5, .string ⟨#[]⟩, .int .i64 1, .int .i64 5, .string ⟨#[]⟩, .int .i64 1, .int .i64 7, .string ⟨#[]⟩] 32)) (some ⟨B, 0, none⟩) 3 [⟨1, 5, ⟨#[]⟩⟩, ⟨1, 5, ⟨#[]⟩⟩, ⟨1, 7, ⟨#[]⟩⟩] :=
  hB ▸ shown_row W [⟨1, 5, ⟨#[]⟩⟩, ⟨1, 5, ⟨#[]⟩⟩, ⟨1, 7, ⟨#[]⟩⟩] (by decide)
theorem shown_rowB (W : World) (B : Nat) (hB : B = W.heap.size) : Kd.C k32 (W.alloc (.cells #[.int .i64 1, .int .i64 5, .string ⟨#[]⟩, .int .i64 1, .int .i64 5, .string ⟨#[]⟩] 32)) (some ⟨B, 0, none⟩) 2 [⟨1, 5, ⟨#[]⟩⟩, ⟨1, 5, ⟨#[]⟩⟩] :=
  hB ▸ shown_row W [⟨1, 5, ⟨#[]⟩⟩, ⟨1, 5, ⟨#[]⟩⟩] (by decide)
theorem shown_runs : rle_Runs.f 10 [⟨1, 5, ⟨#[]⟩⟩, ⟨1, 5, ⟨#[]⟩⟩, ⟨1, 7, ⟨#[]⟩⟩] = some [⟨2, ⟨1, 5, ⟨#[]⟩⟩⟩, ⟨1, ⟨1, 7, ⟨#[]⟩⟩⟩] := by
  rw [runs_f _ (by decide) 10 (by decide)]
  have e : runs [] [⟨1, 5, ⟨#[]⟩⟩, ⟨1, 5, ⟨#[]⟩⟩, ⟨1, 7, ⟨#[]⟩⟩] = [⟨2, ⟨1, 5, ⟨#[]⟩⟩⟩, ⟨1, ⟨1, 7, ⟨#[]⟩⟩⟩] := by
    simp [runs, step]
  rw [e]
theorem shown_bytes : rle_Bytes.f 5000 [⟨1, 5, ⟨#[]⟩⟩, ⟨1, 5, ⟨#[]⟩⟩] 1 = some ([2, 10], 0) := by
  have hw : ∀ v ∈ ([⟨1, 5, ⟨#[]⟩⟩, ⟨1, 5, ⟨#[]⟩⟩] : List S32), Wf v := by
    intro v hv
    simp only [List.mem_cons, List.not_mem_nil, or_false] at hv
    rcases hv with rfl | rfl <;> exact ⟨by decide, by decide⟩
  have hm : mayOf ⟨1, 5, ⟨#[]⟩⟩ = true := by
    have h := may_of ⟨1, 5, ⟨#[]⟩⟩
    unfold val_May.f at h
    rw [if_neg (by decide), if_pos rfl, empty_bool] at h
    exact (Option.some.inj h).symm
  have hc : chk [⟨1, 5, ⟨#[]⟩⟩, ⟨1, 5, ⟨#[]⟩⟩] 1 = 0 := by
    refine chk_zero (by decide) (by decide) (by decide) ?_ ?_
    · intro v hv
      simp only [List.mem_cons, List.not_mem_nil, or_false] at hv
      rcases hv with rfl | rfl <;> rfl
    · intro v hv
      simp only [List.mem_cons, List.not_mem_nil, or_false] at hv
      rcases hv with rfl | rfl <;> exact hm
  rw [rbytes_f _ 1 hw 5000 (by decide), if_pos hc]
  have e : runs [] [⟨1, 5, ⟨#[]⟩⟩, ⟨1, 5, ⟨#[]⟩⟩] = [⟨2, ⟨1, 5, ⟨#[]⟩⟩⟩] := by simp [runs, step]
  rw [e]
  have e2 : ([⟨2, ⟨1, 5, ⟨#[]⟩⟩⟩] : List S49).flatMap rby = [2, 10] := by
    simp only [List.flatMap_cons, List.flatMap_nil, List.append_nil, rby, vby]
    decide +kernel
  rw [e2]
set_option maxHeartbeats 1000000 in
set_option maxRecDepth 100000 in
theorem shown_calls (w : World) : Calls Try.prog 23 #[] w fun e w' => e = .returned (.bool true) ∧ Below w.heap.size w w' := by
  have hu32 := Try.underlying32
  go_enter Try.func23, Try.ntmps23
  go_wp2_with fail
  refine (rle_Runs.calls 10 _ _ [⟨1, 5, ⟨#[]⟩⟩, ⟨1, 5, ⟨#[]⟩⟩, ⟨1, 7, ⟨#[]⟩⟩] [⟨2, ⟨1, 5, ⟨#[]⟩⟩⟩, ⟨1, ⟨1, 7, ⟨#[]⟩⟩⟩] _ (shown_rowA _ _ (by simp)) (by decide) shown_runs).mono ?_
  rintro e w2 ⟨v1, rfl, hR, hB⟩
  have hB0 : Below w.heap.size w w2 := Below.trans (by repeat (first | exact Below.refl _ _ | refine Below.setCell ?_ (by first | omega | (simp; done) | (simp; omega)) _ | refine Below.alloc ?_ (by first | omega | (simp; done) | (simp; omega)) _)) (hB.mono (by first | omega | (simp; done) | (simp; omega)))
  have hc1 := fun o => hB.cell (p := ⟨w.heap.size, o, none⟩) (by simp; omega)
  have hz := hB.size
  simp at hz
  obtain ⟨A1, c1, rfl, -, hC1⟩ := Kd.R_reads hR
  clear hR hB
  go_wp2_with fail
  refine (rle_Bytes.calls 5000 _ _ [⟨1, 5, ⟨#[]⟩⟩, ⟨1, 5, ⟨#[]⟩⟩] 1 [2, 10] 0 _ (shown_rowB _ _ (by simp)) (by decide) shown_bytes).mono ?_
  rintro e w3 ⟨v2, rfl, hR2, hB2⟩
  have hB02 : Below w.heap.size w w3 := hB0.trans (Below.trans (by repeat (first | exact Below.refl _ _ | refine Below.setCell ?_ (by first | omega | (simp; done) | (simp; omega)) _ | refine Below.alloc ?_ (by first | omega | (simp; done) | (simp; omega)) _)) (hB2.mono (by first | omega | (simp; done) | (simp; omega))))
  obtain ⟨A2, c2, rfl, -, hC2⟩ := Kd.R_reads hR2
  have hb23 : Below w2.heap.size w2 w3 := (Below.alloc (Below.refl _ _) (Nat.le_refl _) _).trans (hB2.mono (by simp))
  have hC13 := Kd.C_below hC1 hb23
  have hc2 := fun o => hb23.cell (p := ⟨w.heap.size, o, none⟩) (by show w.heap.size < w2.heap.size; omega)
  have hf2 := fun o => hb23.frozen (p := ⟨w.heap.size, o, none⟩) (by show w.heap.size < w2.heap.size; omega)
  obtain ⟨ad, e1, hx0, hx1, hx2, hx3⟩ := at_T49 hC13 0 (by decide) (by decide)
  obtain ⟨ad2, e2, hy0, -⟩ := at_T49 hC13 1 (by decide) (by decide)
  obtain rfl : ad = ad2 := by rw [e1] at e2; injection e2
  subst e1
  simp only [rd_T49, Int.reduceToNat, List.getD_cons_zero, List.getD_cons_succ, Nat.zero_mul, Nat.one_mul] at hx0 hx1 hx2 hx3 hy0
  have ks := Kd.C_string (P := Try.prog) (src := 25) (dst := 9) (c := c2) Try.underlying25 Try.underlying6 Try.underlying9 hC2
  have hC2d : Kd.C (Kd.int .u8) w3.drew A2 [2, 10].length [2, 10] := hC2
  have ksd := Kd.C_string (P := Try.prog) (src := 25) (dst := 9) (c := c2) Try.underlying25 Try.underlying6 Try.underlying9 hC2d
  have ksn := fun n => Kd.C_string (P := Try.prog) (src := 25) (dst := 9) (c := c2) Try.underlying25 Try.underlying6 Try.underlying9 (Kd.C_drewN hC2 n)
  rw [show strOfNums [2, 10] = ⟨#[2, 10]⟩ by decide] at ks ksd ksn
  simp only [List.length_cons, List.length_nil, Nat.zero_add, Nat.reduceAdd] at ks ksd ksn
  have ha0 : ad.add 0 = ad := by simp [Addr.add]
  have hx0' := hx0
  have hx1' := hx1
  have hx2' := hx2
  have hx3' := hx3
  rw [ha0] at hx0' hx1' hx2' hx3'
  have hy0' := hy0
  rw [show ad.add 4 = ⟨ad.block, ad.off + 4, none⟩ by simp [Addr.add]] at hy0'
  clear ha0
  have hg0 : w3.cell? ⟨w.heap.size, 0, none⟩ = some (.int .i64 1) := (hc2 0).trans ((hc1 0).trans (by simp))
  have hg1 : w3.cell? ⟨w.heap.size, 1, none⟩ = some (.int .i64 5) := (hc2 1).trans ((hc1 1).trans (by simp))
  have hg2 : w3.cell? ⟨w.heap.size, 2, none⟩ = some (.string ⟨#[]⟩) := (hc2 2).trans ((hc1 2).trans (by simp))
  clear hR2 hC13 hC2 hC2d hC1 hB2 hb23 hc1 hc2
  go_wp2
  go_quiet (fail)
  go_wp2
  go_ret
  exact ⟨rfl, pw_below_drewN hB02 _⟩
end Sh
def law08_shown.f : Option (Bool) := some true
theorem law08_shown.calls (r : Bool) (w : World) (h : law08_shown.f = some r) :
    Calls Try.prog 23 #[] w fun e w' => e = .returned (.bool r) ∧ Below w.heap.size w w' := by
  obtain rfl : true = r := Option.some.inj h
  exact Sh.shown_calls w
end Go.Proofs.Ytjchjdbfmiibhaa.PRlz
