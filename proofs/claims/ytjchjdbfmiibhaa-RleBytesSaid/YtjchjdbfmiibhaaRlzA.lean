/-
  Runs of values, plainly, and runs spread (key Rlz).
-/
import Derived.Test.YtjchjdbfmiibhaaPRlzx17
import Derived.Test.YtjchjdbfmiibhaaPRlzx12
import Derived.Test.YtjchjdbfmiibhaaPRlzx10
import Derived.Test.YtjchjdbfmiibhaaPRlzx6
import Derived.Test.YtjchjdbfmiibhaaPRlzx8
import Derived.Test.YtjchjdbfmiibhaaPRlzx2
import Derived.Test.YtjchjdbfmiibhaaLebN
namespace Go.Proofs.Ytjchjdbfmiibhaa.PureB
open Go.RowKit Go.Proofs.Ytjchjdbfmiibhaa.PRlz Go.Proofs.YtjchjdbfmiibhaaW.PrintWords Go.Proofs.YtjchjdbfmiibhaaW.PrintLast Go.Proofs.YtjchjdbfmiibhaaW.PrintMore
open Go.Proofs.Ytjchjdbfmiibhaa.Hand

def U (a : Int) : Prop := 0 ≤ a ∧ a < 18446744073709551616
def cl (a : Int) : Int := if a % 9223372036854775808 > 9218868437227405312 then 9221120237041090560 else a
theorem clean_f {a : Int} (h : U a) : flt_Clean.f a = some (cl a) := by unfold flt_Clean.f Hand.fltClean; exact if_pos h
theorem cl_U {a : Int} (h : U a) : U (cl a) := by obtain ⟨h1, h2⟩ := h; unfold cl U; split <;> omega
theorem key_f {a : Int} (h : U a) : flt_Key.f a = some (Hand.keyOf (cl a)) := by
  unfold flt_Key.f Hand.fltKey
  have := clean_f h
  unfold flt_Clean.f at this
  rw [this]; rfl
theorem u64_U (i : Int) : U (IntKind.u64.wrap i) := by rw [IntKind.wrap_u64]; unfold U; omega
def dig : Nat → Int → List Int
  | 0, _ => []
  | n + 1, a => (a / 256 ^ n % 256) :: dig n a
theorem dig_len (a : Int) : ∀ n, (dig n a).length = n
  | 0 => rfl
  | n + 1 => by simp [dig, dig_len a n]
theorem bytes_l (K : Int) : val_Bytes.l0 9 K [] 0 = some (dig 8 K, 0) := by
  have s : ∀ (x n : Int) (m : Nat), IntKind.u64.wrap (wrap64 (8 * wrap64 (7 - n))) = x → x.toNat = 8 * m → 8 * m ≤ 64 → shr .u64 K (IntKind.u64.wrap (wrap64 (8 * wrap64 (7 - n)))) = K / 256 ^ m := by
    intro x n m h1 h2 h3
    rw [h1]
    unfold shr
    rw [h2, show min (8 * m) IntKind.u64.bits = 8 * m from Nat.min_eq_left h3, Int.pow_mul]
    rfl
  have s0 := s 56 0 7 (by decide +kernel) rfl (by decide +kernel)
  have s1 := s 48 1 6 (by decide +kernel) rfl (by decide +kernel)
  have s2 := s 40 2 5 (by decide +kernel) rfl (by decide +kernel)
  have s3 := s 32 3 4 (by decide +kernel) rfl (by decide +kernel)
  have s4 := s 24 4 3 (by decide +kernel) rfl (by decide +kernel)
  have s5 := s 16 5 2 (by decide +kernel) rfl (by decide +kernel)
  have s6 := s 8 6 1 (by decide +kernel) rfl (by decide +kernel)
  have s7 := s 0 7 0 (by decide +kernel) rfl (by decide +kernel)
  have step : ∀ (k : Nat) (acc : List Int) (n m : Int) (d : Int), n < 8 → 0 ≤ IntKind.u64.wrap (wrap64 (8 * wrap64 (7 - n))) → acc.length < 100 → shr .u64 K (IntKind.u64.wrap (wrap64 (8 * wrap64 (7 - n)))) = d → wrap64 (n + 1) = m →
      val_Bytes.l0 (k + 1) K acc n = val_Bytes.l0 k K (acc ++ [d % 256]) m := by
    intro k acc n m d h1 h2 h3 h4 h5
    rw [val_Bytes.l0, if_pos h1, if_pos h2, if_pos (by omega), h4, h5]
  rw [step 8 _ 0 1 _ (by decide +kernel) (by decide +kernel) (by simp) s0 (by decide +kernel), step 7 _ 1 2 _ (by decide +kernel) (by decide +kernel) (by simp) s1 (by decide +kernel), step 6 _ 2 3 _ (by decide +kernel) (by decide +kernel) (by simp) s2 (by decide +kernel),
    step 5 _ 3 4 _ (by decide +kernel) (by decide +kernel) (by simp) s3 (by decide +kernel), step 4 _ 4 5 _ (by decide +kernel) (by decide +kernel) (by simp) s4 (by decide +kernel), step 3 _ 5 6 _ (by decide +kernel) (by decide +kernel) (by simp) s5 (by decide +kernel),
    step 2 _ 6 7 _ (by decide +kernel) (by decide +kernel) (by simp) s6 (by decide +kernel), step 1 _ 7 8 _ (by decide +kernel) (by decide +kernel) (by simp) s7 (by decide +kernel)]
  rw [val_Bytes.l0, if_neg (by decide +kernel)]
  rfl
theorem more_l (K : Int) : ∀ j, val_Bytes.l0 (9 + j) K [] 0 = some (dig 8 K, 0)
  | 0 => bytes_l K
  | j + 1 => (val_Bytes.mono_l (9 + j)) _ _ _ _ (more_l K j)
theorem empty_bool (s : ByteArray) : (s.toList == ([] : List UInt8)) = decide (s.size = 0) := by
  rw [ByteArray.toList_eq, Bool.eq_iff_iff, beq_iff_eq, decide_eq_true_iff]
  cases s with | mk d => simp [ByteArray.size]
theorem may_some (k i : Int) (s : ByteArray) : ∃ b, val_May.f k i s = some b := by
  unfold val_May.f
  rw [clean_f (u64_U i)]
  simp only [Option.bind_some]
  repeat' split
  all_goals exact ⟨_, rfl⟩
theorem may_of (v : S32) : val_May.f v.f0 v.f1 v.f2 = some (mayOf v) := by
  obtain ⟨b, hb⟩ := may_some v.f0 v.f1 v.f2
  unfold mayOf
  rw [hb]; rfl
/-- A value's bytes. -/
def vby (v : S32) : List Int := if v.f0 = 1 then putL 9 (zig v.f1) else if v.f0 = 2 then dig 8 (Hand.keyOf (cl (IntKind.u64.wrap v.f1))) else if v.f0 = 3 then putL 9 (v.f2.size : Int) ++ bytesOf v.f2 else []
def Wf (v : S32) : Prop := (-9223372036854775808 ≤ v.f1 ∧ v.f1 < 9223372036854775808) ∧ v.f2.size ≤ 140737488351232
theorem wf_of {v : S32} (h : wfS32 v) : Wf v := ⟨wf_i64_ h.2.1, h.2.2⟩
theorem text_f (s : ByteArray) (h : s.size ≤ 140737488351232) : leb_Text.f s = some (putL 9 (s.size : Int) ++ bytesOf s) := by
  have h2 : (0 : Int) ≤ s.size ∧ (s.size : Int) < 18446744073709551616 := by omega
  have hw : IntKind.u64.wrap (s.size : Int) = s.size := by rw [IntKind.wrap_u64]; omega
  have := putL9_len (n := (s.size : Int))
  unfold leb_Text.f leb_Put.f
  rw [hw, lebPut_eq h2]
  simp only [Option.bind_some]
  rw [if_pos (by omega)]
theorem vbytes_f (v : S32) (hv : Wf v) (k : Nat) (hk : 9 ≤ k) : val_Bytes.f k v.f0 v.f1 v.f2 = some (if mayOf v = true then (vby v, 0) else ([], 1)) := by
  obtain ⟨j, rfl⟩ : ∃ j, k = 9 + j := ⟨k - 9, by omega⟩
  unfold val_Bytes.f
  rw [may_of v]
  simp only [Option.bind_some]
  cases mayOf v with
  | false => rfl
  | true =>
    rw [if_pos rfl, if_pos rfl, text_f v.f2 hv.2]
    unfold leb_Zig.f leb_Put.f vby
    rw [lebZig_eq hv.1, key_f (u64_U v.f1)]
    simp only [Option.bind_some]
    rw [lebPut_eq (zig_range hv.1), more_l]
    simp only [Option.bind_some]
    repeat' split
    all_goals rfl
theorem may_text {v : S32} (h : mayOf v = true) (h3 : v.f0 = 3) : v.f2.size ≤ 1024 := by
  have h2 := may_of v
  rw [h] at h2
  unfold val_May.f at h2
  rw [if_neg (by omega), if_neg (by omega), if_pos h3] at h2
  split at h2
  · have := of_decide_eq_true (Option.some.inj h2); omega
  · cases h2
theorem vby_len {v : S32} (h : mayOf v = true) : (vby v).length ≤ 2000 := by
  unfold vby
  split
  · have := putL9_len (n := zig v.f1); omega
  · split
    · rw [dig_len]; omega
    · split
      · have := may_text h (by assumption)
        have := putL9_len (n := (v.f2.size : Int))
        rw [List.length_append, bytesOf_length]; omega
      · simp
/-- What Check says. -/
def chk (l : List S32) (k : Int) : Int := if k < 1 ∨ 3 < k then 1 else if 4096 < l.length then 2 else if (l.any fun v => v.f0 != k) = true then 7 else if (l.any fun v => !mayOf v) = true then 1 else 0
theorem check_f (l : List S32) (k : Int) : plain_Check.f l k = some (chk l k) := by
  unfold plain_Check.f chk
  rw [if_pos (show ∀ v ∈ l, ∃ r, val_May.f v.f0 v.f1 v.f2 = some r from fun v _ => ⟨_, may_of v⟩)]
  repeat' split
  all_goals rfl
theorem chk_ok {l : List S32} {k : Int} (h : chk l k = 0) : 1 ≤ k ∧ k ≤ 3 ∧ l.length ≤ 4096 ∧ (∀ v ∈ l, v.f0 = k) ∧ ∀ v ∈ l, mayOf v = true := by
  unfold chk at h
  split at h
  · cases h
  · split at h
    · cases h
    · split at h
      · cases h
      · split at h
        · cases h
        · rename_i h1 h2 h3 h4
          refine ⟨by omega, by omega, by omega, fun v hv => ?_, fun v hv => ?_⟩
          · simp only [List.any_eq_true, not_exists, not_and, bne_iff_ne, ne_eq, Decidable.not_not] at h3
            exact h3 v hv
          · simp only [List.any_eq_true, not_exists, not_and, Bool.not_eq_true', Bool.not_eq_false] at h4
            exact h4 v hv
theorem rd_at (l : List S32) (i : Nat) (h : i < l.length) : rd_T32 l (i : Int) = l[i] := by
  unfold rd_T32
  rw [List.getD_eq_getElem?_getD, Int.toNat_natCast, List.getElem?_eq_getElem h]; rfl
theorem veq (a b : S32) : (a.f0 == b.f0 && (a.f1 == b.f1 && (a.f2.toList == b.f2.toList))) = true ↔ a = b := by
  simp only [Bool.and_eq_true, beq_iff_eq]
  constructor
  · rintro ⟨h1, h2, h3⟩
    rw [ByteArray.toList_eq, ByteArray.toList_eq] at h3
    cases a with | mk a0 a1 a2 => cases b with | mk b0 b1 b2 =>
    cases a2; cases b2
    simp_all
  · rintro rfl; exact ⟨rfl, rfl, rfl⟩
instance (a b : S32) : Decidable (a = b) := decidable_of_iff _ (veq a b)
/-- The last run's value. -/
def lastV (out : List S49) : Option S32 := out.getLast?.map S49.f1
/-- One value more. -/
def step (out : List S49) (v : S32) : List S49 :=
  match out.getLast? with
  | some r => if r.f1 = v then out.dropLast ++ [⟨r.f0 + 1, v⟩] else out ++ [⟨1, v⟩]
  | none => [⟨1, v⟩]
def runs (out : List S49) (l : List S32) : List S49 := l.foldl step out
theorem step_snoc (out : List S49) (r : S49) (v : S32) : step (out ++ [r]) v = if r.f1 = v then out ++ [⟨r.f0 + 1, v⟩] else out ++ [r] ++ [⟨1, v⟩] := by
  unfold step
  rw [List.getLast?_concat]
  simp only [List.dropLast_concat]
theorem step_nil (v : S32) : step [] v = [⟨1, v⟩] := rfl
theorem step_len (out : List S49) (v : S32) : (step out v).length = out.length + if lastV out = some v then 0 else 1 := by
  rcases List.eq_nil_or_concat out with rfl | ⟨o, r, rfl⟩
  · rfl
  · simp only [List.concat_eq_append]
    rw [step_snoc]
    have e : lastV (o ++ [r]) = some r.f1 := by unfold lastV; rw [List.getLast?_concat]; rfl
    rw [e]
    by_cases h : r.f1 = v
    · rw [if_pos h, if_pos (by rw [h])]; simp
    · rw [if_neg h, if_neg (by simpa using h)]; simp
/-- What stands in runs: each one's number is within. -/
def Inv (out : List S49) (i : Nat) : Prop := out.length ≤ i ∧ ∀ r ∈ out, 1 ≤ r.f0 ∧ r.f0 ≤ i
theorem inv_nil : Inv [] 0 := ⟨by simp, by simp⟩
theorem inv_step {out : List S49} {i : Nat} (h : Inv out i) (v : S32) : Inv (step out v) (i + 1) := by
  obtain ⟨h1, h2⟩ := h
  have hl := step_len out v
  refine ⟨by split at hl <;> omega, ?_⟩
  rcases List.eq_nil_or_concat out with rfl | ⟨o, r, rfl⟩
  · intro r hr
    rw [step_nil, List.mem_singleton] at hr
    subst hr
    exact ⟨by show (1 : Int) ≤ 1; omega, by show (1 : Int) ≤ _; omega⟩
  · simp only [List.concat_eq_append] at *
    rw [step_snoc]
    have hr0 := h2 r (by simp)
    split
    · intro x hx
      rcases List.mem_append.1 hx with hx | hx
      · have := h2 x (List.mem_append_left _ hx)
        omega
      · rw [List.mem_singleton.1 hx]
        exact ⟨by show 1 ≤ r.f0 + 1; omega, by show r.f0 + 1 ≤ _; omega⟩
    · intro x hx
      rcases List.mem_append.1 hx with hx | hx
      · have := h2 x hx
        omega
      · rw [List.mem_singleton.1 hx]
        exact ⟨by show (1 : Int) ≤ 1; omega, by show (1 : Int) ≤ _; omega⟩
theorem inv_runs : ∀ (l : List S32) (out : List S49) (i : Nat), Inv out i → Inv (runs out l) (i + l.length)
  | [], _, _, h => h
  | v :: t, out, i, h => by
    have := inv_runs t _ _ (inv_step h v)
    unfold runs at *
    rw [List.foldl_cons, List.length_cons]
    rw [show i + (t.length + 1) = i + 1 + t.length by omega]
    exact this
theorem rd49_at (l : List S49) (i : Nat) (h : i < l.length) : rd_T49 l (i : Int) = l[i] := by
  unfold rd_T49
  rw [List.getD_eq_getElem?_getD, Int.toNat_natCast, List.getElem?_eq_getElem h]; rfl
theorem last_f (out : List S49) (hl : out.length ≤ 1000000) : rle_Run.f out = some (match out.getLast? with | some r => (r.f0, r.f1.f0, r.f1.f1, r.f1.f2, true) | none => (0, 0, 0, ⟨#[]⟩, false)) := by
  rcases List.eq_nil_or_concat out with rfl | ⟨o, r, rfl⟩
  · rfl
  · simp only [List.concat_eq_append] at *
    have hw : wrap64 (((o ++ [r]).length : Int) - 1) = (o.length : Int) := by
      rw [List.length_append, List.length_singleton]; unfold wrap64; rw [List.length_append, List.length_singleton] at hl; omega
    unfold rle_Run.f
    rw [hw, if_neg (by simp; omega), if_pos (by omega), if_pos (by simp; omega), rd49_at _ _ (by simp), List.getLast?_concat]
    simp
theorem runs_l (l : List S32) (hl : l.length ≤ 1000000) : ∀ (j k i : Nat) (out : List S49), i + j = l.length → j < k → Inv out i → rle_Runs.l0 k out l (l.length : Int) (i : Int) = some (runs out (l.drop i)) := by
  intro j
  induction j with
  | zero =>
    intro k i out hi hk _
    obtain ⟨k, rfl⟩ : ∃ m, k = m + 1 := ⟨k - 1, by omega⟩
    simp only [rle_Runs.l0]
    rw [if_neg (by omega), List.drop_eq_nil_of_le (by omega)]
    rfl
  | succ j ih =>
    intro k i out hi hk hinv
    obtain ⟨k, rfl⟩ : ∃ m, k = m + 1 := ⟨k - 1, by omega⟩
    have hil : i < l.length := by omega
    have hww : wrap64 ((i : Int) + 1) = ((i + 1 : Nat) : Int) := by unfold wrap64; omega
    have hnext := ih k (i + 1) (step out l[i]) (by omega) (by omega) (inv_step hinv l[i])
    have hr : runs out (l.drop i) = runs (step out l[i]) (l.drop (i + 1)) := by
      rw [List.drop_eq_getElem_cons hil]; rfl
    have hil2 := hinv.1
    simp only [rle_Runs.l0, rd_at l i hil, hww]
    rw [if_pos (by omega), if_pos (by omega), if_pos (by omega), last_f out (by omega)]
    simp only [Option.bind_some]
    rw [hr, ← hnext]
    rcases List.eq_nil_or_concat out with rfl | ⟨o, r, rfl⟩
    · simp only [List.getLast?_nil, Bool.false_eq_true, if_false]
      rw [if_pos (by simp)]
      rfl
    · simp only [List.concat_eq_append] at *
      have hr0 := hinv.2 r (by simp)
      have hlen : (o ++ [r]).length = o.length + 1 := by simp
      have hw : wrap64 (((o ++ [r]).length : Int) - 1) = (o.length : Int) := by
        rw [hlen]; unfold wrap64; omega
      simp only [List.getLast?_concat, hw]
      rw [if_pos trivial, step_snoc, rd49_at _ o.length (by simp)]
      have e : (o ++ [r])[o.length]'(by simp) = r := by simp
      rw [e]
      by_cases h : r.f1 = l[i]
      · rw [if_pos ((veq _ _).2 h), if_pos h, if_pos (by omega), if_pos (by omega), Int.toNat_natCast]
        have hset : ∀ x : S49, (o ++ [r]).set o.length x = o ++ [x] := by intro x; simp
        rw [hset, show wrap64 (r.f0 + 1) = r.f0 + 1 by unfold wrap64; omega, ← h]
      · rw [if_neg (fun q => h ((veq _ _).1 q)), if_neg h, if_pos (by omega)]
theorem runs_f (l : List S32) (hl : l.length ≤ 1000000) (k : Nat) (hk : l.length < k) : rle_Runs.f k l = some (runs [] l) := by
  have := runs_l l hl l.length k 0 [] (by omega) hk inv_nil
  unfold rle_Runs.f
  simpa using this
/-- A run's bytes. -/
def rby (r : S49) : List Int := putL 9 r.f0 ++ vby r.f1
theorem rbytes_l (l : List S49) (hl : l.length ≤ 4096) (hw : ∀ r ∈ l, Wf r.f1 ∧ mayOf r.f1 = true ∧ 1 ≤ r.f0 ∧ r.f0 ≤ 4096) : ∀ (j k i : Nat) (acc : List Int), i + j = l.length → j + 10 < k → acc.length ≤ 2010 * i →
    rle_Bytes.l0 k acc l (l.length : Int) (i : Int) = some (acc ++ (l.drop i).flatMap rby, 0) := by
  intro j
  induction j with
  | zero =>
    intro k i acc hi hk ha
    obtain ⟨k, rfl⟩ : ∃ m, k = m + 1 := ⟨k - 1, by omega⟩
    simp only [rle_Bytes.l0]
    rw [if_neg (by omega), List.drop_eq_nil_of_le (by omega)]
    simp
  | succ j ih =>
    intro k i acc hi hk ha
    obtain ⟨k, rfl⟩ : ∃ m, k = m + 1 := ⟨k - 1, by omega⟩
    have hil : i < l.length := by omega
    obtain ⟨hv, hmv, hn1, hn2⟩ := hw l[i] (List.getElem_mem hil)
    have hlen := vby_len hmv
    have hpl := putL9_len (n := l[i].f0)
    have hww : wrap64 ((i : Int) + 1) = ((i + 1 : Nat) : Int) := by unfold wrap64; omega
    have hu : IntKind.u64.wrap l[i].f0 = l[i].f0 := by rw [IntKind.wrap_u64]; omega
    simp only [rle_Bytes.l0]
    rw [if_pos (by omega), if_pos (by omega), if_pos (by omega), rd49_at l i hil, vbytes_f l[i].f1 hv k (by omega), if_pos hmv, hu]
    unfold leb_Put.f
    rw [lebPut_eq (by omega)]
    simp only [Option.bind_some]
    rw [if_pos (by omega), if_pos (by rw [List.length_append]; omega), hww, ih k (i + 1) _ (by omega) (by omega) (by rw [List.length_append, List.length_append]; omega), List.drop_eq_getElem_cons hil]
    simp only [List.flatMap_cons, List.append_assoc, rby]
theorem runs_vals : ∀ (l : List S32) (out : List S49) (p : S32 → Prop), (∀ r ∈ out, p r.f1) → (∀ v ∈ l, p v) → ∀ r ∈ runs out l, p r.f1
  | [], out, p, h, _ => h
  | v :: t, out, p, h, hl => by
    refine runs_vals t (step out v) p ?_ (fun x hx => hl x (List.mem_cons_of_mem _ hx))
    have hv := hl v List.mem_cons_self
    rcases List.eq_nil_or_concat out with rfl | ⟨o, r, rfl⟩
    · intro r hr
      rw [step_nil, List.mem_singleton] at hr
      subst hr; exact hv
    · simp only [List.concat_eq_append] at *
      rw [step_snoc]
      split
      · intro x hx
        rcases List.mem_append.1 hx with hx | hx
        · exact h x (List.mem_append_left _ hx)
        · rw [List.mem_singleton.1 hx]; exact hv
      · intro x hx
        rcases List.mem_append.1 hx with hx | hx
        · exact h x hx
        · rw [List.mem_singleton.1 hx]; exact hv
theorem rbytes_f (l : List S32) (k : Int) (hw : ∀ v ∈ l, Wf v) (n : Nat) (hn : 5000 ≤ n) : rle_Bytes.f n l k = some (if chk l k = 0 then ((runs [] l).flatMap rby, 0) else ([], chk l k)) := by
  unfold rle_Bytes.f
  rw [check_f]
  simp only [Option.bind_some]
  split
  · rename_i h
    obtain ⟨_, _, hl, _, hm⟩ := chk_ok h
    rw [runs_f l (by omega) n (by omega)]
    simp only [Option.bind_some]
    have hinv := inv_runs l [] 0 inv_nil
    have h1 := runs_vals l [] (fun v => Wf v ∧ mayOf v = true) (by simp) (fun v hv => ⟨hw v hv, hm v hv⟩)
    have := rbytes_l (runs [] l) (by have := hinv.1; omega) (fun r hr => ⟨(h1 r hr).1, (h1 r hr).2, (hinv.2 r hr).1, by have := (hinv.2 r hr).2; omega⟩) (runs [] l).length n 0 [] (by omega) (by have := hinv.1; omega) (by simp)
    simpa using this
  · rfl
theorem wf_all {l : List S32} (h : Hand.WfRow 32 wfS32 l) : l.length ≤ 140737488351232 ∧ ∀ v ∈ l, Wf v := ⟨by have := h.2.1; omega, fun v hv => wf_of (h.2.2 v hv)⟩
theorem few_l (l : List S32) (hl : l.length ≤ 140737488351232) (hw : ∀ v ∈ l, Wf v) : ∀ (j k i : Nat) (n : Int), i + j = l.length → j < k → 0 ≤ n → n ≤ 200000000000000 → ∃ b, law08_few.l0 k l n (i : Int) = some b ∧ (b = true → l.length ≤ 1000) := by
  intro j
  induction j with
  | zero =>
    intro k i n hi hk h0 h1
    obtain ⟨k, rfl⟩ : ∃ m, k = m + 1 := ⟨k - 1, by omega⟩
    simp only [law08_few.l0]
    rw [if_neg (by omega)]
    split
    · exact ⟨_, rfl, fun _ => by omega⟩
    · exact ⟨_, rfl, by simp⟩
  | succ j ih =>
    intro k i n hi hk h0 h1
    obtain ⟨k, rfl⟩ : ∃ m, k = m + 1 := ⟨k - 1, by omega⟩
    have hil : i < l.length := by omega
    have hv := (hw l[i] (List.getElem_mem hil)).2
    simp only [law08_few.l0, rd_at l i hil]
    rw [if_pos (by omega)]
    split
    · rw [if_pos (by omega), show wrap64 (n + (l[i].f2.size : Int)) = n + l[i].f2.size by unfold wrap64; omega, show wrap64 ((i : Int) + 1) = ((i + 1 : Nat) : Int) by unfold wrap64; omega]
      exact ih k (i + 1) _ (by omega) (by omega) (by omega) (by omega)
    · split
      · exact ⟨_, rfl, fun _ => by omega⟩
      · exact ⟨_, rfl, by simp⟩
theorem few_f (l : List S32) (hl : l.length ≤ 140737488351232) (hw : ∀ v ∈ l, Wf v) (k : Nat) (hk : l.length < k) : ∃ b, law08_few.f k l = some b ∧ (b = true → l.length ≤ 1000) := by
  have := few_l l hl hw l.length k 0 0 (by omega) hk (by omega) (by omega)
  unfold law08_few.f
  exact this

/-- Runs, spread. -/
def exp (out : List S49) : List S32 := out.flatMap fun r => List.replicate r.f0.toNat r.f1
theorem exp_append (a b : List S49) : exp (a ++ b) = exp a ++ exp b := by unfold exp; rw [List.flatMap_append]
theorem exp_one (r : S49) : exp [r] = List.replicate r.f0.toNat r.f1 := by simp [exp]
theorem exp_take (out : List S49) (i : Nat) (hi : i < out.length) : exp (out.take (i + 1)) = exp (out.take i) ++ List.replicate out[i].f0.toNat out[i].f1 := by
  rw [← List.take_append_getElem hi, exp_append, exp_one]
theorem exp_take_le (out : List S49) (i : Nat) : (exp (out.take i)).length ≤ (exp out).length := by
  have := congrArg exp (List.take_append_drop i out)
  rw [exp_append] at this
  rw [← this, List.length_append]
  omega
theorem rep_f (x : S32) (n : Int) (h0 : 0 ≤ n) (h1 : n ≤ 4096) : api_Val_49.f [x] n = some (List.replicate n.toNat x) := by
  unfold api_Val_49.f
  rw [if_pos ⟨rfl, h0, h1⟩]
  rfl
theorem spread_l (r : List S49) (hr : r.length ≤ 1000000) (hp : ∀ x ∈ r, 1 ≤ x.f0) (ht : (exp r).length ≤ 4096) : ∀ (j k i : Nat), i + j = r.length → j < k → rle_Spread.l0 k (exp (r.take i)) r (r.length : Int) (i : Int) = some (exp r) := by
  intro j
  induction j with
  | zero =>
    intro k i hi hk
    obtain ⟨k, rfl⟩ : ∃ m, k = m + 1 := ⟨k - 1, by omega⟩
    simp only [rle_Spread.l0]
    rw [if_neg (by omega), List.take_of_length_le (by omega)]
  | succ j ih =>
    intro k i hi hk
    obtain ⟨k, rfl⟩ : ∃ m, k = m + 1 := ⟨k - 1, by omega⟩
    have hil : i < r.length := by omega
    have h1 := hp r[i] (List.getElem_mem hil)
    have e := exp_take r i hil
    have hle := exp_take_le r (i + 1)
    rw [e, List.length_append, List.length_replicate] at hle
    have hmn : mn (mx r[i].f0 0) (wrap64 (4096 - ((exp (r.take i)).length : Int))) = r[i].f0 := by
      have hw : wrap64 (4096 - ((exp (r.take i)).length : Int)) = 4096 - ((exp (r.take i)).length : Int) := by unfold wrap64; omega
      rw [hw]
      unfold mn mx
      rw [if_neg (show ¬ r[i].f0 < 0 by omega), if_neg (by omega)]
    simp only [rle_Spread.l0]
    rw [if_pos (by omega), if_pos (by omega), if_pos (by omega), rd49_at r i hil, hmn]
    have hx : (⟨r[i].f1.f0, r[i].f1.f1, r[i].f1.f2⟩ : S32) = r[i].f1 := rfl
    rw [hx, rep_f r[i].f1 r[i].f0 (by omega) (by omega)]
    simp only [Option.bind_some]
    rw [if_pos (by rw [List.length_replicate]; omega), ← e, show wrap64 ((i : Int) + 1) = ((i + 1 : Nat) : Int) by unfold wrap64; omega]
    exact ih k (i + 1) (by omega) (by omega)
theorem spread_f (r : List S49) (hr : r.length ≤ 1000000) (hp : ∀ x ∈ r, 1 ≤ x.f0) (ht : (exp r).length ≤ 4096) (k : Nat) (hk : r.length < k) : rle_Spread.f k r = some (exp r) := by
  have := spread_l r hr hp ht r.length k 0 (by omega) hk
  unfold rle_Spread.f
  simpa [exp] using this
theorem same_l (l : List S32) (hl : l.length ≤ 1000000) : ∀ (j k i : Nat), i + j = l.length → j < k → ref05_Same.l0 k l l (i : Int) = some true := by
  intro j
  induction j with
  | zero =>
    intro k i hi hk
    obtain ⟨k, rfl⟩ : ∃ m, k = m + 1 := ⟨k - 1, by omega⟩
    simp only [ref05_Same.l0]
    rw [if_neg (by omega)]
  | succ j ih =>
    intro k i hi hk
    obtain ⟨k, rfl⟩ : ∃ m, k = m + 1 := ⟨k - 1, by omega⟩
    simp only [ref05_Same.l0]
    rw [if_pos (by omega), if_pos (by omega), if_pos (by omega), if_neg (by simp), show wrap64 ((i : Int) + 1) = ((i + 1 : Nat) : Int) by unfold wrap64; omega]
    exact ih k (i + 1) (by omega) (by omega)
theorem same_f (l : List S32) (hl : l.length ≤ 1000000) (k : Nat) (hk : l.length < k) : ref05_Same.f k l l = some true := by
  unfold ref05_Same.f
  rw [if_pos rfl]
  exact same_l l hl l.length k 0 (by omega) hk


def Bs (l : List Int) : Prop := ∀ x ∈ l, 0 ≤ x ∧ x < 256
theorem Bs.at {l : List Int} (h : Bs l) (i : Nat) : 0 ≤ l.getD i 0 ∧ l.getD i 0 < 256 := by
  rw [List.getD_eq_getElem?_getD]
  rcases Nat.lt_or_ge i l.length with hi | hi
  · rw [List.getElem?_eq_getElem hi]; exact h _ (List.getElem_mem hi)
  · rw [List.getElem?_eq_none hi]; decide
theorem Bs.app {l m : List Int} (h : Bs (l ++ m)) : Bs l ∧ Bs m := ⟨fun x hx => h x (List.mem_append_left _ hx), fun x hx => h x (List.mem_append_right _ hx)⟩
theorem Bs.take {l : List Int} (h : Bs l) (n : Nat) : Bs (l.take n) := fun x hx => h x (List.mem_of_mem_take hx)
theorem Bs.drop {l : List Int} (h : Bs l) (n : Nat) : Bs (l.drop n) := fun x hx => h x (List.mem_of_mem_drop hx)
theorem bytes_str {l : List Int} (h : Bs l) : bytesOf (strOfNums l) = l := by
  unfold strOfNums bytesOf
  simp only [List.map_map]
  have e : ∀ x ∈ l, ((fun b : UInt8 => (b.toNat : Int)) ∘ fun n : Int => UInt8.ofNat n.toNat) x = x := by
    intro x hx
    obtain ⟨h1, h2⟩ := h x hx
    simp only [Function.comp, UInt8.toNat_ofNat']
    omega
  conv => rhs; rw [← List.map_id l]
  exact List.map_congr_left e
theorem bits_f {k : Int} (h : U k) : flt_Bits.f k = some (if k ≥ 9223372036854775808 then cl (k - 9223372036854775808) else cl (18446744073709551615 - k)) := by
  unfold flt_Bits.f fltBits
  rw [if_pos (show 0 ≤ k ∧ k < 18446744073709551616 from h)]
  obtain ⟨h1, h2⟩ := h
  split
  · exact clean_f ⟨by omega, by omega⟩
  · exact clean_f ⟨by omega, by omega⟩
theorem or_low (x b : Int) (hb : 0 ≤ b ∧ b < 256) : Go.bits .or .u64 (IntKind.u64.wrap (x * 256)) (IntKind.u64.wrap b) = IntKind.u64.wrap (IntKind.u64.wrap (x * 256) + IntKind.u64.wrap b) := by
  simp only [IntKind.wrap_u64]
  have e1 : x * 256 % 18446744073709551616 = 256 * (x % 72057594037927936) := by omega
  have e2 : b % 18446744073709551616 = b := by omega
  rw [e1, e2]
  have hy : 0 ≤ x % 72057594037927936 ∧ x % 72057594037927936 < 72057594037927936 := by omega
  generalize x % 72057594037927936 = y at *
  obtain ⟨n, rfl⟩ := Int.eq_ofNat_of_zero_le hy.1
  obtain ⟨c, rfl⟩ := Int.eq_ofNat_of_zero_le hb.1
  have hc : c < 2 ^ 8 := by omega
  have e := Nat.two_pow_add_eq_or_of_lt hc n
  have h3 := bits_or_u64_nat (256 * n) c (by omega) (by omega)
  have e4 : (256 * (n : Int)) = ((256 * n : Nat) : Int) := by omega
  rw [e4, h3, show (256 * n ||| c) = 256 * n + c from e.symm]
  omega
def f8 (x b : Int) : Int := (x * 256 + b) % 18446744073709551616
theorem f8_U (x b : Int) : U (f8 x b) := by unfold f8 U; omega
theorem or_f8 (x b : Int) (hb : 0 ≤ b ∧ b < 256) : Go.bits .or .u64 (IntKind.u64.wrap (x * 256)) (IntKind.u64.wrap b) = f8 x b := by
  rw [or_low x b hb]
  simp only [IntKind.wrap_u64]
  unfold f8
  omega
def bitsOf (K : Int) : Int := if K ≥ 9223372036854775808 then cl (K - 9223372036854775808) else cl (18446744073709551615 - K)
theorem bitsOf_U {K : Int} (h : U K) : U (bitsOf K) := by
  obtain ⟨h1, h2⟩ := h
  unfold bitsOf
  split
  · exact cl_U ⟨by omega, by omega⟩
  · exact cl_U ⟨by omega, by omega⟩
theorem cl_cl (a : Int) : cl (cl a) = cl a := by
  unfold cl
  by_cases h : a % 9223372036854775808 > 9218868437227405312
  · rw [if_pos h]; decide
  · rw [if_neg h, if_neg h]
theorem bitsOf_cl (K : Int) : cl (bitsOf K) = bitsOf K := by unfold bitsOf; split <;> exact cl_cl _
def floatEnd (l : List Int) (K : Int) : Int × Int × ByteArray × List Int × Int :=
  if Hand.keyOf (bitsOf K) = K then (2, wrap64 (bitsOf K), ⟨#[]⟩, l.drop 8, 0) else (0, 0, ⟨#[]⟩, [], 4)
theorem float_l (l : List Int) (hB : Bs l) (hl : l.length ≤ 140737488351232) (h8 : 8 ≤ l.length) : ∀ (j k i : Nat) (x : Int), i + j = 8 → j < k → U x →
    val_float.l0 k l x (l.take 8) ((l.take 8).length : Int) (i : Int) = some (floatEnd l (((l.take 8).drop i).foldl f8 x)) := by
  have hlen : (l.take 8).length = 8 := by rw [List.length_take]; omega
  have hBt := hB.take 8
  rw [hlen]
  intro j
  induction j with
  | zero =>
    intro k i x hi hk hx
    obtain ⟨k, rfl⟩ : ∃ j, k = j + 1 := ⟨k - 1, by omega⟩
    obtain rfl : i = 8 := by omega
    have hU := bitsOf_U hx
    have hc := bitsOf_cl x
    rw [val_float.l0, if_neg (by omega), bits_f hx]
    simp only [Option.bind_some]
    have ed : (l.take 8).drop 8 = [] := List.drop_eq_nil_of_le (by omega)
    rw [show (if x ≥ 9223372036854775808 then cl (x - 9223372036854775808) else cl (18446744073709551615 - x)) = bitsOf x from rfl, key_f hU, hc, ed, List.foldl_nil]
    simp only [Option.bind_some]
    unfold floatEnd
    split
    · rw [if_pos (by omega), if_pos (by simp; omega)]; rfl
    · rfl
  | succ j ih =>
    intro k i x hi hk hx
    obtain ⟨k, rfl⟩ : ∃ j, k = j + 1 := ⟨k - 1, by omega⟩
    have hil : i < (l.take 8).length := by omega
    have er : rd (l.take 8) (i : Int) = (l.take 8)[i] := by
      simp only [rd, Int.toNat_natCast, List.getD_eq_getElem?_getD]
      rw [List.getElem?_eq_getElem hil]; rfl
    rw [val_float.l0, if_pos (by omega), if_pos (by omega), if_pos (by rw [hlen]; omega), er, or_f8 _ _ (hBt _ (List.getElem_mem hil)),
      show wrap64 ((i : Int) + 1) = ((i + 1 : Nat) : Int) by unfold wrap64; omega, ih k (i + 1) _ (by omega) (by omega) (f8_U _ _), List.drop_eq_getElem_cons hil, List.foldl_cons]
theorem rest_of {l t : List Int} {n : Int} (hB : Bs l) (h : numGo l 0 0 = .inr (n, t)) : t.length ≤ l.length ∧ t = l.drop (l.length - t.length) := by
  have e := put_num0 hB h
  have hlen : l.length = (putL 9 n).length + t.length := by rw [e, List.length_append]
  refine ⟨by omega, ?_⟩
  rw [show l.length - t.length = (putL 9 n).length by omega]
  rw [e, List.drop_left']
  rfl
theorem inl_ne : ∀ (l : List Int) (i : Nat) (m e : Int), numGo l i m = .inl e → e ≠ 0 := by
  intro l
  induction l with
  | nil => intro i m e h; simp [numGo] at h; omega
  | cons c l ih =>
    intro i m e h
    simp only [numGo] at h
    split at h
    · injection h with h; omega
    · split at h
      · cases h
      · exact ih _ _ _ h
/-- A value of a kind, read. -/
def dec (l : List Int) (k : Int) : Int × Int × ByteArray × List Int × Int :=
  if k = 1 then (match numGo l 0 0 with | .inl e => (0, 0, ⟨#[]⟩, [], e) | .inr (n, t) => (1, zag n, ⟨#[]⟩, t, 0))
  else if k = 2 then (if (l.length : Int) < 8 then (0, 0, ⟨#[]⟩, [], 3) else floatEnd l ((l.take 8).foldl f8 0))
  else (match numGo l 0 0 with | .inl e => (0, 0, ⟨#[]⟩, [], e) | .inr (n, t) => if 1024 < n then (0, 0, ⟨#[]⟩, [], 2) else if (t.length : Int) < n then (0, 0, ⟨#[]⟩, [], 3) else (3, 0, strOfNums (t.take n.toNat), t.drop n.toNat, 0))
theorem of_f (l : List Int) (k : Int) (hB : Bs l) (hl : l.length ≤ 140737488351232) (h1 : 1 ≤ k) (h3 : k ≤ 3) (K : Nat) (hK : 20 ≤ K) : val_Of.f K l k = some (dec l k) := by
  unfold val_Of.f dec
  rw [if_neg (by omega)]
  by_cases k1 : k = 1
  · rw [if_pos k1, if_pos k1]
    unfold leb_Get.f lebGet
    rw [if_pos (show ∀ x ∈ l, 0 ≤ x ∧ x < 256 from hB)]
    simp only [Option.bind_some]
    have hr := fun (n : Int) (t : List Int) => rest_of (l := l) (n := n) (t := t) hB
    have hn := numGo_range l 0 0
    have h4 := inl_ne l 0 0
    unfold getOut
    generalize numGo l 0 0 = o at *
    rcases o with e | ⟨n, t⟩
    · simp only
      rw [if_neg (h4 e rfl)]
    · obtain ⟨r1, r2⟩ := hr _ _ rfl
      have hnr := hn n t hB (by omega) (by omega) (by decide) rfl
      simp only
      rw [if_pos trivial]
      unfold leb_Zag.f
      rw [lebZag_eq hnr]
      simp only [Option.bind_some]
      rw [if_pos (by omega), if_pos (by omega), if_pos (by simp; omega), show ((l.length : Int) - (t.length : Int)).toNat = l.length - t.length by omega, ← r2]
      rfl
  · rw [if_neg k1, if_neg k1]
    by_cases k2 : k = 2
    · rw [if_pos k2, if_pos k2]
      unfold val_float.f
      by_cases h8 : (l.length : Int) < 8
      · rw [if_pos h8, if_pos h8]; rfl
      · rw [if_neg h8, if_neg h8, if_pos (by omega)]
        have := float_l l hB hl (by omega) 8 K 0 0 rfl (by omega) ⟨by omega, by omega⟩
        rw [List.drop_zero] at this
        have this2 : val_float.l0 K l 0 (l.take 8) ((l.take 8).length : Int) 0 = some (floatEnd l ((l.take 8).foldl f8 0)) := this
        rw [this2]
        rfl
    · rw [if_neg k2, if_neg k2, if_pos (by omega)]
      unfold leb_ToText.f lebToText
      rw [if_pos ⟨hB, by omega, by omega, by omega⟩]
      unfold toTextOut
      have h4 := inl_ne l 0 0
      generalize numGo l 0 0 = o at *
      rcases o with e | ⟨n, t⟩
      · simp only [Option.bind_some]
        rw [if_neg (h4 e rfl)]
      · simp only [Option.bind_some]
        by_cases c1 : 1024 < n
        · simp only [show ((1024 : Int) < 0 ∨ 1024 < n) = True from eq_true (Or.inr c1), if_true, if_pos c1]; rfl
        · have c0 : ((1024 : Int) < 0 ∨ 1024 < n) = False := eq_false (by omega)
          simp only [c0, if_false, if_neg c1]
          by_cases c2 : (t.length : Int) < n
          · simp only [if_pos c2]; rfl
          · simp only [if_neg c2, if_true]
theorem f8_small {x b : Int} (h : 0 ≤ x ∧ x < 72057594037927936) (hb : 0 ≤ b ∧ b < 256) : f8 x b = x * 256 + b := by unfold f8; omega
theorem eight {l : List Int} (h : l.length = 8) : ∃ a b c d e f g i, l = [a, b, c, d, e, f, g, i] := by
  match l, h with
  | [a, b, c, d, e, f, g, i], _ => exact ⟨a, b, c, d, e, f, g, i, rfl⟩
theorem fold_dig {l : List Int} (hB : Bs l) (h : l.length = 8) : U (l.foldl f8 0) ∧ dig 8 (l.foldl f8 0) = l := by
  obtain ⟨a, b, c, d, e, f, g, i, rfl⟩ := eight h
  have ha := hB a (by simp); have hb := hB b (by simp); have hc := hB c (by simp); have hd := hB d (by simp)
  have he := hB e (by simp); have hf := hB f (by simp); have hg := hB g (by simp); have hi := hB i (by simp)
  simp only [List.foldl_cons, List.foldl_nil]
  rw [f8_small (x := 0) (by omega) ha, f8_small (by omega) hb, f8_small (by omega) hc, f8_small (by omega) hd, f8_small (by omega) he, f8_small (by omega) hf, f8_small (by omega) hg, f8_small (by omega) hi]
  refine ⟨⟨by omega, by omega⟩, ?_⟩
  simp only [dig]
  have e0 : (256 : Int) ^ 0 = 1 := rfl
  have e1 : (256 : Int) ^ 1 = 256 := rfl
  have e2 : (256 : Int) ^ 2 = 65536 := rfl
  have e3 : (256 : Int) ^ 3 = 16777216 := rfl
  have e4 : (256 : Int) ^ 4 = 4294967296 := rfl
  have e5 : (256 : Int) ^ 5 = 1099511627776 := rfl
  have e6 : (256 : Int) ^ 6 = 281474976710656 := rfl
  have e7 : (256 : Int) ^ 7 = 72057594037927936 := rfl
  rw [e0, e1, e2, e3, e4, e5, e6, e7]
  simp only [List.cons.injEq, and_true]
  refine ⟨?_, ?_, ?_, ?_, ?_, ?_, ?_, ?_⟩ <;> omega
/-- A column's value of a kind that may be. -/
def Ok (k : Int) (v : S32) : Prop := v.f0 = k ∧ Wf v ∧ mayOf v = true
theorem may1 {v : S32} (h : v.f0 = 1) : mayOf v = true ↔ v.f2.size = 0 := by
  have h2 := may_of v
  unfold val_May.f at h2
  rw [if_neg (by omega), if_pos h, empty_bool] at h2
  rw [← Option.some.inj h2, decide_eq_true_iff]
theorem may2 {v : S32} (h : v.f0 = 2) : mayOf v = true ↔ v.f2.size = 0 ∧ cl (IntKind.u64.wrap v.f1) = IntKind.u64.wrap v.f1 := by
  have h2 := may_of v
  unfold val_May.f at h2
  rw [if_pos h, clean_f (u64_U v.f1)] at h2
  simp only [Option.bind_some] at h2
  split at h2
  · rename_i e
    rw [empty_bool] at h2
    rw [← Option.some.inj h2, decide_eq_true_iff]
    exact ⟨fun q => ⟨q, e.symm⟩, fun q => q.1⟩
  · rename_i e
    rw [← Option.some.inj h2]
    exact ⟨fun q => (by cases q), fun q => absurd q.2.symm e⟩
theorem may3 {v : S32} (h : v.f0 = 3) : mayOf v = true ↔ v.f1 = 0 ∧ v.f2.size ≤ 1024 := by
  have h2 := may_of v
  unfold val_May.f at h2
  rw [if_neg (by omega), if_neg (by omega), if_pos h] at h2
  split at h2
  · rename_i e
    rw [← Option.some.inj h2, decide_eq_true_iff]
    exact ⟨fun q => ⟨e, by omega⟩, fun q => by omega⟩
  · rename_i e
    rw [← Option.some.inj h2]
    exact ⟨fun q => (by cases q), fun q => absurd q.1 e⟩
theorem wrap_u64 {i : Int} (h : -9223372036854775808 ≤ i ∧ i < 9223372036854775808) : wrap64 (IntKind.u64.wrap i) = i := by rw [IntKind.wrap_u64]; unfold wrap64; omega
theorem u64_wrap {c : Int} (h : U c) : IntKind.u64.wrap (wrap64 c) = c := by
  obtain ⟨h1, h2⟩ := h
  rw [IntKind.wrap_u64]; unfold wrap64; omega
theorem key_U {a : Int} (h : U a) : U (Hand.keyOf a) := by obtain ⟨h1, h2⟩ := h; unfold Hand.keyOf U; split <;> omega
theorem enc_dec {k : Int} {l : List Int} (hB : Bs l) (hl : l.length ≤ 140737488351232) (h1 : 1 ≤ k) (h3 : k ≤ 3) (h : (dec l k).2.2.2.2 = 0) :
    Ok k ⟨(dec l k).1, (dec l k).2.1, (dec l k).2.2.1⟩ ∧ l = vby ⟨(dec l k).1, (dec l k).2.1, (dec l k).2.2.1⟩ ++ (dec l k).2.2.2.1 := by
  unfold dec at h ⊢
  by_cases k1 : k = 1
  · rw [if_pos k1] at h ⊢
    have hp := fun (n : Int) (t : List Int) => put_num0 (l := l) (y := n) (t := t) hB
    have hn := numGo_range l 0 0
    have h4 := inl_ne l 0 0
    generalize numGo l 0 0 = o at *
    rcases o with e | ⟨n, t⟩
    · exact absurd h (h4 e rfl)
    · have hnr := hn n t hB (by omega) (by omega) (by decide) rfl
      refine ⟨⟨k1.symm, ⟨zag_range hnr, by show (0 : Nat) ≤ _; omega⟩, (may1 rfl).2 rfl⟩, ?_⟩
      unfold vby
      rw [if_pos rfl]
      show l = putL 9 (zig (zag n)) ++ t
      rw [zig_zag hnr.1]
      exact hp n t rfl
  · rw [if_neg k1] at h ⊢
    by_cases k2 : k = 2
    · rw [if_pos k2] at h ⊢
      by_cases h8 : (l.length : Int) < 8
      · rw [if_pos h8] at h; cases h
      · rw [if_neg h8] at h ⊢
        obtain ⟨hU, hd⟩ := fold_dig (hB.take 8) (by rw [List.length_take]; omega)
        unfold floatEnd at h ⊢
        by_cases hk : Hand.keyOf (bitsOf ((l.take 8).foldl f8 0)) = (l.take 8).foldl f8 0
        · rw [if_pos hk] at h ⊢
          have hbU := bitsOf_U hU
          refine ⟨⟨k2.symm, ⟨by show -9223372036854775808 ≤ wrap64 _ ∧ wrap64 _ < 9223372036854775808; unfold wrap64; omega, by show (0 : Nat) ≤ _; omega⟩, (may2 rfl).2 ⟨rfl, ?_⟩⟩, ?_⟩
          · show cl (IntKind.u64.wrap (wrap64 _)) = IntKind.u64.wrap (wrap64 _)
            rw [u64_wrap hbU, bitsOf_cl]
          · unfold vby
            rw [if_neg (show ¬ (2 : Int) = 1 by decide), if_pos rfl]
            show l = dig 8 (Hand.keyOf (cl (IntKind.u64.wrap (wrap64 _)))) ++ l.drop 8
            rw [u64_wrap hbU, bitsOf_cl, hk, hd, List.take_append_drop]
        · rw [if_neg hk] at h; cases h
    · rw [if_neg k2] at h ⊢
      have hp := fun (n : Int) (t : List Int) => put_num0 (l := l) (y := n) (t := t) hB
      have hn := numGo_range l 0 0
      have h4 := inl_ne l 0 0
      generalize numGo l 0 0 = o at *
      rcases o with e | ⟨n, t⟩
      · exact absurd h (h4 e rfl)
      · have hnr := hn n t hB (by omega) (by omega) (by decide) rfl
        have hpl := hp n t rfl
        simp only at h ⊢
        by_cases c1 : 1024 < n
        · rw [if_pos c1] at h; cases h
        · rw [if_neg c1] at h ⊢
          by_cases c2 : (t.length : Int) < n
          · rw [if_pos c2] at h; cases h
          · rw [if_neg c2]
            have hBt : Bs t := by rw [hpl] at hB; exact hB.app.2
            have hsz : (strOfNums (t.take n.toNat)).size = n.toNat := by rw [Hand.strOfNums_size, List.length_take]; omega
            refine ⟨⟨by show (3 : Int) = k; omega, ⟨by show (-9223372036854775808 : Int) ≤ 0 ∧ (0 : Int) < 9223372036854775808; omega, by show (strOfNums (t.take n.toNat)).size ≤ _; omega⟩, (may3 rfl).2 ⟨rfl, by show (strOfNums (t.take n.toNat)).size ≤ _; omega⟩⟩, ?_⟩
            unfold vby
            rw [if_neg (show ¬ (3 : Int) = 1 by decide), if_neg (show ¬ (3 : Int) = 2 by decide), if_pos rfl]
            show l = putL 9 ((strOfNums (t.take n.toNat)).size : Int) ++ bytesOf (strOfNums (t.take n.toNat)) ++ t.drop n.toNat
            rw [hsz, bytes_str (hBt.take _), List.append_assoc, List.take_append_drop, show (n.toNat : Int) = n by omega]
            exact hpl
/-- Runs, of which none has the value of the one ahead. -/
def Chn : Option S32 → List S49 → Prop
  | _, [] => True
  | u, r :: t => u ≠ some r.f1 ∧ Chn (some r.f1) t
theorem lastV_snoc (o : List S49) (r : S49) : lastV (o ++ [r]) = some r.f1 := by unfold lastV; rw [List.getLast?_concat]; rfl
theorem runs_rep (v : S32) : ∀ (m : Nat) (out : List S49) (c : Int), runs (out ++ [⟨c, v⟩]) (List.replicate m v) = out ++ [⟨c + m, v⟩]
  | 0, out, c => by simp [runs]
  | m + 1, out, c => by
    have ih := runs_rep v m out (c + 1)
    unfold runs at *
    rw [List.replicate_succ, List.foldl_cons, step_snoc, if_pos rfl, ih, show c + 1 + (m : Int) = c + ((m + 1 : Nat) : Int) by omega]
theorem runs_app (out : List S49) (a b : List S32) : runs out (a ++ b) = runs (runs out a) b := by unfold runs; rw [List.foldl_append]
theorem step_new (out : List S49) (v : S32) (h : lastV out ≠ some v) : step out v = out ++ [⟨1, v⟩] := by
  rcases List.eq_nil_or_concat out with rfl | ⟨o, r, rfl⟩
  · rfl
  · simp only [List.concat_eq_append] at *
    rw [step_snoc, if_neg]
    intro e
    exact h (by rw [lastV_snoc, e])
theorem exp_cons (r : S49) (t : List S49) : exp (r :: t) = List.replicate r.f0.toNat r.f1 ++ exp t := by simp [exp]
/-- A run, read. -/
def nx (b : List Int) (most k : Int) : Int × Int × Int × ByteArray × List Int × Int :=
  match numGo b 0 0 with
  | .inl e => (0, 0, 0, ⟨#[]⟩, [], e)
  | .inr (n, t) => if n = 0 ∨ most < n then (0, 0, 0, ⟨#[]⟩, [], 4) else if (dec t k).2.2.2.2 = 0 then (n, (dec t k).1, (dec t k).2.1, (dec t k).2.2.1, (dec t k).2.2.2.1, 0) else (0, 0, 0, ⟨#[]⟩, [], (dec t k).2.2.2.2)
theorem next_f (b : List Int) (most k : Int) (hB : Bs b) (hl : b.length ≤ 140737488351232) (h1 : 1 ≤ k) (h3 : k ≤ 3) (m0 : 0 < most) (m1 : most ≤ 4096) (K : Nat) (hK : 40 ≤ K) : rle_next.f K b most k = some (nx b most k) := by
  obtain ⟨K, rfl⟩ : ∃ m, K = m + 1 := ⟨K - 1, by omega⟩
  unfold rle_next.f nx leb_Get.f lebGet
  rw [if_pos (show ∀ x ∈ b, 0 ≤ x ∧ x < 256 from hB)]
  simp only [Option.bind_some]
  have hr := fun (n : Int) (t : List Int) => rest_of (l := b) (n := n) (t := t) hB
  have hp := fun (n : Int) (t : List Int) => put_num0 (l := b) (y := n) (t := t) hB
  have hn := numGo_range b 0 0
  have h4 := inl_ne b 0 0
  unfold getOut
  generalize numGo b 0 0 = o at *
  rcases o with e | ⟨n, t⟩
  · simp only
    rw [if_neg (h4 e rfl)]
  · obtain ⟨r1, r2⟩ := hr _ _ rfl
    have hnr := hn n t hB (by omega) (by omega) (by decide) rfl
    have hBt : Bs t := by
      have := hp n t rfl
      rw [this] at hB
      exact hB.app.2
    have hu : IntKind.u64.wrap most = most := by rw [IntKind.wrap_u64]; omega
    simp only
    rw [if_pos trivial]
    by_cases c : n = 0 ∨ most < n
    · rw [if_pos c]
      by_cases c0 : n = 0
      · rw [if_pos c0]
        simp only [rle_next.j0]
        rfl
      · rw [if_neg c0, hu, decide_eq_true (show n > most by omega)]
        simp only [rle_next.j0]
        rfl
    · rw [if_neg c, if_neg (show ¬ n = 0 by omega), hu, decide_eq_false (show ¬ n > most by omega)]
      simp only [rle_next.j0]
      rw [if_neg (by simp), if_pos (by omega), if_pos (by omega), show ((b.length : Int) - (t.length : Int)).toNat = b.length - t.length by omega, ← r2, of_f t k hBt (by omega) h1 h3 K (by omega)]
      simp only [Option.bind_some]
      by_cases d0 : (dec t k).2.2.2.2 = 0
      · rw [if_pos d0, if_pos d0, show wrap64 n = n by unfold wrap64; omega]
      · rw [if_neg d0, if_neg d0]
theorem nx_ok {b : List Int} {most k : Int} (hB : Bs b) (hl : b.length ≤ 140737488351232) (h1 : 1 ≤ k) (h3 : k ≤ 3) (h : (nx b most k).2.2.2.2.2 = 0) :
    1 ≤ (nx b most k).1 ∧ (nx b most k).1 ≤ most ∧ Ok k ⟨(nx b most k).2.1, (nx b most k).2.2.1, (nx b most k).2.2.2.1⟩ ∧ b = rby ⟨(nx b most k).1, ⟨(nx b most k).2.1, (nx b most k).2.2.1, (nx b most k).2.2.2.1⟩⟩ ++ (nx b most k).2.2.2.2.1 := by
  have hr := fun (n : Int) (t : List Int) => rest_of (l := b) (n := n) (t := t) hB
  have hp := fun (n : Int) (t : List Int) => put_num0 (l := b) (y := n) (t := t) hB
  have hn := numGo_range b 0 0
  have h4 := inl_ne b 0 0
  unfold nx at *
  generalize numGo b 0 0 = o at *
  rcases o with e | ⟨n, t⟩
  · exact absurd h (h4 e rfl)
  · obtain ⟨r1, r2⟩ := hr _ _ rfl
    have hnr := hn n t hB (by omega) (by omega) (by decide) rfl
    have hbt := hp n t rfl
    have hBt : Bs t := by
      rw [hbt] at hB
      exact hB.app.2
    simp only at h ⊢
    by_cases c : n = 0 ∨ most < n
    · rw [if_pos c] at h
      cases h
    · rw [if_neg c] at h ⊢
      by_cases d0 : (dec t k).2.2.2.2 = 0
      · rw [if_pos d0] at h ⊢
        obtain ⟨g1, g2⟩ := enc_dec hBt (by omega) h1 h3 d0
        refine ⟨by show 1 ≤ n; omega, by show n ≤ most; omega, g1, ?_⟩
        unfold rby
        rw [List.append_assoc]
        refine hbt.trans ?_
        congr 1
      · rw [if_neg d0] at h
        exact absurd h d0
theorem tr_back {k : Int} (h1 : 1 ≤ k) (h3 : k ≤ 3) : ∀ (j K : Nat) (b : List Int) (out : List S49) (n : Int), n ≤ j → 60 + j < K → 0 ≤ n → n ≤ 4096 → out.length + n ≤ 10000 → Bs b → b.length ≤ 140737488351232 →
    ∃ r, rle_ToRuns.l0 K b n k out = some r ∧ (r.2 = 0 → ∃ rs : List S49, r.1 = out ++ rs ∧ b = rs.flatMap rby ∧ Chn (lastV out) rs ∧ (∀ x ∈ rs, 1 ≤ x.f0 ∧ Ok k x.f1) ∧ ((exp rs).length : Int) = n) ∧ (r.2 ≠ 0 → r.1 = []) := by
  intro j
  induction j with
  | zero =>
    intro K b out n hj hK h0 h4 ho hB hl
    obtain ⟨K, rfl⟩ : ∃ m, K = m + 1 := ⟨K - 1, by omega⟩
    simp only [rle_ToRuns.l0]
    rw [if_neg (by omega)]
    by_cases hb : (b.length : Int) > 0
    · rw [if_pos hb]
      exact ⟨_, rfl, fun h => (by cases h), fun _ => rfl⟩
    · rw [if_neg hb]
      refine ⟨_, rfl, fun _ => ⟨[], by simp, ?_, trivial, by simp, ?_⟩, fun h => absurd rfl h⟩
      · exact List.eq_nil_of_length_eq_zero (by omega)
      · show ((0 : Nat) : Int) = n; omega
  | succ j ih =>
    intro K b out n hj hK h0 h4 ho hB hl
    obtain ⟨K, rfl⟩ : ∃ m, K = m + 1 := ⟨K - 1, by omega⟩
    simp only [rle_ToRuns.l0]
    by_cases hn : n > 0
    · rw [if_pos hn, next_f b n k hB hl h1 h3 hn h4 K (by omega)]
      simp only [Option.bind_some]
      have hq := fun h => nx_ok (b := b) (most := n) (k := k) hB hl h1 h3 h
      generalize nx b n k = q at *
      by_cases e : q.2.2.2.2.2 = 0
      · obtain ⟨q1, q2, q3, q4⟩ := hq e
        rw [if_pos e, last_f out (by omega)]
        simp only [Option.bind_some]
        generalize hv : (⟨q.2.1, q.2.2.1, q.2.2.2.1⟩ : S32) = v at *
        have key : lastV out ≠ some v → ∃ r, (if out.length < 3518437208883 then rle_ToRuns.l0 K q.2.2.2.2.1 (wrap64 (n - q.1)) k (out ++ [⟨q.1, v⟩]) else none) = some r ∧ (r.2 = 0 → ∃ rs : List S49, r.1 = out ++ rs ∧ b = rs.flatMap rby ∧ Chn (lastV out) rs ∧ (∀ x ∈ rs, 1 ≤ x.f0 ∧ Ok k x.f1) ∧ ((exp rs).length : Int) = n) ∧ (r.2 ≠ 0 → r.1 = []) := by
          intro hne
          have hlen := congrArg List.length q4
          rw [List.length_append] at hlen
          have hB2 : Bs q.2.2.2.2.1 := by rw [q4] at hB; exact hB.app.2
          rw [if_pos (by omega), show wrap64 (n - q.1) = n - q.1 by unfold wrap64; omega]
          obtain ⟨r, g0, g1, g2⟩ := ih K q.2.2.2.2.1 (out ++ [⟨q.1, v⟩]) (n - q.1) (by omega) (by omega) (by omega) (by omega) (by rw [List.length_append, List.length_singleton]; omega) hB2 (by omega)
          refine ⟨r, g0, fun hz => ?_, g2⟩
          obtain ⟨rs, e1, e2, e3, e4, e5⟩ := g1 hz
          refine ⟨⟨q.1, v⟩ :: rs, by rw [e1]; simp, ?_, ⟨hne, ?_⟩, ?_, ?_⟩
          · rw [List.flatMap_cons, ← e2]; exact q4
          · rw [lastV_snoc] at e3; exact e3
          · intro x hx
            rcases List.mem_cons.1 hx with rfl | hx
            · exact ⟨q1, q3⟩
            · exact e4 x hx
          · rw [exp_cons, List.length_append, List.length_replicate]
            show ((q.1.toNat + (exp rs).length : Nat) : Int) = n
            omega
        rcases List.eq_nil_or_concat out with rfl | ⟨o, p, rfl⟩
        · simp only [List.getLast?_nil, Bool.false_eq_true, if_false]
          exact key (by simp [lastV])
        · simp only [List.concat_eq_append] at *
          simp only [List.getLast?_concat]
          rw [if_pos trivial]
          by_cases hpv : p.f1 = v
          · rw [if_pos (by rw [hpv, ← hv]; exact (veq _ _).2 rfl)]
            exact ⟨_, rfl, fun h => (by cases h), fun _ => rfl⟩
          · rw [if_neg (fun h => hpv (by rw [← hv]; exact (veq p.f1 ⟨q.2.1, q.2.2.1, q.2.2.2.1⟩).1 h))]
            exact key (by rw [lastV_snoc]; intro h; exact hpv (Option.some.inj h))
      · rw [if_neg e]
        exact ⟨_, rfl, fun h => absurd h e, fun _ => rfl⟩
    · rw [if_neg hn]
      by_cases hb : (b.length : Int) > 0
      · rw [if_pos hb]
        exact ⟨_, rfl, fun h => (by cases h), fun _ => rfl⟩
      · rw [if_neg hb]
        refine ⟨_, rfl, fun _ => ⟨[], by simp, ?_, trivial, by simp, ?_⟩, fun h => absurd rfl h⟩
        · exact List.eq_nil_of_length_eq_zero (by omega)
        · show ((0 : Nat) : Int) = n; omega
end Go.Proofs.Ytjchjdbfmiibhaa.PureB
