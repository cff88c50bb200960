/-
  The bytes of two numbers with a point that may be are in the order of these, byte by byte: for every input. (ValFloats)
-/
import Derived.Test.YthooijfdlamkkaaPVflx12
import Derived.Test.YthooijfdlamkkaaHPut
namespace Go.Proofs.Ythooijfdlamkkaa.Pure
open Go.RowKit Go.Proofs.Ythooijfdlamkkaa.PVfl Go.Proofs.YthooijfdlamkkaaW.PrintWords Go.Proofs.YthooijfdlamkkaaW.PrintLast Go.Proofs.YthooijfdlamkkaaW.PrintMore

theorem wf_i64f {x : Int} (h : (Lit.int .i64 x).wf = true) : -9223372036854775808 ≤ x ∧ x < 9223372036854775808 := by
  have h2 : -9223372036854775808 ≤ x ∧ x ≤ 9223372036854775807 := by simpa [Lit.wf, IntKind.min, IntKind.max, IntKind.signed, IntKind.bits] using h
  omega
def U (a : Int) : Prop := 0 ≤ a ∧ a < 18446744073709551616
def cl (a : Int) : Int := if a % 9223372036854775808 > 9218868437227405312 then 9221120237041090560 else a
theorem clean_f {a : Int} (h : U a) : flt_Clean.f a = some (cl a) := by unfold flt_Clean.f Hand.fltClean; exact if_pos h
theorem cl_U {a : Int} (h : U a) : U (cl a) := by obtain ⟨h1, h2⟩ := h; unfold cl U; split <;> omega
theorem cl_cl (a : Int) : cl (cl a) = cl a := by
  unfold cl
  split
  · rfl
  · rfl
theorem key_f {a : Int} (h : U a) : flt_Key.f a = some (Hand.keyOf (cl a)) := by
  have h2 := clean_f h
  unfold flt_Clean.f at h2
  unfold flt_Key.f Hand.fltKey
  rw [h2]; rfl
theorem key_U {a : Int} (h : U a) : U (Hand.keyOf a) := by obtain ⟨h1, h2⟩ := h; unfold Hand.keyOf U; split <;> omega
theorem key_inj {a b : Int} (ha : U a) (hb : U b) (h : Hand.keyOf a = Hand.keyOf b) : a = b := by
  obtain ⟨h1, h2⟩ := ha
  obtain ⟨h3, h4⟩ := hb
  unfold Hand.keyOf at h
  split at h <;> split at h <;> omega

/-- The last n bytes of a number, the greatest first. -/
def dig : Nat → Int → List Int
  | 0, _ => []
  | n + 1, a => (a / 256 ^ n % 256) :: dig n a
theorem p256 (n : Nat) : 0 < (256 : Int) ^ n := Int.pow_pos (by decide)
theorem mod_succ (a : Int) (n : Nat) : a % 256 ^ (n + 1) = (a / 256 ^ n % 256) * 256 ^ n + a % 256 ^ n := by
  have hp := p256 n
  rw [Int.pow_succ]
  generalize (256 : Int) ^ n = p at *
  have h1 := Int.emod_add_mul_ediv a p
  have h2 := Int.emod_add_mul_ediv (a / p) 256
  have h3 := Int.emod_nonneg a (show p ≠ 0 by omega)
  have h4 := Int.emod_lt_of_pos a hp
  have h5 : 0 ≤ a / p % 256 ∧ a / p % 256 < 256 := by omega
  generalize a / p / 256 = q at *
  generalize a / p % 256 = r at *
  generalize a % p = s at *
  have e : a = (r * p + s) + (p * 256) * q := by
    rw [← h2, Int.mul_add] at h1
    rw [Int.mul_assoc, Int.mul_comm r p]
    omega
  have h6 : 0 ≤ r * p := Int.mul_nonneg h5.1 (by omega)
  have h7 : r * p ≤ 255 * p := Int.mul_le_mul_of_nonneg_right (by omega) (by omega)
  rw [e, Int.add_mul_emod_self_left, Int.emod_eq_of_lt (by omega) (by omega)]
theorem byte_of {x y : Int} (hx : 0 ≤ x ∧ x < 256) (hy : 0 ≤ y ∧ y < 256) : (UInt8.ofNat x.toNat < UInt8.ofNat y.toNat ↔ x < y) ∧ (UInt8.ofNat x.toNat = UInt8.ofNat y.toNat ↔ x = y) := by
  have e1 : (UInt8.ofNat x.toNat).toNat = x.toNat := by rw [UInt8.toNat_ofNat']; omega
  have e2 : (UInt8.ofNat y.toNat).toNat = y.toNat := by rw [UInt8.toNat_ofNat']; omega
  constructor
  · rw [UInt8.lt_iff_toNat_lt, e1, e2]; omega
  · rw [← UInt8.toNat_inj, e1, e2]; omega
def bys (l : List Int) : List UInt8 := l.map fun n => UInt8.ofNat n.toNat
theorem strOfNums_toList (l : List Int) : (strOfNums l).toList = bys l := by
  rw [ByteArray.toList_eq]
  simp [strOfNums, bys]
theorem two_digs (p x y r s : Int) (hp : 0 < p) (hr : 0 ≤ r ∧ r < p) (hs : 0 ≤ s ∧ s < p) : (x * p + r < y * p + s ↔ x < y ∨ (x = y ∧ r < s)) ∧ (x * p + r = y * p + s ↔ x = y ∧ r = s) := by
  rcases Int.lt_trichotomy x y with h | h | h
  · have : (x + 1) * p ≤ y * p := Int.mul_le_mul_of_nonneg_right (by omega) (by omega)
    rw [Int.add_mul] at this
    omega
  · subst h
    omega
  · have : (y + 1) * p ≤ x * p := Int.mul_le_mul_of_nonneg_right (by omega) (by omega)
    rw [Int.add_mul] at this
    omega
theorem dig_lt (a b : Int) : ∀ n, (Op.bytesLess (bys (dig n a)) (bys (dig n b)) = true ↔ a % 256 ^ n < b % 256 ^ n) ∧ (bys (dig n a) = bys (dig n b) ↔ a % 256 ^ n = b % 256 ^ n)
  | 0 => by simp [dig, bys, Op.bytesLess, Int.emod_one]
  | n + 1 => by
    have ih := dig_lt a b n
    have hp := p256 n
    rw [mod_succ a n, mod_succ b n]
    have hx : 0 ≤ a / 256 ^ n % 256 ∧ a / 256 ^ n % 256 < 256 := by omega
    have hy : 0 ≤ b / 256 ^ n % 256 ∧ b / 256 ^ n % 256 < 256 := by omega
    have hr := And.intro (Int.emod_nonneg a (show (256 : Int) ^ n ≠ 0 by omega)) (Int.emod_lt_of_pos a hp)
    have hs := And.intro (Int.emod_nonneg b (show (256 : Int) ^ n ≠ 0 by omega)) (Int.emod_lt_of_pos b hp)
    have hb := byte_of hx hy
    have ht := two_digs _ (a / 256 ^ n % 256) (b / 256 ^ n % 256) _ _ hp hr hs
    rw [ht.1, ht.2]
    simp only [dig, bys, List.map_cons, Op.bytesLess, List.cons.injEq, Bool.or_eq_true, decide_eq_true_iff, Bool.and_eq_true, beq_iff_eq]
    rw [hb.1, hb.2]
    exact ⟨or_congr Iff.rfl (and_congr Iff.rfl ih.1), and_congr Iff.rfl ih.2⟩

theorem bytes_l (K : Int) : val_Bytes.l0 9 K [] 0 = some (dig 8 K, 0) := by
  have s : ∀ (x n : Int) (m : Nat), IntKind.u64.wrap (wrap64 (8 * wrap64 (7 - n))) = x → x.toNat = 8 * m → 8 * m ≤ 64 → shr .u64 K (IntKind.u64.wrap (wrap64 (8 * wrap64 (7 - n)))) = K / 256 ^ m := by
    intro x n m h1 h2 h3
    rw [h1]
    unfold shr
    rw [h2, show min (8 * m) IntKind.u64.bits = 8 * m from Nat.min_eq_left h3, Int.pow_mul]
    rfl
  have s0 := s 56 0 7 (by decide +kernel) rfl (by decide +kernel)
  have s1 := s 48 1 6 (by decide +kernel) rfl (by decide +kernel)
  have s2 := s 40 2 5 (by decide +kernel) rfl (by decide +kernel)
  have s3 := s 32 3 4 (by decide +kernel) rfl (by decide +kernel)
  have s4 := s 24 4 3 (by decide +kernel) rfl (by decide +kernel)
  have s5 := s 16 5 2 (by decide +kernel) rfl (by decide +kernel)
  have s6 := s 8 6 1 (by decide +kernel) rfl (by decide +kernel)
  have s7 := s 0 7 0 (by decide +kernel) rfl (by decide +kernel)
  have step : ∀ (k : Nat) (acc : List Int) (n m : Int) (d : Int), n < 8 → 0 ≤ IntKind.u64.wrap (wrap64 (8 * wrap64 (7 - n))) → acc.length < 100 → shr .u64 K (IntKind.u64.wrap (wrap64 (8 * wrap64 (7 - n)))) = d → wrap64 (n + 1) = m →
      val_Bytes.l0 (k + 1) K acc n = val_Bytes.l0 k K (acc ++ [d % 256]) m := by
    intro k acc n m d h1 h2 h3 h4 h5
    rw [val_Bytes.l0, if_pos h1, if_pos h2, if_pos (by omega), h4, h5]
  rw [step 8 _ 0 1 _ (by decide +kernel) (by decide +kernel) (by simp) s0 (by decide +kernel), step 7 _ 1 2 _ (by decide +kernel) (by decide +kernel) (by simp) s1 (by decide +kernel), step 6 _ 2 3 _ (by decide +kernel) (by decide +kernel) (by simp) s2 (by decide +kernel),
    step 5 _ 3 4 _ (by decide +kernel) (by decide +kernel) (by simp) s3 (by decide +kernel), step 4 _ 4 5 _ (by decide +kernel) (by decide +kernel) (by simp) s4 (by decide +kernel), step 3 _ 5 6 _ (by decide +kernel) (by decide +kernel) (by simp) s5 (by decide +kernel),
    step 2 _ 6 7 _ (by decide +kernel) (by decide +kernel) (by simp) s6 (by decide +kernel), step 1 _ 7 8 _ (by decide +kernel) (by decide +kernel) (by simp) s7 (by decide +kernel)]
  rw [val_Bytes.l0, if_neg (by decide +kernel)]
  rfl

theorem u64_i64 {c : Int} (h : U c) : IntKind.u64.wrap (wrap64 c) = c := by
  obtain ⟨h1, h2⟩ := h
  rw [IntKind.wrap_u64]
  unfold wrap64
  omega
theorem may_f {c : Int} (h : U c) (hc : cl c = c) : val_May.f 2 (wrap64 c) ⟨#[]⟩ = some true := by
  unfold val_May.f
  rw [if_pos rfl, u64_i64 h, clean_f h]
  simp only [Option.bind_some]
  rw [if_pos hc.symm, ByteArray.toList_eq]
  rfl
theorem bytes_f {c : Int} (h : U c) (hc : cl c = c) : val_Bytes.f 9 2 (wrap64 c) ⟨#[]⟩ = some (dig 8 (Hand.keyOf c), 0) := by
  unfold val_Bytes.f
  rw [may_f h hc]
  simp only [Option.bind_some, if_true]
  rw [if_neg (by decide), u64_i64 h, key_f h, hc]
  simp only [Option.bind_some]
  exact bytes_l _
theorem compare_f {c d : Int} (hc : U c) (hcc : cl c = c) (hd : U d) (hdd : cl d = d) : val_Compare.f 2 (wrap64 c) ⟨#[]⟩ 2 (wrap64 d) ⟨#[]⟩ = some (if Hand.keyOf c < Hand.keyOf d then -1 else if Hand.keyOf c > Hand.keyOf d then 1 else 0) := by
  unfold val_Compare.f flt_Compare.f
  rw [if_pos rfl, if_neg (by decide), if_pos rfl, u64_i64 hc, u64_i64 hd, key_f hc, key_f hd, hcc, hdd]
  simp only [Option.bind_some]
  split
  · rfl
  · split <;> rfl

theorem ValFloats : law05_ValFloats.Pure := by
  intro a b ha hb
  have ha := wf_i64f ha
  have hb := wf_i64f hb
  have hs : law05_shown.f = some true := by decide +kernel
  have hua : U (IntKind.u64.wrap a) := by rw [IntKind.wrap_u64]; unfold U; omega
  have hub : U (IntKind.u64.wrap b) := by rw [IntKind.wrap_u64]; unfold U; omega
  have ca : val_Clean.f 2 a ⟨#[]⟩ = some (2, wrap64 (cl (IntKind.u64.wrap a)), ⟨#[]⟩) := by
    have := clean_f hua
    unfold flt_Clean.f at this
    unfold val_Clean.f Hand.valClean
    rw [if_pos rfl, this]
    rfl
  have cb : val_Clean.f 2 b ⟨#[]⟩ = some (2, wrap64 (cl (IntKind.u64.wrap b)), ⟨#[]⟩) := by
    have := clean_f hub
    unfold flt_Clean.f at this
    unfold val_Clean.f Hand.valClean
    rw [if_pos rfl, this]
    rfl
  refine ⟨9, ?_⟩
  unfold law05_ValFloats.f
  rw [hs, ca, cb]
  have h1 := cl_U hua
  have h2 := cl_cl (IntKind.u64.wrap a)
  have h3 := cl_U hub
  have h4 := cl_cl (IntKind.u64.wrap b)
  generalize cl (IntKind.u64.wrap a) = c at *
  generalize cl (IntKind.u64.wrap b) = d at *
  simp only [Option.bind_some]
  rw [bytes_f h1 h2, bytes_f h3 h4]
  simp only [Option.bind_some, if_true]
  rw [if_pos (by rfl), if_pos (by rfl), compare_f h1 h2 h3 h4]
  simp only [Option.bind_some]
  have hk1 := key_U h1
  have hk2 := key_U h3
  have hd := dig_lt (Hand.keyOf c) (Hand.keyOf d) 8
  have e : (256 : Int) ^ 8 = 18446744073709551616 := by decide
  rw [e, Int.emod_eq_of_lt hk1.1 hk1.2, Int.emod_eq_of_lt hk2.1 hk2.2] at hd
  rw [strOfNums_toList, strOfNums_toList]
  have hx : ((Op.bytesLess (bys (dig 8 (Hand.keyOf c))) (bys (dig 8 (Hand.keyOf d)))) == (decide ((if Hand.keyOf c < Hand.keyOf d then (-1 : Int) else if Hand.keyOf c > Hand.keyOf d then 1 else 0) < 0))) = true := by
    rw [beq_iff_eq, Bool.eq_iff_iff, hd.1, decide_eq_true_iff]
    split
    · omega
    · split <;> omega
  rw [if_pos hx]
  congr 1
  rw [beq_iff_eq, Bool.eq_iff_iff, beq_iff_eq, hd.2]
  simp only [beq_self_eq_true, Bool.true_and, Bool.and_true, beq_iff_eq]
  constructor
  · intro h
    rw [key_inj h1 h3 h]
  · intro h
    have := congrArg IntKind.u64.wrap h
    rw [u64_i64 h1, u64_i64 h3] at this
    rw [this]
end Go.Proofs.Ythooijfdlamkkaa.Pure
