/-
  Several texts in one (by wip/gprint/mergeh.py), in their order.
-/
import Derived.Test.YthpoeljnmdjjiaaProg
import Derived.Test.YthpoeljnmdjjiaaTw
import Derived.Laws.Externs
import Derived.Laws.Cover2
import Derived.Lib.Hide
import Derived.WalkLawsBesides
import Derived.Laws.DeepNot64
import Derived.Laws.Bits64b
import Derived.Deep.Slices
import Derived.SizedLaws
section
/-
  By hand: the contracts of flt.Clean (and, where a seat has it, flt.Whole): what the code does with a float64's bits, in the words of the model's own float core.
-/
namespace Go.Proofs.Ythpoeljnmdjjiaa.Hand
open Go.RowKit Go.Proofs.YthpoeljnmdjjiaaW.PrintWords

/-- The one NaN of all NaNs; other bits as they are. -/
def fltClean (a : Int) : Option Int :=
  if 0 ≤ a ∧ a < 18446744073709551616 then some (if a % 9223372036854775808 > 9218868437227405312 then 9221120237041090560 else a) else none

theorem frombits (a : Int) (w : World) : (callFunc 88 #[.int .u64 a]).run Try.prog w = .ok (.value (.float .f64 a.toNat)) w := by
  rw [run_callFunc_extern (e := Extern.MathFloatBits.float64frombits) Try.func88 (by kernel_rfl) (by kernel_rfl) (by kernel_rfl) (by kernel_rfl)]
  rfl

/-- A word is itself, but a NaN. -/
theorem order_self (n : Nat) : FloatKind.f64.format.order n n = if n % 9223372036854775808 ≤ 9218868437227405312 then some .eq else none := by
  have e1 : FloatKind.f64.format = Ieee.double := rfl
  have e2 : Ieee.double.signWeight = 9223372036854775808 := by decide
  have e3 : Ieee.double.binade = 4503599627370496 := by decide
  have e4 : Ieee.double.infRung = 9218868437227405312 := by decide
  have ordc : ∀ x : Int, compare x x = Ordering.eq := fun x => by simp
  have ordn : ∀ x : Nat, compare x x = Ordering.eq := fun x => by simp
  simp only [e1, Ieee.Format.order, Ieee.Format.read, e2, e3, e4]
  by_cases c1 : n % 9223372036854775808 < 4503599627370496
  · rw [if_pos c1, if_pos (by omega)]
    simp [Ieee.Datum.order]
  · rw [if_neg c1]
    by_cases c2 : n % 9223372036854775808 < 9218868437227405312
    · rw [if_pos c2, if_pos (by omega)]
      simp [Ieee.Datum.order]
    · rw [if_neg c2]
      by_cases c3 : n % 9223372036854775808 = 9218868437227405312
      · rw [if_pos c3, if_pos (by omega)]
        simp [Ieee.Datum.order]
      · rw [if_neg c3, if_neg (by omega)]
        simp [Ieee.Datum.order]

theorem fltClean_calls (a0 : Int) (r : Int) (w : World) (h : fltClean a0 = some r) :
    Calls Try.prog 76 #[.int .u64 a0] w fun e w' => e = .returned (.int .u64 r) ∧ Drawn0 w w' := by
  unfold fltClean at h
  split at h
  · rename_i hr
    injection h with h
    have hs := order_self a0.toNat
    have hn : (a0.toNat % 9223372036854775808 : Nat) = (a0 % 9223372036854775808).toNat := by omega
    have hfb := frombits a0
    by_cases c : a0 % 9223372036854775808 > 9218868437227405312
    · rw [if_pos c] at h
      rw [if_neg (by omega)] at hs
      subst h
      have ht : (FloatKind.f64.format.order a0.toNat a0.toNat != some .eq) = true := by rw [hs]; rfl
      clear hs
      go_enter Try.func76, Try.ntmps76
      go_wp2
      go_ret
      exact ⟨rfl, Drawn0.refl _⟩
    · rw [if_neg c] at h
      rw [if_pos (by omega)] at hs
      subst h
      have ht : (FloatKind.f64.format.order a0.toNat a0.toNat != some .eq) = false := by rw [hs]; rfl
      clear hs
      go_enter Try.func76, Try.ntmps76
      go_wp2
      go_ret
      exact ⟨rfl, Drawn0.refl _⟩
  · cases h
end Go.Proofs.Ythpoeljnmdjjiaa.Hand
end
section
/-
  By hand: the contracts of flt.Key and flt.Bits (the print takes no '^x').
-/
namespace Go.Proofs.Ythpoeljnmdjjiaa.Hand
open Go.RowKit Go.Proofs.YthpoeljnmdjjiaaW.PrintWords

def keyOf (c : Int) : Int := if c ≥ 9223372036854775808 then 18446744073709551615 - c else c + 9223372036854775808
def fltKey (a : Int) : Option Int := (fltClean a).bind fun c => some (keyOf c)
def fltBits (k : Int) : Option Int := if 0 ≤ k ∧ k < 18446744073709551616 then (if k ≥ 9223372036854775808 then fltClean (k - 9223372036854775808) else fltClean (18446744073709551615 - k)) else none

theorem fltClean_range (a r : Int) (h : fltClean a = some r) : 0 ≤ r ∧ r < 18446744073709551616 := by
  unfold fltClean at h
  split at h
  · injection h with h
    split at h <;> omega
  · cases h

theorem ofInt64 (a : Int) (h0 : 0 ≤ a) (h1 : a < 18446744073709551616) : (BitVec.ofInt 64 a).toNat = a.toNat := by
  obtain ⟨n, rfl⟩ := Int.eq_ofNat_of_zero_le h0
  rw [BitVec.ofInt_natCast, BitVec.toNat_ofNat, Int.toNat_natCast]
  exact Nat.mod_eq_of_lt (by omega)
theorem not_u64 (c : Int) (h0 : 0 ≤ c) (h1 : c < 18446744073709551616) : bits .xor .u64 IntKind.u64.max c = 18446744073709551615 - c := by
  show IntKind.u64.wrap ((BitVec.ofInt 64 IntKind.u64.max ^^^ BitVec.ofInt 64 c).toNat : Int) = _
  have e : BitVec.ofInt 64 IntKind.u64.max = BitVec.allOnes 64 := by decide
  rw [e, BitVec.allOnes_xor, BitVec.toNat_not, ofInt64 c h0 h1, IntKind.wrap_u64]
  omega
theorem or_top (c : Int) (h0 : 0 ≤ c) (h1 : c < 9223372036854775808) : bits .or .u64 c 9223372036854775808 = c + 9223372036854775808 := by
  obtain ⟨n, rfl⟩ := Int.eq_ofNat_of_zero_le h0
  have h2 : n < 2 ^ 63 := by omega
  have e := Nat.two_pow_add_eq_or_of_lt h2 1
  have h3 := bits_or_u64_nat n 9223372036854775808 (by omega) (by decide)
  have h4 : ((9223372036854775808 : Nat) : Int) = 9223372036854775808 := by rfl
  rw [h4] at h3
  rw [h3, Nat.or_comm]
  have e2 : 2 ^ 63 * 1 = 9223372036854775808 := by decide
  rw [e2] at e
  rw [← e]
  omega
theorem andNot_top (c : Int) (h0 : 9223372036854775808 ≤ c) (h1 : c < 18446744073709551616) : bits .andNot .u64 c 9223372036854775808 = c - 9223372036854775808 := by
  show IntKind.u64.wrap ((BitVec.ofInt 64 c &&& ~~~ (BitVec.ofInt 64 9223372036854775808)).toNat : Int) = _
  have e : (~~~ (BitVec.ofInt 64 9223372036854775808)).toNat = 2 ^ 63 - 1 := by decide
  rw [BitVec.toNat_and, e, Nat.and_two_pow_sub_one_eq_mod, ofInt64 c (by omega) h1, IntKind.wrap_u64]
  omega

theorem fltKey_calls (a0 : Int) (r : Int) (w : World) (h : fltKey a0 = some r) :
    Calls Try.prog 80 #[.int .u64 a0] w fun e w' => e = .returned (.int .u64 r) ∧ Drawn0 w w' := by
  unfold fltKey at h
  obtain ⟨c, hc, h⟩ := Option.bind_eq_some_iff.1 h
  injection h with h
  have hr := fltClean_range _ _ hc
  unfold keyOf at h
  by_cases hs : c ≥ 9223372036854775808
  · rw [if_pos hs] at h
    subst h
    have hx := not_u64 c hr.1 hr.2
    go_enter Try.func80, Try.ntmps80
    go_wp2_with (go_at_call 76; refine (fltClean_calls _ c _ hc).mono ?_; rintro e w' ⟨rfl, ⟨nd, rfl⟩⟩)
    go_ret
    exact ⟨rfl, ⟨nd, rfl⟩⟩
  · rw [if_neg hs] at h
    subst h
    have hx := or_top c hr.1 (by omega)
    go_enter Try.func80, Try.ntmps80
    go_wp2_with (go_at_call 76; refine (fltClean_calls _ c _ hc).mono ?_; rintro e w' ⟨rfl, ⟨nd, rfl⟩⟩)
    go_ret
    exact ⟨rfl, ⟨nd, rfl⟩⟩
end Go.Proofs.Ythpoeljnmdjjiaa.Hand
end
section
/-
  By hand: cmp.Compare of texts (the model's 'greater' is neither less nor the same).
-/
namespace Go.Proofs.Ythpoeljnmdjjiaa.Hand
open Go.RowKit Go.Proofs.YthpoeljnmdjjiaaW.PrintWords

def strCmp (a b : ByteArray) : Int := if Op.bytesLess a.toList b.toList = true then -1 else if a.toList = b.toList then 0 else 1

theorem isNaNs_calls (a : ByteArray) (w : World) : Calls Try.prog 81 #[.string a] w fun e w' => e = .returned (.bool false) ∧ Drawn0 w w' := by
  go_enter Try.func81, Try.ntmps81
  go_wp2
  go_ret
  exact ⟨by simp, by repeat (first | exact Drawn0.refl _ | apply Drawn0.step)⟩
set_option maxRecDepth 100000 in
theorem strCmp_calls (a b : ByteArray) (w : World) : Calls Try.prog 63 #[.string a, .string b] w fun e w' => e = .returned (.int .i64 (strCmp a b)) ∧ Drawn0 w w' := by
  unfold strCmp
  by_cases c1 : Op.bytesLess a.toList b.toList = true
  · rw [if_pos c1]
    go_enter Try.func63, Try.ntmps63
    go_wp2_with (first | (go_at_call 81; refine (isNaNs_calls a _).mono ?_; rintro e w1 ⟨rfl, ⟨nd, rfl⟩⟩) | (go_at_call 81; refine (isNaNs_calls b _).mono ?_; rintro e w1 ⟨rfl, ⟨nd2, rfl⟩⟩))
    go_ret
    exact ⟨by first | rfl | (simp; done) | (simp [*]; done), by repeat (first | exact Drawn0.refl _ | apply Drawn0.step)⟩
  · rw [if_neg c1]
    have c1b : Op.bytesLess a.toList b.toList = false := by simpa using c1
    clear c1
    by_cases c2 : a.toList = b.toList
    · rw [if_pos c2]
      have c2b : (a.toList == b.toList) = true := beq_iff_eq.mpr c2
      have c3b : (Op.bytesLess a.toList b.toList || a.toList == b.toList) = true := by rw [c1b, c2b]; rfl
      clear c2
      go_enter Try.func63, Try.ntmps63
      go_wp2_with (first | (go_at_call 81; refine (isNaNs_calls a _).mono ?_; rintro e w1 ⟨rfl, ⟨nd, rfl⟩⟩) | (go_at_call 81; refine (isNaNs_calls b _).mono ?_; rintro e w1 ⟨rfl, ⟨nd2, rfl⟩⟩))
      go_ret
      exact ⟨by first | rfl | (simp; done) | (simp [*]; done), by repeat (first | exact Drawn0.refl _ | apply Drawn0.step)⟩
    · rw [if_neg c2]
      have c2b : (a.toList == b.toList) = false := beq_eq_false_iff_ne.mpr c2
      have c3b : (Op.bytesLess a.toList b.toList || a.toList == b.toList) = false := by rw [c1b, c2b]; rfl
      clear c2
      go_enter Try.func63, Try.ntmps63
      go_wp2_with (first | (go_at_call 81; refine (isNaNs_calls a _).mono ?_; rintro e w1 ⟨rfl, ⟨nd, rfl⟩⟩) | (go_at_call 81; refine (isNaNs_calls b _).mono ?_; rintro e w1 ⟨rfl, ⟨nd2, rfl⟩⟩))
      go_ret
      exact ⟨by first | rfl | (simp; done) | (simp [*]; done), by repeat (first | exact Drawn0.refl _ | apply Drawn0.step)⟩
end Go.Proofs.Ythpoeljnmdjjiaa.Hand
end
section
/-
  Plain laws of the order of values (kind by kind): antisymmetric, transitive; of values that may be, alike only where they are the same.
-/
namespace Go.Proofs.Ythpoeljnmdjjiaa.Hand
open Go.RowKit Go.Proofs.YthpoeljnmdjjiaaW.PrintWords

def cmpI (x y : Int) : Int := if x < y then -1 else if x > y then 1 else 0
theorem cmpI_range (x y : Int) : cmpI x y = -1 ∨ cmpI x y = 0 ∨ cmpI x y = 1 := by unfold cmpI; split <;> (try split) <;> simp
theorem cmpI_anti (x y : Int) : cmpI y x = - cmpI x y := by unfold cmpI; split <;> split <;> (try split) <;> (try split) <;> omega
theorem cmpI_trans {x y z : Int} (h1 : cmpI x y ≤ 0) (h2 : cmpI y z ≤ 0) : cmpI x z ≤ 0 := by
  unfold cmpI at *
  split at h1 <;> split at h2 <;> (try split at h1) <;> (try split at h2) <;> split <;> (try split) <;> omega
theorem cmpI_zero (x y : Int) : cmpI x y = 0 ↔ x = y := by unfold cmpI; split <;> (try split) <;> omega
theorem cmpI_neg (x y : Int) : cmpI x y < 0 ↔ x < y := by unfold cmpI; split <;> (try split) <;> omega
theorem cmpI_pos (x y : Int) : cmpI x y > 0 ↔ x > y := by unfold cmpI; split <;> (try split) <;> omega

theorem less_irrefl : ∀ a : List UInt8, Op.bytesLess a a = false
  | [] => rfl
  | x :: a => by simp [Op.bytesLess, less_irrefl a]
theorem less_trans : ∀ a b c : List UInt8, Op.bytesLess a b = true → Op.bytesLess b c = true → Op.bytesLess a c = true
  | [], [], _, h, _ => by simp [Op.bytesLess] at h
  | [], _ :: _, [], _, h => by simp [Op.bytesLess] at h
  | [], _ :: _, _ :: _, _, _ => by simp [Op.bytesLess]
  | _ :: _, [], _, h, _ => by simp [Op.bytesLess] at h
  | _ :: _, _ :: _, [], _, h => by simp [Op.bytesLess] at h
  | x :: a, y :: b, z :: c, h1, h2 => by
    have ih := less_trans a b c
    simp only [Op.bytesLess, Bool.or_eq_true, Bool.and_eq_true, decide_eq_true_eq, beq_iff_eq] at *
    simp only [UInt8.lt_iff_toNat_lt, ← UInt8.toNat_inj] at *
    rcases h1 with h1 | ⟨h1, h1'⟩ <;> rcases h2 with h2 | ⟨h2, h2'⟩
    · left; omega
    · left; omega
    · left; omega
    · right; exact ⟨by omega, ih h1' h2'⟩
theorem less_tri : ∀ a b : List UInt8, Op.bytesLess a b = true ∨ a = b ∨ Op.bytesLess b a = true
  | [], [] => .inr (.inl rfl)
  | [], _ :: _ => .inl rfl
  | _ :: _, [] => .inr (.inr rfl)
  | x :: a, y :: b => by
    rcases less_tri a b with h | h | h
    all_goals
      simp only [Op.bytesLess, Bool.or_eq_true, Bool.and_eq_true, decide_eq_true_eq, beq_iff_eq, List.cons.injEq]
      simp only [UInt8.lt_iff_toNat_lt, ← UInt8.toNat_inj]
      rcases Nat.lt_trichotomy x.toNat y.toNat with q | q | q
    all_goals (first | (left; left; exact q) | (right; right; left; exact q) | (left; right; exact ⟨q, h⟩) | (right; left; exact ⟨q, h⟩) | (right; right; right; exact ⟨q.symm, h⟩))
theorem strCmp_range (a b : ByteArray) : strCmp a b = -1 ∨ strCmp a b = 0 ∨ strCmp a b = 1 := by unfold strCmp; split <;> (try split) <;> simp
theorem strCmp_anti (a b : ByteArray) : strCmp b a = - strCmp a b := by
  unfold strCmp
  rcases less_tri a.toList b.toList with h | h | h
  · have h2 : Op.bytesLess b.toList a.toList = false := by
      cases q : Op.bytesLess b.toList a.toList
      · rfl
      · have := less_trans _ _ _ h q
        rw [less_irrefl] at this
        cases this
    have h3 : ¬ b.toList = a.toList := fun e => by rw [e, less_irrefl] at h; cases h
    rw [if_pos h, h2, if_neg (by simp), if_neg h3]; rfl
  · rw [h, less_irrefl]; simp
  · have h2 : Op.bytesLess a.toList b.toList = false := by
      cases q : Op.bytesLess a.toList b.toList
      · rfl
      · have := less_trans _ _ _ h q
        rw [less_irrefl] at this
        cases this
    have h3 : ¬ a.toList = b.toList := fun e => by rw [e, less_irrefl] at h; cases h
    rw [if_pos h, h2, if_neg (by simp), if_neg h3]
theorem strCmp_le (a b : ByteArray) : strCmp a b ≤ 0 ↔ Op.bytesLess a.toList b.toList = true ∨ a.toList = b.toList := by
  unfold strCmp
  by_cases h : Op.bytesLess a.toList b.toList = true
  · rw [if_pos h]; simp [h]
  · rw [if_neg h]
    by_cases h2 : a.toList = b.toList
    · rw [if_pos h2]; simp [h2]
    · rw [if_neg h2]; simp [h, h2]
theorem strCmp_trans {a b c : ByteArray} (h1 : strCmp a b ≤ 0) (h2 : strCmp b c ≤ 0) : strCmp a c ≤ 0 := by
  rw [strCmp_le] at *
  rcases h1 with h1 | h1 <;> rcases h2 with h2 | h2
  · exact .inl (less_trans _ _ _ h1 h2)
  · exact .inl (h2 ▸ h1)
  · exact .inl (h1 ▸ h2)
  · exact .inr (h1.trans h2)
theorem strCmp_zero (a b : ByteArray) : strCmp a b = 0 ↔ a = b := by
  unfold strCmp
  by_cases h : Op.bytesLess a.toList b.toList = true
  · rw [if_pos h]
    constructor
    · intro q; cases q
    · rintro rfl; rw [less_irrefl] at h; cases h
  · rw [if_neg h]
    constructor
    · intro q
      split at q
      · rename_i e
        rw [ByteArray.toList_eq, ByteArray.toList_eq] at e
        cases a; cases b
        simpa using e
      · cases q
    · rintro rfl
      rw [if_pos rfl]

def u64 (i : Int) : Int := IntKind.u64.wrap i
def U (a : Int) : Prop := 0 ≤ a ∧ a < 18446744073709551616
theorem u64_U (i : Int) : U (u64 i) := by unfold u64; rw [IntKind.wrap_u64]; unfold U; omega
def cl (a : Int) : Int := if a % 9223372036854775808 > 9218868437227405312 then 9221120237041090560 else a
def ck (a : Int) : Int := keyOf (cl a)
theorem cl_U {a : Int} (h : U a) : U (cl a) := by obtain ⟨h1, h2⟩ := h; unfold cl U; split <;> omega
theorem cl_cl (a : Int) : cl (cl a) = cl a := by
  unfold cl
  by_cases h : a % 9223372036854775808 > 9218868437227405312
  · rw [if_pos h]; decide
  · rw [if_neg h, if_neg h]
theorem fltClean_f {a : Int} (h : U a) : fltClean a = some (cl a) := if_pos h
theorem fltKey_f {a : Int} (h : U a) : fltKey a = some (ck a) := by unfold fltKey; rw [fltClean_f h]; rfl
theorem keyOf_inj {a b : Int} (ha : U a) (hb : U b) (h : keyOf a = keyOf b) : a = b := by
  obtain ⟨a1, a2⟩ := ha; obtain ⟨b1, b2⟩ := hb
  unfold keyOf at h
  split at h <;> split at h <;> omega
def valCmp (k1 i1 : Int) (s1 : ByteArray) (k2 i2 : Int) (s2 : ByteArray) : Int :=
  if k1 = k2 then (if k1 = 1 then cmpI i1 i2 else if k1 = 2 then cmpI (ck (u64 i1)) (ck (u64 i2)) else if k1 = 3 then strCmp s1 s2 else 0) else cmpI k1 k2
section
variable (k1 i1 : Int) (s1 : ByteArray) (k2 i2 : Int) (s2 : ByteArray)
theorem valCmp_range : valCmp k1 i1 s1 k2 i2 s2 = -1 ∨ valCmp k1 i1 s1 k2 i2 s2 = 0 ∨ valCmp k1 i1 s1 k2 i2 s2 = 1 := by
  unfold valCmp
  split
  · split
    · exact cmpI_range _ _
    · split
      · exact cmpI_range _ _
      · split
        · exact strCmp_range _ _
        · simp
  · exact cmpI_range _ _
theorem valCmp_anti : valCmp k2 i2 s2 k1 i1 s1 = - valCmp k1 i1 s1 k2 i2 s2 := by
  unfold valCmp
  by_cases h : k1 = k2
  · subst h
    rw [if_pos rfl, if_pos rfl]
    split
    · exact cmpI_anti _ _
    · split
      · exact cmpI_anti _ _
      · split
        · exact strCmp_anti _ _
        · rfl
  · rw [if_neg h, if_neg (fun e => h e.symm)]
    exact cmpI_anti _ _
theorem valCmp_self : valCmp k1 i1 s1 k1 i1 s1 = 0 := by
  have := valCmp_anti k1 i1 s1 k1 i1 s1
  omega
end
theorem valCmp_trans {k1 i1 : Int} {s1 : ByteArray} {k2 i2 : Int} {s2 : ByteArray} {k3 i3 : Int} {s3 : ByteArray} (h1 : valCmp k1 i1 s1 k2 i2 s2 ≤ 0) (h2 : valCmp k2 i2 s2 k3 i3 s3 ≤ 0) : valCmp k1 i1 s1 k3 i3 s3 ≤ 0 := by
  unfold valCmp at *
  by_cases e1 : k1 = k2
  · subst e1
    rw [if_pos rfl] at h1
    by_cases e2 : k1 = k3
    · subst e2
      rw [if_pos rfl] at h2 ⊢
      by_cases c1 : k1 = 1
      · rw [if_pos c1] at *; exact cmpI_trans h1 h2
      · rw [if_neg c1] at *
        by_cases c2 : k1 = 2
        · rw [if_pos c2] at *; exact cmpI_trans h1 h2
        · rw [if_neg c2] at *
          by_cases c3 : k1 = 3
          · rw [if_pos c3] at *; exact strCmp_trans h1 h2
          · rw [if_neg c3] at *; exact h2
    · rw [if_neg e2] at h2 ⊢; exact h2
  · rw [if_neg e1] at h1
    by_cases e2 : k2 = k3
    · subst e2
      rw [if_neg e1]; exact h1
    · rw [if_neg e2] at h2
      have h3 := cmpI_trans h1 h2
      by_cases e3 : k1 = k3
      · subst e3
        have := cmpI_anti k1 k2
        have := (cmpI_zero k1 k2).1 (by omega)
        exact absurd this e1
      · rw [if_neg e3]; exact h3
/-- Whether a value may be. -/
def valMay (k i : Int) (s : ByteArray) : Bool :=
  if k = 0 then decide (i = 0) && decide (s.size = 0) else if k = 1 then decide (s.size = 0) else if k = 2 then decide (s.size = 0) && decide (cl (u64 i) = u64 i) else if k = 3 then decide (i = 0) && decide (s.size ≤ 1024) else false
theorem size0 {s : ByteArray} (h : s.size = 0) : s = ⟨#[]⟩ := by
  cases s with | mk d => simp only [ByteArray.size] at h; rw [Array.size_eq_zero_iff.1 h]
theorem u64_inj {i j : Int} (hi : -9223372036854775808 ≤ i ∧ i < 9223372036854775808) (hj : -9223372036854775808 ≤ j ∧ j < 9223372036854775808) (h : u64 i = u64 j) : i = j := by
  unfold u64 at h
  rw [IntKind.wrap_u64, IntKind.wrap_u64] at h
  omega
theorem valCmp_zero {k1 i1 : Int} {s1 : ByteArray} {k2 i2 : Int} {s2 : ByteArray} (hi : -9223372036854775808 ≤ i1 ∧ i1 < 9223372036854775808) (hj : -9223372036854775808 ≤ i2 ∧ i2 < 9223372036854775808)
    (m1 : valMay k1 i1 s1 = true) (m2 : valMay k2 i2 s2 = true) : valCmp k1 i1 s1 k2 i2 s2 = 0 ↔ k1 = k2 ∧ i1 = i2 ∧ s1 = s2 := by
  constructor
  · intro h
    unfold valCmp at h
    by_cases e : k1 = k2
    · subst e
      rw [if_pos rfl] at h
      refine ⟨rfl, ?_⟩
      unfold valMay at m1 m2
      by_cases c0 : k1 = 0
      · rw [if_pos c0] at m1 m2
        simp only [Bool.and_eq_true, decide_eq_true_eq] at m1 m2
        exact ⟨by omega, by rw [size0 m1.2, size0 m2.2]⟩
      · rw [if_neg c0] at m1 m2
        by_cases c1 : k1 = 1
        · rw [if_pos c1] at m1 m2 h
          simp only [decide_eq_true_eq] at m1 m2
          exact ⟨(cmpI_zero _ _).1 h, by rw [size0 m1, size0 m2]⟩
        · rw [if_neg c1] at m1 m2 h
          by_cases c2 : k1 = 2
          · rw [if_pos c2] at m1 m2 h
            simp only [Bool.and_eq_true, decide_eq_true_eq] at m1 m2
            refine ⟨?_, by rw [size0 m1.1, size0 m2.1]⟩
            have := (cmpI_zero _ _).1 h
            unfold ck at this
            have := keyOf_inj (cl_U (u64_U i1)) (cl_U (u64_U i2)) this
            rw [m1.2, m2.2] at this
            exact u64_inj hi hj this
          · rw [if_neg c2] at m1 m2 h
            by_cases c3 : k1 = 3
            · rw [if_pos c3] at m1 m2 h
              simp only [Bool.and_eq_true, decide_eq_true_eq] at m1 m2
              exact ⟨by omega, (strCmp_zero _ _).1 h⟩
            · rw [if_neg c3] at m1
              cases m1
    · rw [if_neg e] at h
      exact absurd ((cmpI_zero _ _).1 h) e
  · rintro ⟨rfl, rfl, rfl⟩
    exact valCmp_self _ _ _
end Go.Proofs.Ythpoeljnmdjjiaa.Hand
end
section
/-
  By hand: an argument of any kind (numbers, bools, strings, slices, records, one within the other), laid open to the words that the printed contracts take.
-/
namespace Go.Proofs.Ythpoeljnmdjjiaa.Hand
open Go.RowKit Go.ChangeShapes Go.WideShapes Go.Proofs.YthpoeljnmdjjiaaW.PrintWords

theorem empty_beq (l : List UInt8) : (l == (⟨#[]⟩ : ByteArray).toList) = l.isEmpty := by rw [show (⟨#[]⟩ : ByteArray).toList = [] from by rw [ByteArray.toList_eq]]; cases l <;> rfl
theorem nil_beq (l : List UInt8) : (l == ([] : List UInt8)) = l.isEmpty := by cases l <;> rfl
/-- Whatever is read as a value of the type T is of the kind d, and bounded as wf says. -/
structure Opens {α : Type} (P : Program) (T : TypeId) (d : Kd α) (wf : α → Prop) : Prop where
  cells : P.cellsOf T = d.sz
  fit : ∀ {H : Type} {enc : TypeId × Value → H} {w : World} {base : Nat} {spare : Nat → Bool} {held : Bool} {fuel : Nat} {cs : List Value} {x : DataW H × List MemPlace},
    DataW.trod enc P w base spare held fuel T cs = some x → (∀ n ∈ x.1.weights P T, n ≤ reachBytes) → ∃ a, d.K w a cs ∧ wf a

theorem opens_int {P : Program} {T : TypeId} {k : IntKind} (ht : P.underlying T = some (.int k)) (hc : P.cellsOf T = 1) : Opens P T (Kd.int k) (fun a => (Lit.int k a).wf = true) where
  cells := hc
  fit := by
    intro H enc w base spare held fuel cs x h _
    obtain ⟨n, rfl, _, hw⟩ := DataW.trod_int ht h
    exact ⟨n, rfl, hw⟩
theorem opens_bool {P : Program} {T : TypeId} (ht : P.underlying T = some .bool) (hc : P.cellsOf T = 1) : Opens P T Kd.bool (fun _ => True) where
  cells := hc
  fit := by
    intro H enc w base spare held fuel cs x h _
    obtain ⟨n, rfl, _⟩ := DataW.trod_bool ht h
    exact ⟨n, rfl, trivial⟩
theorem opens_string {P : Program} {T : TypeId} (ht : P.underlying T = some .string) (hc : P.cellsOf T = 1) : Opens P T Kd.string (fun a => a.size ≤ 140737488351232) where
  cells := hc
  fit := by
    intro H enc w base spare held fuel cs x h hz
    obtain ⟨s, rfl, rfl, _⟩ := DataW.trod_string ht h
    refine ⟨s, rfl, ?_⟩
    have := hz s.data.toList.length (by simp [DataW.weights])
    rw [Array.length_toList] at this
    exact this
theorem weightsAll_mem {H : Type} {P : Program} {e : TypeId} : ∀ {l : List (DataW H)} {i : Nat} {d : DataW H}, l[i]? = some d → ∀ n ∈ d.weights P e, n ∈ DataW.weightsAll P e l
  | [], i, d, h, n, hn => by simp at h
  | d0 :: r, 0, d, h, n, hn => by
    simp only [List.getElem?_cons_zero, Option.some.injEq] at h
    subst h
    simp only [DataW.weightsAll, List.mem_append]
    exact .inl hn
  | d0 :: r, i + 1, d, h, n, hn => by
    simp only [List.getElem?_cons_succ] at h
    simp only [DataW.weightsAll, List.mem_append]
    exact .inr (weightsAll_mem h n hn)
def WfRow {α : Type} (B : Nat) (wf : α → Prop) (l : List α) : Prop := l.length ≤ maxLen ∧ l.length * B ≤ 140737488351232 ∧ ∀ x ∈ l, wf x
theorem opens_slice {α : Type} {P : Program} {T e : TypeId} {d : Kd α} {wf : α → Prop} {B : Nat} (ht : P.underlying T = some (.slice e)) (hc : P.cellsOf T = 1) (hB : P.bytesOf e = B) (ho : Opens P e d wf) : Opens P T (Kd.slice e d) (WfRow B wf) where
  cells := hc
  fit := by
    intro H enc w base spare held fuel cs x h hz
    rcases Go.Deep.open_slice ht h with ⟨rfl, rfl⟩ | ⟨a, len, cap, m, n, D, Pl, rfl, hb, hl, hm, hmm, rfl, hx⟩
    · exact ⟨[], ⟨none, 0, rfl, Nat.le_refl _, rfl, by simp, fun h => absurd h (by simp)⟩, by simp [WfRow]⟩
    · have hlm : len ≤ m := by rw [hmm]; split <;> omega
      have hz2 : (len + (m - len)) * P.bytesOf e ≤ reachBytes ∧ ∀ i, i < len → ∀ n ∈ (D i).weights P e, n ≤ reachBytes := by
        simp only [DataW.weights, ht, List.length_map, List.length_range, List.mem_cons, List.mem_append] at hz
        refine ⟨hz _ (.inl rfl), fun i hi n hn => hz n (.inr (.inl (weightsAll_mem (i := i) (d := D i) ?_ n hn)))⟩
        rw [List.getElem?_map, List.getElem?_range hi]; rfl
      obtain ⟨hz1, hz2⟩ := hz2
      have key : ∀ i, i < len → ∃ y cs', d.K w y cs' ∧ wf y ∧ ∀ j u, cs'[j]? = some u → w.cell? (a.add (i * d.sz + j)) = some u := by
        intro i hi
        obtain ⟨cs', hcs, htr⟩ := hx i (by omega)
        obtain ⟨y, hK, hwf⟩ := ho.fit htr (hz2 i hi)
        obtain ⟨_, hlen, hat⟩ := World.cells?_some hcs
        refine ⟨y, cs', hK, hwf, fun j u hu => ?_⟩
        have hj : j < cs'.length := (List.getElem?_eq_some_iff.1 hu).1
        have := hat j (by omega)
        rw [← ho.cells, ← Go.Deep.add_add, this, hu]
      have hlist : ∃ l : List α, l.length = len ∧ ∀ i y, l[i]? = some y → wf y ∧ ∃ cs', d.K w y cs' ∧ ∀ j u, cs'[j]? = some u → w.cell? (a.add (i * d.sz + j)) = some u := by
        clear hz1 hz2 hx hz hl hlm h hmm
        induction len with
        | zero => exact ⟨[], rfl, fun i y h => by simp at h⟩
        | succ n ih =>
          obtain ⟨l, hl, hp⟩ := ih (fun i hi => key i (by omega))
          obtain ⟨y, cs', hK, hwf, hc⟩ := key n (by omega)
          refine ⟨l ++ [y], by simp [hl], fun i z hz => ?_⟩
          rcases Nat.lt_or_ge i l.length with hi | hi
          · rw [List.getElem?_append_left hi] at hz
            exact hp i z hz
          · have hi' : i = n := by
              have := (List.getElem?_eq_some_iff.1 hz).1
              rw [List.length_append, List.length_singleton] at this
              omega
            subst hi'
            rw [List.getElem?_append_right hi, hl] at hz
            simp at hz
            subst hz
            exact ⟨hwf, cs', hK, hc⟩
      obtain ⟨l, hll, hp⟩ := hlist
      subst hll
      have hmx : l.length ≤ maxLen := by omega
      refine ⟨l, ⟨some a, cap, rfl, hl, rfl, by unfold maxLen at hmx; omega, fun _ => ⟨a, rfl, fun j p hj => ?_⟩⟩, hmx, ?_, fun y hy => ?_⟩
      · obtain ⟨_, cs', hK, hc⟩ := hp j p hj
        exact ⟨cs', d.K_len hK, hK, hc⟩
      · rw [← hB]
        refine Nat.le_trans (Nat.mul_le_mul_right _ ?_) hz1
        omega
      · obtain ⟨i, hi, rfl⟩ := List.getElem_of_mem hy
        exact (hp i _ (List.getElem?_eq_getElem hi)).1

/-- Fields in line, from a place on. -/
def OpensF {α : Type} (P : Program) (fs : List Field) (off : Nat) (d : Kd α) (wf : α → Prop) : Prop :=
  ∀ {H : Type} {enc : TypeId × Value → H} {w : World} {base : Nat} {spare : Nat → Bool} {held : Bool} {fuel : Nat} {cs : List Value} {ys : List (DataW H × List MemPlace)},
    ys.length = fs.length → off + d.sz ≤ cs.length → (∀ (i : Nat) (f : Field), fs[i]? = some f → DataW.trod enc P w base spare held fuel f.type ((cs.drop f.offset).take (P.cellsOf f.type)) = ys[i]?) →
    (∀ n ∈ DataW.weightsEach P (fs.map (·.type)) (ys.map (·.1)), n ≤ reachBytes) → ∃ a, d.K w a ((cs.drop off).take d.sz) ∧ wf a
theorem opensF_one {α : Type} {P : Program} {f : Field} {d : Kd α} {wf : α → Prop} (ho : Opens P f.type d wf) : OpensF P [f] f.offset d wf := by
  intro H enc w base spare held fuel cs ys hl _ hat hz
  have h := hat 0 f rfl
  obtain ⟨y, rfl⟩ : ∃ y, ys = [y] := List.length_eq_one_iff.1 hl
  rw [ho.cells] at h
  exact ho.fit h (fun n hn => hz n (by simpa [DataW.weightsEach] using hn))
theorem opensF_cons {α β : Type} {P : Program} {f : Field} {fs : List Field} {d : Kd α} {d2 : Kd β} {wf : α → Prop} {wf2 : β → Prop} {off2 : Nat} (ho : Opens P f.type d wf) (h2 : OpensF P fs off2 d2 wf2) (hoff : off2 = f.offset + d.sz) :
    OpensF P (f :: fs) f.offset (Kd.pair d d2) (fun x => wf x.1 ∧ wf2 x.2) := by
  intro H enc w base spare held fuel cs ys hl hlen hat hz
  obtain ⟨y, ys, rfl⟩ : ∃ y r, ys = y :: r := by
    cases ys with
    | nil => simp at hl
    | cons y r => exact ⟨y, r, rfl⟩
  have h := hat 0 f rfl
  rw [ho.cells] at h
  have hsz : (Kd.pair d d2).sz = d.sz + d2.sz := rfl
  rw [hsz] at hlen ⊢
  obtain ⟨a, hK, hw⟩ := ho.fit h (fun n hn => hz n (by
    simp only [List.map_cons, DataW.weightsEach, List.mem_append]
    exact .inl hn))
  obtain ⟨b, hK2, hw2⟩ := h2 (ys := ys) (cs := cs) (by simpa using hl) (by omega) (fun i g hg => hat (i + 1) g (by simpa using hg)) (fun n hn => hz n (by
    simp only [List.map_cons, DataW.weightsEach, List.mem_append]
    exact .inr hn))
  refine ⟨(a, b), ⟨_, _, ?_, hK, hK2⟩, hw, hw2⟩
  rw [hoff, List.take_add, List.drop_drop]
theorem opens_struct {α : Type} {P : Program} {T : TypeId} {fs : Array Field} {d : Kd α} {wf : α → Prop} (ht : P.underlying T = some (.struct fs)) (hc : P.cellsOf T = d.sz) (h : OpensF P fs.toList 0 d wf) : Opens P T d wf where
  cells := hc
  fit := by
    intro H enc w base spare held fuel cs x hx hz
    obtain ⟨xs, n, rfl, rfl, hlen, hsz, hat⟩ := DataW.trod_struct ht hx
    obtain ⟨a, hK, hw⟩ := h (cs := cs) (ys := xs) (by simpa using hsz) (by omega) (fun i f hf => hat i f (by simpa using hf)) (fun n hn => hz n (by
      simp only [DataW.weights, ht]
      exact hn))
    rw [List.drop_zero, ← hc, ← hlen, List.take_length] at hK
    exact ⟨a, hK, hw⟩
theorem opens_iso {α β : Type} {P : Program} {T : TypeId} {d : Kd α} {wf : α → Prop} (f : β → α) (g : α → β) (hfg : ∀ a, f (g a) = a) (h : Opens P T d wf) : Opens P T (Kd.iso d f) (fun b => wf (f b)) where
  cells := h.cells
  fit := by
    intro H enc w base spare held fuel cs x hx hz
    obtain ⟨a, hK, hw⟩ := h.fit hx hz
    exact ⟨g a, by show d.K w (f (g a)) cs; rw [hfg]; exact hK, by show wf (f (g a)); rw [hfg]; exact hw⟩
theorem opens_wf {α : Type} {P : Program} {T : TypeId} {d : Kd α} {wf wf' : α → Prop} (h : Opens P T d wf) (hw : ∀ a, wf a → wf' a) : Opens P T d wf' where
  cells := h.cells
  fit := by
    intro H enc w base spare held fuel cs x hx hz
    obtain ⟨a, hK, h2⟩ := h.fit hx hz
    exact ⟨a, hK, hw a h2⟩

/-- An argument: by its place among the parameters. -/
theorem open_arg {α : Type} {H : Type} {enc : TypeId × Value → H} {P : Program} {W : World} {base : Nat} {spare : Nat → Bool} {held : Bool} {T : TypeId} {d : Kd α} {wf : α → Prop} {v : Value} {dd : DataW H} {ps : List MemPlace} {ts : List TypeId} {ds : List (DataW H)} {j : Nat}
    (ho : Opens P T d wf) (hsz : (DataW.weightsEach P ts ds).all (· ≤ reachBytes) = true) (ht : ts[j]? = some T) (hd : ds[j]? = some dd) (h : DataW.Trod enc P W base spare held T v dd ps) : ∃ a, d.K W a v.cells.toList ∧ wf a := by
  obtain ⟨fuel, hf⟩ := h
  exact ho.fit hf (fun n hn => by
    have := List.all_eq_true.1 hsz n (DataW.weights_mem_each ht hd n hn)
    simpa using this)
theorem open_arg_slice {α : Type} {H : Type} {enc : TypeId × Value → H} {P : Program} {W : World} {base b0 : Nat} {r : Reach} {spare : Nat → Bool} {held : Bool} {T e : TypeId} {d : Kd α} {wf : List α → Prop} {v : Value} {dd : DataW H} {ps : List MemPlace} {ts : List TypeId} {ds : List (DataW H)} {j : Nat}
    (hu : P.underlying T = some (.slice e)) (hv : Value.okWide P W r b0 T v) (ho : Opens P T (Kd.slice e d) wf) (hsz : (DataW.weightsEach P ts ds).all (· ≤ reachBytes) = true) (ht : ts[j]? = some T) (hd : ds[j]? = some dd) (h : DataW.Trod enc P W base spare held T v dd ps) :
    ∃ (A : Option Addr) (c : Nat) (l : List α), v = .slice A l.length c ∧ l.length ≤ c ∧ d.C W A l.length l ∧ wf l := by
  obtain ⟨a, len, cap, rfl⟩ := okWide_slice hu hv
  obtain ⟨l, ⟨A, c, he, hl, hC⟩, hw⟩ := open_arg ho hsz ht hd h
  simp [Value.cells] at he
  obtain ⟨rfl, rfl, rfl⟩ := he
  exact ⟨_, _, l, rfl, hl, hC, hw⟩
theorem open_arg_struct {α : Type} {H : Type} {enc : TypeId × Value → H} {P : Program} {W : World} {base b0 : Nat} {r : Reach} {spare : Nat → Bool} {held : Bool} {T : TypeId} {fs : Array Field} {d : Kd α} {wf : α → Prop} {v : Value} {dd : DataW H} {ps : List MemPlace} {ts : List TypeId} {ds : List (DataW H)} {j : Nat}
    (hu : P.underlying T = some (.struct fs)) (hv : Value.okWide P W r b0 T v) (ho : Opens P T d wf) (hsz : (DataW.weightsEach P ts ds).all (· ≤ reachBytes) = true) (ht : ts[j]? = some T) (hd : ds[j]? = some dd) (h : DataW.Trod enc P W base spare held T v dd ps) :
    ∃ (a : α) (cs : List Value), v = .agg ⟨cs⟩ ∧ d.K W a cs ∧ wf a := by
  obtain ⟨cs, rfl, _⟩ := okWide_struct hu hv
  obtain ⟨a, hK, hw⟩ := open_arg ho hsz ht hd h
  exact ⟨a, cs.toList, by simp, hK, hw⟩
end Go.Proofs.Ythpoeljnmdjjiaa.Hand
end
section
/-
  By hand: a string made of a row that is shared (told by its value alone).
-/
namespace Go.Proofs.Ythpoeljnmdjjiaa.Hand
open Go.RowKit Go.Proofs.YthpoeljnmdjjiaaW.PrintWords Go.Proofs.YthpoeljnmdjjiaaW.PrintMore

theorem V_string {P : Program} {W : World} {src dst e e' : TypeId} {base : Nat} {ok : Nat → Prop} {v : Value} {xs : List Int} (hs : P.underlying src = some (.slice e)) (he : P.underlying e = some (.int .u8)) (hd : P.underlying dst = some .string)
    (h : Kd.V (Kd.int .u8) e' W base ok v xs) : (convert src dst v).run P W = .ok (.string (strOfNums xs)) W := by
  obtain ⟨A, c, rfl⟩ := Kd.V_slice h
  exact Kd.C_string hs he hd (Kd.V_reads' h).2.2
end Go.Proofs.Ythpoeljnmdjjiaa.Hand
end
