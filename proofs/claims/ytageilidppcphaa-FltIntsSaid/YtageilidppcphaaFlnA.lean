/-
  Plain lemmas for the statements on numbers: cleaned bits, keys, the order, NaNs.
-/
import Derived.Test.YtageilidppcphaaPFlnx2
import Derived.Test.YtageilidppcphaaPFlnx3
import Derived.Test.YtageilidppcphaaPFlnx4
import Derived.Test.YtageilidppcphaaFltC
namespace Go.Proofs.Ytageilidppcphaa.Pure
open Go.RowKit Go.Proofs.Ytageilidppcphaa.PFln Go.Proofs.YtageilidppcphaaW.PrintWords Go.Proofs.YtageilidppcphaaW.PrintLast
open Go.Proofs.Ytageilidppcphaa.Hand (fltClean fltKey fltBits fltWhole)

def U (a : Int) : Prop := 0 ≤ a ∧ a < 18446744073709551616
/-- The bits, cleaned. -/
def cl (a : Int) : Int := if a % 9223372036854775808 > 9218868437227405312 then 9221120237041090560 else a
def ck (a : Int) : Int := Hand.keyOf (cl a)
def cmp (x y : Int) : Int := if x < y then -1 else if x > y then 1 else 0
theorem wf_u64 {x : Int} (h : (Lit.int .u64 x).wf = true) : U x := by
  have h2 : 0 ≤ x ∧ x ≤ 18446744073709551615 := by simpa [Lit.wf, IntKind.min, IntKind.max, IntKind.signed, IntKind.bits] using h
  exact ⟨h2.1, by omega⟩
theorem clean_f {a : Int} (h : U a) : flt_Clean.f a = some (cl a) := by unfold flt_Clean.f fltClean; exact if_pos h
theorem key_f {a : Int} (h : U a) : flt_Key.f a = some (ck a) := by
  have h2 := clean_f h
  unfold flt_Clean.f at h2
  unfold flt_Key.f fltKey
  rw [h2]; rfl
theorem cl_U {a : Int} (h : U a) : U (cl a) := by obtain ⟨h1, h2⟩ := h; unfold cl U; split <;> omega
theorem ck_U {a : Int} (h : U a) : U (ck a) := by
  obtain ⟨h1, h2⟩ := cl_U h
  unfold ck Hand.keyOf U; split <;> omega
theorem compare_f {a b : Int} (ha : U a) (hb : U b) : flt_Compare.f a b = some (cmp (ck a) (ck b)) := by
  unfold flt_Compare.f
  rw [key_f ha, key_f hb]
  simp only [Option.bind_some, cmp]
  split
  · rfl
  · split <;> rfl
theorem shown_true : law04_shown.f = some true := by decide +kernel
theorem parts_f {a : Int} (h : U a) : ref04_Parts.f a = some (decide (a ≥ 9223372036854775808), a / 4503599627370496 % 2048, a % 4503599627370496) := by
  obtain ⟨h1, h2⟩ := h
  unfold ref04_Parts.f
  rw [Int.tdiv_eq_ediv_of_nonneg h1, IntKind.wrap_u64, Int.tmod_eq_emod_of_nonneg (by omega), Int.tmod_eq_emod_of_nonneg h1]
  congr 3
  omega
theorem isnan_f {a : Int} (h : U a) : ref04_IsNan.f a = some (decide (a % 9223372036854775808 > 9218868437227405312)) := by
  unfold ref04_IsNan.f
  rw [parts_f h]
  simp only [Option.bind_some]
  obtain ⟨h1, h2⟩ := h
  split
  · congr 1
    rw [Bool.eq_iff_iff, bne_iff_ne, decide_eq_true_iff]
    omega
  · congr 1
    symm
    rw [decide_eq_false_iff_not]
    omega

open Go.Proofs.Ytageilidppcphaa.FltC in
theorem ck_key (n : Nat) (hn : n < 18446744073709551616) (h : n % 9223372036854775808 ≤ 9218868437227405312) : ck (n : Int) = (FltC.key n : Nat) := by
  have hc : cl (n : Int) = n := by unfold cl; rw [if_neg (by omega)]
  unfold ck Hand.keyOf FltC.key
  rw [hc]
  by_cases h1 : 9223372036854775808 ≤ n
  · rw [if_pos (by omega), if_pos h1]; omega
  · rw [if_neg (by omega), if_neg h1]; omega
theorem cmp_neg (x y : Int) : decide (cmp x y < 0) = decide (x < y) := by
  unfold cmp
  split
  · simp_all
  · split <;> simp_all
/-- Of words whose values differ (and neither is a nought below 0) the comparison is that of the values. -/
theorem compare_sv (u v : Nat) (hu : u < 18446744073709551616) (hv : v < 18446744073709551616) (hu2 : u % 9223372036854775808 ≤ 9218868437227405312) (hv2 : v % 9223372036854775808 ≤ 9218868437227405312)
    (hne : FltC.sv u ≠ FltC.sv v) : flt_Compare.f (u : Int) (v : Int) = some (if FltC.sv u < FltC.sv v then -1 else 1) := by
  rw [compare_f ⟨by omega, by omega⟩ ⟨by omega, by omega⟩, ck_key u hu hu2, ck_key v hv hv2]
  have h0 : u % 9223372036854775808 ≠ 0 ∨ v % 9223372036854775808 ≠ 0 := by
    apply Classical.byContradiction
    intro hc
    have h1 : u % 9223372036854775808 = 0 := Classical.byContradiction fun h => hc (.inl h)
    have h2 : v % 9223372036854775808 = 0 := Classical.byContradiction fun h => hc (.inr h)
    apply hne
    unfold FltC.sv
    rw [h1, h2]
    split <;> split <;> rfl
  have k1 := FltC.key_sv u v hu hv h0
  have k2 := FltC.key_sv v u hv hu h0.symm
  unfold cmp
  congr 1
  by_cases h : FltC.sv u < FltC.sv v
  · rw [if_pos h, if_pos (by have := k1.1 h; omega)]
  · have : FltC.sv v < FltC.sv u := by omega
    have h2 := k2.1 this
    rw [if_neg h, if_neg (by omega), if_pos (by omega)]
end Go.Proofs.Ytageilidppcphaa.Pure
