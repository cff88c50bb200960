/-
  Plain lemmas for the statements on floats' bits: cleaned bits, keys, the order.
-/
import Derived.Test.YtageilidppcphaaPFltx3
import Derived.Test.YtageilidppcphaaPFltx8
namespace Go.Proofs.Ytageilidppcphaa.Pure
open Go.RowKit Go.Proofs.Ytageilidppcphaa.PFlt Go.Proofs.YtageilidppcphaaW.PrintWords Go.Proofs.YtageilidppcphaaW.PrintLast
open Go.Proofs.Ytageilidppcphaa.Hand (fltClean fltKey fltBits fltWhole)

def U (a : Int) : Prop := 0 ≤ a ∧ a < 18446744073709551616
/-- The bits, cleaned. -/
def cl (a : Int) : Int := if a % 9223372036854775808 > 9218868437227405312 then 9221120237041090560 else a
def ck (a : Int) : Int := Hand.keyOf (cl a)
def cmp (x y : Int) : Int := if x < y then -1 else if x > y then 1 else 0
theorem wf_u64 {x : Int} (h : (Lit.int .u64 x).wf = true) : U x := by
  have h2 : 0 ≤ x ∧ x ≤ 18446744073709551615 := by simpa [Lit.wf, IntKind.min, IntKind.max, IntKind.signed, IntKind.bits] using h
  exact ⟨h2.1, by omega⟩
theorem clean_f {a : Int} (h : U a) : flt_Clean.f a = some (cl a) := by unfold flt_Clean.f fltClean; exact if_pos h
theorem key_f {a : Int} (h : U a) : flt_Key.f a = some (ck a) := by
  have h2 := clean_f h
  unfold flt_Clean.f at h2
  unfold flt_Key.f fltKey
  rw [h2]; rfl
theorem cl_U {a : Int} (h : U a) : U (cl a) := by obtain ⟨h1, h2⟩ := h; unfold cl U; split <;> omega
theorem ck_U {a : Int} (h : U a) : U (ck a) := by
  obtain ⟨h1, h2⟩ := cl_U h
  unfold ck Hand.keyOf U; split <;> omega
theorem bits_f {k : Int} (h : U k) : flt_Bits.f k = some (if k ≥ 9223372036854775808 then cl (k - 9223372036854775808) else cl (18446744073709551615 - k)) := by
  unfold flt_Bits.f fltBits
  rw [if_pos (show 0 ≤ k ∧ k < 18446744073709551616 from h)]
  obtain ⟨h1, h2⟩ := h
  split
  · exact clean_f ⟨by omega, by omega⟩
  · exact clean_f ⟨by omega, by omega⟩
theorem compare_f {a b : Int} (ha : U a) (hb : U b) : flt_Compare.f a b = some (cmp (ck a) (ck b)) := by
  unfold flt_Compare.f
  rw [key_f ha, key_f hb]
  simp only [Option.bind_some, cmp]
  split
  · rfl
  · split <;> rfl
theorem shown_true : astragallaw04_shown.f = some true := by decide +kernel
end Go.Proofs.Ytageilidppcphaa.Pure
