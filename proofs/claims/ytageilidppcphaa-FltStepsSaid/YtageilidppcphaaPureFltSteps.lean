/-
  Of clean bits of a number not below 0 the next bits up are the next number; turned in sign numbers are in the order turned round: for every input. (FltSteps)
-/
import Derived.Test.YtageilidppcphaaPFltA
import Derived.Test.YtageilidppcphaaPFltx6
namespace Go.Proofs.Ytageilidppcphaa.Pure
open Go.RowKit Go.Proofs.Ytageilidppcphaa.PFlt Go.Proofs.YtageilidppcphaaW.PrintWords Go.Proofs.YtageilidppcphaaW.PrintLast

theorem ck_pos {a : Int} (h : a % 9223372036854775808 ≤ 9218868437227405312) (h2 : a < 9223372036854775808) : ck a = a + 9223372036854775808 := by
  have e : cl a = a := by unfold cl; rw [if_neg (by omega)]
  unfold ck Hand.keyOf
  rw [e, if_neg (by omega)]
theorem ck_neg {a : Int} (h : a % 9223372036854775808 ≤ 9218868437227405312) (h2 : 9223372036854775808 ≤ a) : ck a = 18446744073709551615 - a := by
  have e : cl a = a := by unfold cl; rw [if_neg (by omega)]
  unfold ck Hand.keyOf
  rw [e, if_pos (by omega)]

theorem FltSteps : astragallaw04_FltSteps.Pure := by
  intro a b ha hb
  obtain ⟨a1, a2⟩ := wf_u64 ha
  obtain ⟨b1, b2⟩ := wf_u64 hb
  unfold astragallaw04_FltSteps.f
  rw [shown_true, Int.tmod_eq_emod_of_nonneg a1, Int.tmod_eq_emod_of_nonneg b1]
  have ha3 : 0 ≤ a % 9218868437227405312 ∧ a % 9218868437227405312 < 9218868437227405312 := by omega
  have hb3 : 0 ≤ b % 9218868437227405312 ∧ b % 9218868437227405312 < 9218868437227405312 := by omega
  generalize a % 9218868437227405312 = x at *
  generalize b % 9218868437227405312 = y at *
  obtain ⟨x1, x2⟩ := ha3
  obtain ⟨y1, y2⟩ := hb3
  simp only [IntKind.wrap_u64]
  have e1 : (x + 1) % 18446744073709551616 = x + 1 := by omega
  have e2 : (9223372036854775808 + x) % 18446744073709551616 = 9223372036854775808 + x := by omega
  have e3 : (9223372036854775808 + y) % 18446744073709551616 = 9223372036854775808 + y := by omega
  rw [e1, e2, e3]
  have kx : ck x = 9223372036854775808 + x := by rw [ck_pos (by omega) (by omega)]; omega
  have ky : ck y = 9223372036854775808 + y := by rw [ck_pos (by omega) (by omega)]; omega
  have kx1 : ck (x + 1) = 9223372036854775808 + (x + 1) := by rw [ck_pos (by omega) (by omega)]; omega
  have kmx : ck (9223372036854775808 + x) = 9223372036854775807 - x := by rw [ck_neg (by omega) (by omega)]; omega
  have kmy : ck (9223372036854775808 + y) = 9223372036854775807 - y := by rw [ck_neg (by omega) (by omega)]; omega
  rw [compare_f (a := x) (b := x + 1) ⟨by omega, by omega⟩ ⟨by omega, by omega⟩, compare_f (a := x) (b := y) ⟨by omega, by omega⟩ ⟨by omega, by omega⟩,
    compare_f (a := 9223372036854775808 + y) (b := 9223372036854775808 + x) ⟨by omega, by omega⟩ ⟨by omega, by omega⟩, compare_f (a := 9223372036854775808 + x) (b := y) ⟨by omega, by omega⟩ ⟨by omega, by omega⟩]
  rw [kx, ky, kx1, kmx, kmy]
  have c1 : cmp (9223372036854775808 + x) (9223372036854775808 + (x + 1)) = -1 := by unfold cmp; rw [if_pos (by omega)]
  have c2 : cmp (9223372036854775808 + x) (9223372036854775808 + y) = cmp (9223372036854775807 - y) (9223372036854775807 - x) := by unfold cmp; split <;> split <;> (try split) <;> (try split) <;> omega
  have c3 : cmp (9223372036854775807 - x) (9223372036854775808 + y) = -1 := by unfold cmp; rw [if_pos (by omega)]
  rw [c1, c2, c3]
  simp
end Go.Proofs.Ytageilidppcphaa.Pure
