/-
  Sorting, by hand: math/bits.Len of small numbers.
-/
import Derived.Test.YthpoeljnmdjjiaaSvI
import Derived.Laws.MathBits
import Derived.Outline
namespace Go.Proofs.Ythpoeljnmdjjiaa.PSrn
open Go.RowKit Go.Proofs.Ythpoeljnmdjjiaa.Hand Go.Proofs.Ythpoeljnmdjjiaa.Srt Go.Proofs.YthpoeljnmdjjiaaW.PrintWords Go.Proofs.YthpoeljnmdjjiaaW.PrintLast Go.Proofs.YthpoeljnmdjjiaaW.PrintMore
set_option linter.unusedVariables false
set_option linter.unusedSimpArgs false

theorem len_key (u : UInt8) : ∃ r : Nat, wrap64 (wrap64 (u.toNat : Int)) = (r : Int) ∧ r ≤ 1000 := by
  have := u.toNat_lt
  exact ⟨u.toNat, by unfold wrap64; omega, by omega⟩
theorem len_key8 (u : UInt8) : ∃ r : Nat, wrap64 (8 + wrap64 (u.toNat : Int)) = (r : Int) ∧ r ≤ 1000 := by
  have := u.toNat_lt
  exact ⟨8 + u.toNat, by unfold wrap64; omega, by omega⟩
set_option maxHeartbeats 4000000 in
set_option maxRecDepth 1000000 in
theorem len64_calls (n : Nat) (h : n < 65536) (w : World) :
    Calls Try.prog 72 #[.int .u64 n] w fun e w' => ∃ r : Nat, e = .returned (.int .i64 r) ∧ r ≤ 1000 ∧ w' = w := by
  have q1 : decide ((n : Int) ≥ 4294967296) = false := decide_eq_false (by omega)
  have q2 : decide ((n : Int) ≥ 65536) = false := decide_eq_false (by omega)
  by_cases h3 : n < 256
  · have q3 : decide ((n : Int) ≥ 256) = false := decide_eq_false (by omega)
    go_enter Try.func72, Try.ntmps72
    go_wp2
    go_ret
    exact (len_key _).elim fun r hr => ⟨r, congrArg (fun x => Ending.returned (.int .i64 x)) hr.1, hr.2, rfl⟩
  · have q3 : decide ((n : Int) ≥ 256) = true := decide_eq_true (by omega)
    obtain ⟨m, hm⟩ : ∃ m : Nat, (n : Int) / 256 = (m : Int) := ⟨n / 256, by omega⟩
    have hm2 : m < 256 := by omega
    go_enter Try.func72, Try.ntmps72
    go_wp2
    go_ret
    exact (len_key8 _).elim fun r hr => ⟨r, congrArg (fun x => Ending.returned (.int .i64 x)) hr.1, hr.2, rfl⟩
set_option maxRecDepth 100000 in
theorem len_calls (n : Nat) (h : n < 65536) (w : World) :
    Calls Try.prog 47 #[.int .u64 n] w fun e w' => ∃ r : Nat, e = .returned (.int .i64 r) ∧ r ≤ 1000 ∧ w' = w := by
  have HC := Aside0.mk (len64_calls n h w)
  go_enter Try.func47, Try.ntmps47
  go_wp2_with (go_at_call 72; refine HC.out.mono ?_; rintro e w4 ⟨r, rfl, hr, rfl⟩; have HR := Aside0.mk hr; clear hr)
  go_ret
  exact ⟨r, rfl, HR.out, rfl⟩

set_option maxHeartbeats 1000000 in
set_option maxRecDepth 100000 in
/-- A sort of 12 or fewer is an insertion sort. -/
theorem pdq_small (R : World → Prop) (dv fv : Value) (n : Nat) (hn : n ≤ 12) (lim : Int) (w : World)
    (h : Calls Try.prog 59 #[dv, .int .i64 0, .int .i64 n, fv] w fun e w' => e = .returned (.tuple #[]) ∧ R w') :
    Calls Try.prog 46 #[dv, .int .i64 0, .int .i64 n, .int .i64 lim, fv] w fun e w' => e = .returned (.tuple #[]) ∧ R w' := by
  have HC := Aside0.mk h
  have q1 : decide ((n : Int) ≤ 12) = true := decide_eq_true (by omega)
  have q2 : decide (n ≤ 12) = true := decide_eq_true (by omega)
  clear h
  go_enter Try.func46, Try.ntmps46
  go_wp2
  go_loopw [1, 2, 3, 10, 11] (fun v1 v2 v3 v10 v11 wr => v1 = .int .i64 0 ∧ v2 = .int .i64 n ∧ v3 = .int .i64 lim ∧ v10 = .bool true ∧ v11 = .bool true ∧ Aside0 (wr = w)) (fun _ _ _ _ _ _ => 0)
  case atStart => exact ⟨rfl, rfl, rfl, rfl, rfl, ⟨rfl⟩⟩
  case round =>
    obtain ⟨rfl, rfl, rfl, rfl, rfl, HW⟩ := hrel
    rw [HW.out]
    clear HW
    go_wp2_with (go_at_call 59; refine HC.out.mono ?_; rintro e w4 ⟨rfl, hr⟩; have HR := Aside0.mk hr; clear hr)
    refine bodyPost_ret (results_none rfl _ _ _) rfl ?_
    exact ⟨rfl, HR.out⟩
set_option maxRecDepth 100000 in
theorem sortFunc_of (R : World → Prop) (A : Option Addr) (n c : Nat) (fv : Value) (hn : n < 65536) (w : World)
    (h : ∀ lim : Nat, lim ≤ 1000 → Calls Try.prog 46 #[.slice A n c, .int .i64 0, .int .i64 n, .int .i64 lim, fv] w fun e w' => e = .returned (.tuple #[]) ∧ R w') :
    Calls Try.prog 30 #[.slice A n c, fv] w fun e w' => e = .returned (.tuple #[]) ∧ R w' := by
  have HC := Aside0.mk h
  have HL := Aside0.mk (len_calls n hn w)
  clear h
  go_enter Try.func30, Try.ntmps30
  go_wp2_with (first
    | (go_at_call 47; refine HL.out.mono ?_; rintro e w4 ⟨r, rfl, hr, rfl⟩; have HR := Aside0.mk hr; clear hr)
    | (go_at_call 46; refine (HC.out r HR.out).mono ?_; rintro e w5 ⟨rfl, hr5⟩; have HR5 := Aside0.mk hr5; clear hr5))
  go_end0
  exact ⟨rfl, HR5.out⟩
end Go.Proofs.Ythpoeljnmdjjiaa.PSrn
