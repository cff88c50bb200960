-- Written by this session's program wip/gprint/uplaw.py, over its own print; no text of print.sh's.
import Derived.Test.YthooijfdlamkkaaRows
import Derived.Test.YthooijfdlamkkaaPVrox10
import Derived.Test.YthooijfdlamkkaaUValRows
import Derived.Test.YthooijfdlamkkaaPureValRowsUpto
import Derived.JoinedCond
import Derived.Deep.CondSized
import Derived.WalkKit
import Derived.ProofKit
import Derived.OpenShut
import Derived.ShutString
import Derived.ChangeOld
import Derived.Below
import Derived.SizedLaws
import Derived.ChangeArms
import Derived.Carry
import Derived.Test.YthooijfdlamkkaaWSized
namespace Go.Proofs.Ythooijfdlamkkaa.valRowsUpto
open Go.ChangeShapes Go.WideShapes Go.ChangeAt Go.RowKit
open Go.ChangeMaps (open_string shut_string)
set_option linter.unusedVariables false
theorem own : ownKnob Try.prog.godebug = none := by kernel_rfl
theorem laidOut : laidOutB Try.prog = true := by kernel_rfl
def IsRow (k : IntKind) (w : World) (a : Option Addr) (len cap : Nat) (zs : List Int) : Prop :=
  (a = none ∧ len = 0 ∧ cap = 0 ∧ zs = []) ∨
  ∃ x, a = some x ∧ len ≤ cap ∧ cap ≤ maxLen ∧ zs.length = cap ∧ (∀ i, i < zs.length → w.cell? (x.add i) = some (.int k (zs.getD i 0))) ∧ ∀ n ∈ zs, (Lit.int k n).wf = true
set_option maxRecDepth 100000 in
theorem lifted (os : Os) (started : os.Started) (H : Type) (enc : TypeId × Value → H) (F : Stop.Interp) :
    ReturnsInHanded {} Try.checked os 5 .any ((Rows.OpenSpec.upto Rows.valRowsSpec).pre6 enc Try.prog Try.f5 Rows.valRowsUptoRow.domain false) (((Rows.OpenSpec.upto Rows.valRowsSpec).at F).post enc Try.prog Try.f5 false true false false) := by
  refine returnsInHanded_of_cond_sized (C := Try.checked) (s := Rows.OpenSpec.upto Rows.valRowsSpec) (k := Rows.uptoSmall) rfl own started (by kernel_rfl) Try.func5
    (OpenSpec.witness (enc := enc) (C := Try.checked) (s := Rows.OpenSpec.upto Rows.valRowsSpec) (k := Rows.uptoSmall) rfl false ⟨#[], #[.slice none 0 0, .slice none 0 0, (.agg #[(.int .i64 0), (.int .i64 0), (.string ⟨#[]⟩)]), (.agg #[(.int .i64 0), (.int .i64 0), (.string ⟨#[]⟩)])], []⟩ 8 (by kernel_rfl) (by kernel_rfl) (by kernel_rfl)
      (x := ([.nil, .nil, (.agg [(.lit (.int .i64 0)), (.lit (.int .i64 0)), (.lit (.string []))]), (.agg [(.lit (.int .i64 0)), (.lit (.int .i64 0)), (.lit (.string []))])], [], [])) (by kernel_rfl) rfl (by kernel_rfl)) ?_
  intro W base args ds gs before hval0 hW hcnd hk hsz0 _
  have hsm := Hand.small_at hk
  have hsz : (DataW.weightsEach Try.prog (Try.f5.params.toList ++ Rows.valRowsSpec.plain.varTypes Try.prog) (ds ++ gs)).all (· ≤ reachBytes) = true := hsz0
  have hval : ∀ (j : Nat) t v, Try.f5.params[j]? = some t → args[j]? = some v → Value.okWide Try.prog W .any base t v := hval0
  have hW' := hW
  obtain ⟨p, q, hA0, hV, rfl, hfz, hnd⟩ := hW
  have hA : DataW.TrodAll enc Try.prog W 0 (fun _ => true) true Try.f5.params.toList args.toList ds p := hA0
  rw [Try.params5] at hA hval hsz
  obtain ⟨v0, vs0, d0, ds0, p0, q0, hargs, rfl, rfl, h0, r0⟩ := trodAll_cons hA
  obtain ⟨v1, vs1, d1, ds1, p1, q1, rfl, rfl, rfl, h1, r1⟩ := trodAll_cons r0
  obtain ⟨v2, vs2, d2, ds2, p2, q2, rfl, rfl, rfl, h2, r2⟩ := trodAll_cons r1
  obtain ⟨v3, vs3, d3, ds3, p3, q3, rfl, rfl, rfl, h3, r3⟩ := trodAll_cons r2
  obtain ⟨rfl, rfl, rfl⟩ := trodAll_nil r3
  obtain rfl : args = #[v0, v1, v2, v3] := by cases args; simp_all
  obtain ⟨rfl, rfl⟩ := trodVars_none hV
  have k0 := h0
  have lt0 : ∀ x ∈ p0, x.block < W.heap.size := by obtain ⟨m, hm⟩ := k0; exact DataW.trod_lt m _ _ _ hm
  obtain ⟨A0, c0, l0, rfl, hl0, hC0, w0, b0⟩ := Hand.open_arg_sliceM (j := 0) Try.underlying33 (hval 0 33 v0 rfl rfl) (Hand.opensM_slice Try.underlying33 (by kernel_rfl) (by kernel_rfl) (Hand.opensM_of (PVro.opS23))) hsz rfl rfl h0 (hsm 0 _ rfl)
  have k1 := h1
  have lt1 : ∀ x ∈ p1, x.block < W.heap.size := by obtain ⟨m, hm⟩ := k1; exact DataW.trod_lt m _ _ _ hm
  obtain ⟨A1, c1, l1, rfl, hl1, hC1, w1, b1⟩ := Hand.open_arg_sliceM (j := 1) Try.underlying33 (hval 1 33 v1 rfl rfl) (Hand.opensM_slice Try.underlying33 (by kernel_rfl) (by kernel_rfl) (Hand.opensM_of (PVro.opS23))) hsz rfl rfl h1 (hsm 1 _ rfl)
  have k2 := h2
  have lt2 : ∀ x ∈ p2, x.block < W.heap.size := by obtain ⟨m, hm⟩ := k2; exact DataW.trod_lt m _ _ _ hm
  obtain ⟨s2, cs2, rfl, hK2, w2⟩ := Hand.open_arg_struct (j := 2) Try.underlying23 (hval 2 23 v2 rfl rfl) PVro.opS23 hsz rfl rfl h2
  obtain rfl := PVro.k23_open hK2
  have k3 := h3
  have lt3 : ∀ x ∈ p3, x.block < W.heap.size := by obtain ⟨m, hm⟩ := k3; exact DataW.trod_lt m _ _ _ hm
  obtain ⟨s3, cs3, rfl, hK3, w3⟩ := Hand.open_arg_struct (j := 3) Try.underlying23 (hval 3 23 v3 rfl rfl) PVro.opS23 hsz rfl rfl h3
  obtain rfl := PVro.k23_open hK3
  (try clear hA0 hval0 hsz0 hsz hsm)
  refine (PVro.law05_ValRows.walkU Pure.ValRowsUpto A0 c0 l0 A1 c1 l1 s2.f0 s2.f1 s2.f2 s3.f0 s3.f1 s3.f2 W ⟨hl0, hC0, w0⟩ ⟨hl1, hC1, w1⟩ w2.1 w2.2.1 w2.2.2 w3.1 w3.2.1 w3.2.2 b0 b1).mono fun e W' ⟨he, bel⟩ => ?_
  subst he
  exact ⟨_, rfl, _, _, _, [], _, [], hW', trodAll_mk1 (shut_bool Try.underlying4 _), (trodAll_cons_mk (Below.trod laidOut (by kernel_rfl) (of_decide_eq_true (by kernel_rfl)) k0 bel lt0) (trodAll_cons_mk (Below.trod laidOut (by kernel_rfl) (of_decide_eq_true (by kernel_rfl)) k1 bel lt1) (trodAll_cons_mk (Below.trod laidOut (by kernel_rfl) (of_decide_eq_true (by kernel_rfl)) k2 bel lt2) (trodAll_cons_mk (Below.trod laidOut (by kernel_rfl) (of_decide_eq_true (by kernel_rfl)) k3 bel lt3) trodAll_mk0)))), rfl, bel.frame _, fun h => by cases h⟩
theorem over : Rows.valRowsUptoRow.holds Try.pinned (Rows.OpenSpec.upto Rows.valRowsSpec) :=
  OpenClaim.holds_of_cond 5 Try.f5 rfl rfl rfl rfl rfl rfl rfl ⟨rfl, rfl, rfl, rfl, rfl⟩ rfl rfl rfl rfl rfl (by kernel_rfl) Try.func5 (by kernel_rfl)
    (of_decide_eq_true (by kernel_rfl)) (by unfold Func.isWrapper; first | (rw [if_pos (by decide +kernel)]; kernel_rfl) | (rw [if_neg (by decide +kernel)]; exact ⟨rfl, rfl⟩))
    (fun os started H enc _ F => lifted os started H enc F)
theorem proved : Rows.ValRowsUptoSaid := over
#print axioms proved
end Go.Proofs.Ythooijfdlamkkaa.valRowsUpto
namespace Go.Proofs.Ythooijfdlamkkaa
/-- The row, under a short name, for the claim. -/
theorem valRowsUpto_holds : Rows.ValRowsUptoSaid := valRowsUpto.proved
end Go.Proofs.Ythooijfdlamkkaa
