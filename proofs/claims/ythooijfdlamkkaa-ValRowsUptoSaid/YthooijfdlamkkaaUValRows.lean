-- Written by this session's program wip/gprint/uplaw.py, over its own print; no text of print.sh's.
import Derived.Test.YthooijfdlamkkaaPVrox10
import Derived.Test.YthooijfdlamkkaaHUpto
namespace Go.Proofs.Ythooijfdlamkkaa.PVro
open Go.RowKit Go.Proofs.YthooijfdlamkkaaW.PrintWords Go.Proofs.YthooijfdlamkkaaW.PrintLast Go.Proofs.YthooijfdlamkkaaW.PrintMore
set_option linter.unusedVariables false
set_option linter.unusedSimpArgs false

def law05_ValRows.PureU : Prop := ∀ (l0 : List (S23)) (l1 : List (S23)) (a2_0 : Int) (a2_1 : Int) (a2_2 : ByteArray) (a3_0 : Int) (a3_1 : Int) (a3_2 : ByteArray), Hand.WfRow 32 wfS23 l0 → Hand.WfRow 32 wfS23 l1 → (Lit.int .i64 a2_0).wf = true → (Lit.int .i64 a2_1).wf = true → a2_2.size ≤ 140737488351232 → (Lit.int .i64 a3_0).wf = true → (Lit.int .i64 a3_1).wf = true → a3_2.size ≤ 140737488351232 → (fun l => (l.map (fun _ => 1)).sum + 1) l0 ≤ 1048576 → (fun l => (l.map (fun _ => 1)).sum + 1) l1 ≤ 1048576 → ∃ k, law05_ValRows.f k l0 l1 a2_0 a2_1 a2_2 a3_0 a3_1 a3_2 = some true
theorem law05_ValRows.walkU (P : law05_ValRows.PureU) (A0 : Option Addr) (c0 : Nat) (l0 : List (S23)) (A1 : Option Addr) (c1 : Nat) (l1 : List (S23)) (a2_0 : Int) (a2_1 : Int) (a2_2 : ByteArray) (a3_0 : Int) (a3_1 : Int) (a3_2 : ByteArray) (w : World) (w0 : l0.length ≤ c0 ∧ Kd.C k23 w A0 l0.length l0 ∧ Hand.WfRow 32 wfS23 l0) (w1 : l1.length ≤ c1 ∧ Kd.C k23 w A1 l1.length l1 ∧ Hand.WfRow 32 wfS23 l1) (w2_0 : (Lit.int .i64 a2_0).wf = true) (w2_1 : (Lit.int .i64 a2_1).wf = true) (w2_2 : a2_2.size ≤ 140737488351232) (w3_0 : (Lit.int .i64 a3_0).wf = true) (w3_1 : (Lit.int .i64 a3_1).wf = true) (w3_2 : a3_2.size ≤ 140737488351232) (b0 : (fun l => (l.map (fun _ => 1)).sum + 1) l0 ≤ 1048576) (b1 : (fun l => (l.map (fun _ => 1)).sum + 1) l1 ≤ 1048576) :
    Calls Try.prog 5 #[.slice A0 l0.length c0, .slice A1 l1.length c1, .agg #[.int .i64 a2_0, .int .i64 a2_1, .string a2_2], .agg #[.int .i64 a3_0, .int .i64 a3_1, .string a3_2]] w fun e w' => e = .returned (.bool true) ∧ Below w.heap.size w w' := by
  obtain ⟨hc0, hr0, hw0⟩ := w0
  obtain ⟨hc1, hr1, hw1⟩ := w1
  obtain ⟨k, h⟩ := P l0 l1 a2_0 a2_1 a2_2 a3_0 a3_1 a3_2 hw0 hw1 w2_0 w2_1 w2_2 w3_0 w3_1 w3_2 b0 b1
  refine (law05_ValRows.calls k _ _ l0 _ _ l1 a2_0 a2_1 a2_2 a3_0 a3_1 a3_2 true w hr0 hc0 hr1 hc1 ⟨rfl⟩ h).mono ?_
  rintro e w' ⟨rfl, hd⟩
  exact ⟨rfl, hd⟩

end Go.Proofs.Ythooijfdlamkkaa.PVro
