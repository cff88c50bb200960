-- Written by this session's program wip/gprint/uplaw.py, over its own print; no text of print.sh's.
import Derived.Test.YtknkoeahcemmmaaPCrcx3
import Derived.Test.YtknkoeahcemmmaaHUpto
namespace Go.Proofs.Ytknkoeahcemmmaa.PCrc
open Go.RowKit Go.Proofs.YtknkoeahcemmmaaW.PrintWords Go.Proofs.YtknkoeahcemmmaaW.PrintLast Go.Proofs.YtknkoeahcemmmaaW.PrintMore
set_option linter.unusedVariables false
set_option linter.unusedSimpArgs false

def law03_CrcMany.PureU : Prop := ∀ (l0 : List (List Int)), Hand.WfRow 24 (Hand.WfRow 1 (fun a => (Lit.int .u8 a).wf = true)) l0 → (fun l => (l.map (fun l => (l.map (fun _ => 1)).sum + 1)).sum + 1) l0 ≤ 1048576 → ∃ k, law03_CrcMany.f k l0 = some true
theorem law03_CrcMany.walkU (P : law03_CrcMany.PureU) (A0 : Option Addr) (c0 : Nat) (l0 : List (List Int)) (w : World) (w0 : l0.length ≤ c0 ∧ Kd.C (Kd.slice 5 (Kd.int .u8)) w A0 l0.length l0 ∧ Hand.WfRow 24 (Hand.WfRow 1 (fun a => (Lit.int .u8 a).wf = true)) l0) (b0 : (fun l => (l.map (fun l => (l.map (fun _ => 1)).sum + 1)).sum + 1) l0 ≤ 1048576) :
    Calls Try.prog 9 #[.slice A0 l0.length c0] w fun e w' => e = .returned (.bool true) ∧ Below w.heap.size w w' := by
  obtain ⟨hc0, hr0, hw0⟩ := w0
  obtain ⟨k, h⟩ := P l0 hw0 b0
  refine (law03_CrcMany.calls k _ _ l0 true w hr0 hc0 ⟨rfl⟩ h).mono ?_
  rintro e w' ⟨rfl, hd⟩
  exact ⟨rfl, hd⟩

end Go.Proofs.Ytknkoeahcemmmaa.PCrc
