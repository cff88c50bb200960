/-
  No cell of these rows narrows 'for every input' (looked for: loops, veiled, ifaces, maps, wideKeys, modest, calm, conditions, laid).
  DERIVED. THE GIVEN ROWS OF THIS SEAT. 6 by the template 'for every input the law returns true; each argument reads behind the call as it read before'; 0 by the template 'total and deterministic' (their statements: YthooijfdlamkkaaTotals.lean).
  GIVEN WITH THE SEED: the statements are not yours to turn. If you find one false, say at which input.
  Laid BY PROGRAM, IN A SANDBOX (cutbox-rows.mjs): the forced cells as the released guide's own fill.sh prints them over the translation 3280d7f7e40c9b6d… (all of the seat's roots in one cut). By AI agents, Wed Nov 11 2026. No macro, syntax, notation, axiom, sorry.
-/
import Derived.Test.YthooijfdlamkkaaChecked
import GoSem.Claim
import GoSem.ClaimJoined
import GoSem.ClaimMapViews
import Derived.JoinedTies
import Derived.KernelRfl
namespace Go.Proofs.Ythooijfdlamkkaa
/- THE CELL 'sum', in the pinned program and in every row, IS THE sha256 OF THE DUMP (.gsa) THAT YthooijfdlamkkaaProg.lean LOADS. Nothing in Lean hashes anything: it is a label: what it is worth is what the hold of that sum in a sandbox is worth. -/
noncomputable def Try.pinned : Pinned := { name := "ythooijfdlamkkaa", sum := "3280d7f7e40c9b6de3d3b59e35909e2cf6fcf510f1ce4ef16fbedc95ae6e033f", checked := Try.checked }
namespace Rows
def none {H : Type} : Left H := { results := [], args := [] }

/-- 'astragallaw05.ValOne': WHATEVER THE INPUT: true; the input reads as it did. -/
def valOneSpec : ChangeSpec := { name := "valOne", fn := fun _ => fun
  | [d1, d2, d3] => { results := [.lit (.bool true)], args := [d1, d2, d3] }
  | _ => none }
def valOneRow : OpenClaim := { program := "ythooijfdlamkkaa", sum := "3280d7f7e40c9b6de3d3b59e35909e2cf6fcf510f1ce4ef16fbedc95ae6e033f", func := "astragal/astragallaw05.ValOne", spec := "valOne", inPlace := ["math.Float64frombits"], apart := false }
def ValOneSaid : Prop := valOneRow.holds Try.pinned (OpenSpec.ofChange valOneSpec)

/-- ITS FALSE NEIGHBOUR: 'it returns false'. Refute it at one input. -/
def valOneWrong : ChangeSpec := { name := "valOne", fn := fun _ => fun
  | [d1, d2, d3] => { results := [.lit (.bool false)], args := [d1, d2, d3] }
  | _ => none }
def ValOneWrongFalsely : Prop := valOneRow.holds Try.pinned (OpenSpec.ofChange valOneWrong)

/-- 'astragallaw05.ValAdds': WHATEVER THE INPUT: true; the input reads as it did. -/
def valAddsSpec : ChangeSpec := { name := "valAdds", fn := fun _ => fun
  | [d1, d2] => { results := [.lit (.bool true)], args := [d1, d2] }
  | _ => none }
def valAddsRow : OpenClaim := { program := "ythooijfdlamkkaa", sum := "3280d7f7e40c9b6de3d3b59e35909e2cf6fcf510f1ce4ef16fbedc95ae6e033f", func := "astragal/astragallaw05.ValAdds", spec := "valAdds", inPlace := ["math.Float64frombits"], apart := false }
def ValAddsSaid : Prop := valAddsRow.holds Try.pinned (OpenSpec.ofChange valAddsSpec)

/-- ITS FALSE NEIGHBOUR: 'it returns false'. Refute it at one input. -/
def valAddsWrong : ChangeSpec := { name := "valAdds", fn := fun _ => fun
  | [d1, d2] => { results := [.lit (.bool false)], args := [d1, d2] }
  | _ => none }
def ValAddsWrongFalsely : Prop := valAddsRow.holds Try.pinned (OpenSpec.ofChange valAddsWrong)

/-- 'astragallaw05.ValRows': WHATEVER THE INPUT: true; the input reads as it did. -/
def valRowsSpec : ChangeSpec := { name := "valRows", fn := fun _ => fun
  | [d1, d2, d3, d4] => { results := [.lit (.bool true)], args := [d1, d2, d3, d4] }
  | _ => none }
def valRowsRow : OpenClaim := { program := "ythooijfdlamkkaa", sum := "3280d7f7e40c9b6de3d3b59e35909e2cf6fcf510f1ce4ef16fbedc95ae6e033f", func := "astragal/astragallaw05.ValRows", spec := "valRows", inPlace := ["math.Float64frombits"], apart := false }
def ValRowsSaid : Prop := valRowsRow.holds Try.pinned (OpenSpec.ofChange valRowsSpec)

/-- ITS FALSE NEIGHBOUR: 'it returns false'. Refute it at one input. -/
def valRowsWrong : ChangeSpec := { name := "valRows", fn := fun _ => fun
  | [d1, d2, d3, d4] => { results := [.lit (.bool false)], args := [d1, d2, d3, d4] }
  | _ => none }
def ValRowsWrongFalsely : Prop := valRowsRow.holds Try.pinned (OpenSpec.ofChange valRowsWrong)

/-- 'astragallaw05.ValFloats': WHATEVER THE INPUT: true; the input reads as it did. -/
def valFloatsSpec : ChangeSpec := { name := "valFloats", fn := fun _ => fun
  | [d1, d2] => { results := [.lit (.bool true)], args := [d1, d2] }
  | _ => none }
def valFloatsRow : OpenClaim := { program := "ythooijfdlamkkaa", sum := "3280d7f7e40c9b6de3d3b59e35909e2cf6fcf510f1ce4ef16fbedc95ae6e033f", func := "astragal/astragallaw05.ValFloats", spec := "valFloats", inPlace := ["math.Float64frombits"], apart := false }
def ValFloatsSaid : Prop := valFloatsRow.holds Try.pinned (OpenSpec.ofChange valFloatsSpec)

/-- ITS FALSE NEIGHBOUR: 'it returns false'. Refute it at one input. -/
def valFloatsWrong : ChangeSpec := { name := "valFloats", fn := fun _ => fun
  | [d1, d2] => { results := [.lit (.bool false)], args := [d1, d2] }
  | _ => none }
def ValFloatsWrongFalsely : Prop := valFloatsRow.holds Try.pinned (OpenSpec.ofChange valFloatsWrong)

/-- 'astragallaw05.ValBytes': WHATEVER THE INPUT: true; the input reads as it did. -/
def valBytesSpec : ChangeSpec := { name := "valBytes", fn := fun _ => fun
  | [d1, d2, d3] => { results := [.lit (.bool true)], args := [d1, d2, d3] }
  | _ => none }
def valBytesRow : OpenClaim := { program := "ythooijfdlamkkaa", sum := "3280d7f7e40c9b6de3d3b59e35909e2cf6fcf510f1ce4ef16fbedc95ae6e033f", func := "astragal/astragallaw05.ValBytes", spec := "valBytes", inPlace := ["math.Float64frombits"], apart := false }
def ValBytesSaid : Prop := valBytesRow.holds Try.pinned (OpenSpec.ofChange valBytesSpec)

/-- ITS FALSE NEIGHBOUR: 'it returns false'. Refute it at one input. -/
def valBytesWrong : ChangeSpec := { name := "valBytes", fn := fun _ => fun
  | [d1, d2, d3] => { results := [.lit (.bool false)], args := [d1, d2, d3] }
  | _ => none }
def ValBytesWrongFalsely : Prop := valBytesRow.holds Try.pinned (OpenSpec.ofChange valBytesWrong)

/-- 'astragallaw05.ValBack': WHATEVER THE INPUT: true; the input reads as it did. -/
def valBackSpec : ChangeSpec := { name := "valBack", fn := fun _ => fun
  | [d1, d2, d3] => { results := [.lit (.bool true)], args := [d1, d2, d3] }
  | _ => none }
def valBackRow : OpenClaim := { program := "ythooijfdlamkkaa", sum := "3280d7f7e40c9b6de3d3b59e35909e2cf6fcf510f1ce4ef16fbedc95ae6e033f", func := "astragal/astragallaw05.ValBack", spec := "valBack", inPlace := ["math.Float64frombits"], apart := false }
def ValBackSaid : Prop := valBackRow.holds Try.pinned (OpenSpec.ofChange valBackSpec)

/-- ITS FALSE NEIGHBOUR: 'it returns false'. Refute it at one input. -/
def valBackWrong : ChangeSpec := { name := "valBack", fn := fun _ => fun
  | [d1, d2, d3] => { results := [.lit (.bool false)], args := [d1, d2, d3] }
  | _ => none }
def ValBackWrongFalsely : Prop := valBackRow.holds Try.pinned (OpenSpec.ofChange valBackWrong)

/- THE SECOND FORM. 'bulk': how many values and letters a reading holds, each counted each time it is reached (what is shared counts as often as it is met; a slice's spare places count too). A statement '..UptoSaid' is the law's where the arguments, and the package variables that the reading takes, are together of bulk at most 1048576: NARROWER than '..Said'. Prove '..Said' where nothing that the law and all that it calls make is longer than what came in: it says more and counts as full. Else prove '..UptoSaid'. A law counts once. -/
mutual
def uptoBulk {H : Type} : DataW H → Nat
  | .lit (.string bytes) => bytes.length + 1
  | .lit _ => 1
  | .nil => 1
  | .ptr d => uptoBulk d + 1
  | .slice elems spare => uptoBulkAll elems + uptoBulkAll spare + 1
  | .agg parts => uptoBulkAll parts + 1
  | .iface _ d => uptoBulk d + 1
  | .map entries => uptoBulkEntries entries + 1
  | .held _ => 1
def uptoBulkAll {H : Type} : List (DataW H) → Nat
  | [] => 0
  | d :: r => uptoBulk d + uptoBulkAll r
def uptoBulkEntries {H : Type} : List (Lit × DataW H) → Nat
  | [] => 0
  | x :: r => uptoBulkEntry x + uptoBulkEntries r
def uptoBulkEntry {H : Type} : Lit × DataW H → Nat
  | (.string bytes, d) => bytes.length + uptoBulk d + 1
  | (_, d) => uptoBulk d + 1
 end
def uptoSmall : (H : Type) → List (DataW H) → Bool := fun _ ds => decide (uptoBulkAll ds ≤ 1048576)
def OpenSpec.upto (s : _root_.Go.ChangeSpec) : _root_.Go.OpenSpec := { _root_.Go.OpenSpec.ofChange s with cond := some uptoSmall }

/-- 'astragallaw05.ValOne', WHERE WHAT IT READS IS OF BULK AT MOST 1048576: true; the input reads as it did. -/
def valOneUptoRow : OpenClaim := { program := "ythooijfdlamkkaa", sum := "3280d7f7e40c9b6de3d3b59e35909e2cf6fcf510f1ce4ef16fbedc95ae6e033f", func := "astragal/astragallaw05.ValOne", spec := "valOne", inPlace := ["math.Float64frombits"], apart := false, narrowed := true }
def ValOneUptoSaid : Prop := valOneUptoRow.holds Try.pinned (OpenSpec.upto valOneSpec)

/-- 'astragallaw05.ValAdds', WHERE WHAT IT READS IS OF BULK AT MOST 1048576: true; the input reads as it did. -/
def valAddsUptoRow : OpenClaim := { program := "ythooijfdlamkkaa", sum := "3280d7f7e40c9b6de3d3b59e35909e2cf6fcf510f1ce4ef16fbedc95ae6e033f", func := "astragal/astragallaw05.ValAdds", spec := "valAdds", inPlace := ["math.Float64frombits"], apart := false, narrowed := true }
def ValAddsUptoSaid : Prop := valAddsUptoRow.holds Try.pinned (OpenSpec.upto valAddsSpec)

/-- 'astragallaw05.ValRows', WHERE WHAT IT READS IS OF BULK AT MOST 1048576: true; the input reads as it did. -/
def valRowsUptoRow : OpenClaim := { program := "ythooijfdlamkkaa", sum := "3280d7f7e40c9b6de3d3b59e35909e2cf6fcf510f1ce4ef16fbedc95ae6e033f", func := "astragal/astragallaw05.ValRows", spec := "valRows", inPlace := ["math.Float64frombits"], apart := false, narrowed := true }
def ValRowsUptoSaid : Prop := valRowsUptoRow.holds Try.pinned (OpenSpec.upto valRowsSpec)

/-- 'astragallaw05.ValFloats', WHERE WHAT IT READS IS OF BULK AT MOST 1048576: true; the input reads as it did. -/
def valFloatsUptoRow : OpenClaim := { program := "ythooijfdlamkkaa", sum := "3280d7f7e40c9b6de3d3b59e35909e2cf6fcf510f1ce4ef16fbedc95ae6e033f", func := "astragal/astragallaw05.ValFloats", spec := "valFloats", inPlace := ["math.Float64frombits"], apart := false, narrowed := true }
def ValFloatsUptoSaid : Prop := valFloatsUptoRow.holds Try.pinned (OpenSpec.upto valFloatsSpec)

/-- 'astragallaw05.ValBytes', WHERE WHAT IT READS IS OF BULK AT MOST 1048576: true; the input reads as it did. -/
def valBytesUptoRow : OpenClaim := { program := "ythooijfdlamkkaa", sum := "3280d7f7e40c9b6de3d3b59e35909e2cf6fcf510f1ce4ef16fbedc95ae6e033f", func := "astragal/astragallaw05.ValBytes", spec := "valBytes", inPlace := ["math.Float64frombits"], apart := false, narrowed := true }
def ValBytesUptoSaid : Prop := valBytesUptoRow.holds Try.pinned (OpenSpec.upto valBytesSpec)

/-- 'astragallaw05.ValBack', WHERE WHAT IT READS IS OF BULK AT MOST 1048576: true; the input reads as it did. -/
def valBackUptoRow : OpenClaim := { program := "ythooijfdlamkkaa", sum := "3280d7f7e40c9b6de3d3b59e35909e2cf6fcf510f1ce4ef16fbedc95ae6e033f", func := "astragal/astragallaw05.ValBack", spec := "valBack", inPlace := ["math.Float64frombits"], apart := false, narrowed := true }
def ValBackUptoSaid : Prop := valBackUptoRow.holds Try.pinned (OpenSpec.upto valBackSpec)

end Rows
end Go.Proofs.Ythooijfdlamkkaa
