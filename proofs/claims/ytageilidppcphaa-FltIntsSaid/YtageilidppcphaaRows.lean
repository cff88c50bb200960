/-
  No cell of these rows narrows 'for every input' (looked for: loops, veiled, ifaces, maps, wideKeys, modest, calm, conditions, laid).
  DERIVED. THE GIVEN ROWS OF THIS SEAT. 7 by the template 'for every input the law returns true; each argument reads behind the call as it read before'; 0 by the template 'total and deterministic' (their statements: YtageilidppcphaaTotals.lean).
  GIVEN WITH THE SEED: the statements are not yours to turn. If you find one false, say at which input.
  Laid BY PROGRAM, IN A SANDBOX (cutbox-rows.mjs): the forced cells as the released guide's own fill.sh prints them over the translation cda10ae1f3297c07… (all of the seat's roots in one cut). By AI agents, Wed Nov 11 2026. No macro, syntax, notation, axiom, sorry.
-/
import Derived.Test.YtageilidppcphaaChecked
import GoSem.Claim
import GoSem.ClaimJoined
import GoSem.ClaimMapViews
import Derived.JoinedTies
import Derived.KernelRfl
namespace Go.Proofs.Ytageilidppcphaa
/- THE CELL 'sum', in the pinned program and in every row, IS THE sha256 OF THE DUMP (.gsa) THAT YtageilidppcphaaProg.lean LOADS. Nothing in Lean hashes anything: it is a label: what it is worth is what the hold of that sum in a sandbox is worth. -/
noncomputable def Try.pinned : Pinned := { name := "ytageilidppcphaa", sum := "cda10ae1f3297c073e0a1f685a7cb5fd6367760704e08d407a160aca27cdbba7", checked := Try.checked }
namespace Rows
def none {H : Type} : Left H := { results := [], args := [] }

/-- 'astragallaw04.FltWholes': WHATEVER THE INPUT: true; the input reads as it did. -/
def fltWholesSpec : ChangeSpec := { name := "fltWholes", fn := fun _ => fun
  | [d] => { results := [.lit (.bool true)], args := [d] }
  | _ => none }
def fltWholesRow : OpenClaim := { program := "ytageilidppcphaa", sum := "cda10ae1f3297c073e0a1f685a7cb5fd6367760704e08d407a160aca27cdbba7", func := "astragal/astragallaw04.FltWholes", spec := "fltWholes", inPlace := ["math.Float64frombits", "math.archTrunc", "math.Float64bits"], apart := false }
def FltWholesSaid : Prop := fltWholesRow.holds Try.pinned (OpenSpec.ofChange fltWholesSpec)

/-- ITS FALSE NEIGHBOUR: 'it returns false'. Refute it at one input. -/
def fltWholesWrong : ChangeSpec := { name := "fltWholes", fn := fun _ => fun
  | [d] => { results := [.lit (.bool false)], args := [d] }
  | _ => none }
def FltWholesWrongFalsely : Prop := fltWholesRow.holds Try.pinned (OpenSpec.ofChange fltWholesWrong)

/-- 'astragallaw04.FltOrder': WHATEVER THE INPUT: true; the input reads as it did. -/
def fltOrderSpec : ChangeSpec := { name := "fltOrder", fn := fun _ => fun
  | [d1, d2, d3] => { results := [.lit (.bool true)], args := [d1, d2, d3] }
  | _ => none }
def fltOrderRow : OpenClaim := { program := "ytageilidppcphaa", sum := "cda10ae1f3297c073e0a1f685a7cb5fd6367760704e08d407a160aca27cdbba7", func := "astragal/astragallaw04.FltOrder", spec := "fltOrder", inPlace := ["math.Float64frombits", "math.archTrunc", "math.Float64bits"], apart := false }
def FltOrderSaid : Prop := fltOrderRow.holds Try.pinned (OpenSpec.ofChange fltOrderSpec)

/-- ITS FALSE NEIGHBOUR: 'it returns false'. Refute it at one input. -/
def fltOrderWrong : ChangeSpec := { name := "fltOrder", fn := fun _ => fun
  | [d1, d2, d3] => { results := [.lit (.bool false)], args := [d1, d2, d3] }
  | _ => none }
def FltOrderWrongFalsely : Prop := fltOrderRow.holds Try.pinned (OpenSpec.ofChange fltOrderWrong)

/-- 'astragallaw04.FltSteps': WHATEVER THE INPUT: true; the input reads as it did. -/
def fltStepsSpec : ChangeSpec := { name := "fltSteps", fn := fun _ => fun
  | [d1, d2] => { results := [.lit (.bool true)], args := [d1, d2] }
  | _ => none }
def fltStepsRow : OpenClaim := { program := "ytageilidppcphaa", sum := "cda10ae1f3297c073e0a1f685a7cb5fd6367760704e08d407a160aca27cdbba7", func := "astragal/astragallaw04.FltSteps", spec := "fltSteps", inPlace := ["math.Float64frombits", "math.archTrunc", "math.Float64bits"], apart := false }
def FltStepsSaid : Prop := fltStepsRow.holds Try.pinned (OpenSpec.ofChange fltStepsSpec)

/-- ITS FALSE NEIGHBOUR: 'it returns false'. Refute it at one input. -/
def fltStepsWrong : ChangeSpec := { name := "fltSteps", fn := fun _ => fun
  | [d1, d2] => { results := [.lit (.bool false)], args := [d1, d2] }
  | _ => none }
def FltStepsWrongFalsely : Prop := fltStepsRow.holds Try.pinned (OpenSpec.ofChange fltStepsWrong)

/-- 'astragallaw04.FltInts': WHATEVER THE INPUT: true; the input reads as it did. -/
def fltIntsSpec : ChangeSpec := { name := "fltInts", fn := fun _ => fun
  | [d1, d2] => { results := [.lit (.bool true)], args := [d1, d2] }
  | _ => none }
def fltIntsRow : OpenClaim := { program := "ytageilidppcphaa", sum := "cda10ae1f3297c073e0a1f685a7cb5fd6367760704e08d407a160aca27cdbba7", func := "astragal/astragallaw04.FltInts", spec := "fltInts", inPlace := ["math.Float64frombits", "math.archTrunc", "math.Float64bits"], apart := false }
def FltIntsSaid : Prop := fltIntsRow.holds Try.pinned (OpenSpec.ofChange fltIntsSpec)

/-- ITS FALSE NEIGHBOUR: 'it returns false'. Refute it at one input. -/
def fltIntsWrong : ChangeSpec := { name := "fltInts", fn := fun _ => fun
  | [d1, d2] => { results := [.lit (.bool false)], args := [d1, d2] }
  | _ => none }
def FltIntsWrongFalsely : Prop := fltIntsRow.holds Try.pinned (OpenSpec.ofChange fltIntsWrong)

/-- 'astragallaw04.FltNumbers': WHATEVER THE INPUT: true; the input reads as it did. -/
def fltNumbersSpec : ChangeSpec := { name := "fltNumbers", fn := fun _ => fun
  | [d1, d2, d3, d4] => { results := [.lit (.bool true)], args := [d1, d2, d3, d4] }
  | _ => none }
def fltNumbersRow : OpenClaim := { program := "ytageilidppcphaa", sum := "cda10ae1f3297c073e0a1f685a7cb5fd6367760704e08d407a160aca27cdbba7", func := "astragal/astragallaw04.FltNumbers", spec := "fltNumbers", inPlace := ["math.Float64frombits", "math.archTrunc", "math.Float64bits"], apart := false }
def FltNumbersSaid : Prop := fltNumbersRow.holds Try.pinned (OpenSpec.ofChange fltNumbersSpec)

/-- ITS FALSE NEIGHBOUR: 'it returns false'. Refute it at one input. -/
def fltNumbersWrong : ChangeSpec := { name := "fltNumbers", fn := fun _ => fun
  | [d1, d2, d3, d4] => { results := [.lit (.bool false)], args := [d1, d2, d3, d4] }
  | _ => none }
def FltNumbersWrongFalsely : Prop := fltNumbersRow.holds Try.pinned (OpenSpec.ofChange fltNumbersWrong)

/-- 'astragallaw04.FltBack': WHATEVER THE INPUT: true; the input reads as it did. -/
def fltBackSpec : ChangeSpec := { name := "fltBack", fn := fun _ => fun
  | [d1, d2] => { results := [.lit (.bool true)], args := [d1, d2] }
  | _ => none }
def fltBackRow : OpenClaim := { program := "ytageilidppcphaa", sum := "cda10ae1f3297c073e0a1f685a7cb5fd6367760704e08d407a160aca27cdbba7", func := "astragal/astragallaw04.FltBack", spec := "fltBack", inPlace := ["math.Float64frombits", "math.archTrunc", "math.Float64bits"], apart := false }
def FltBackSaid : Prop := fltBackRow.holds Try.pinned (OpenSpec.ofChange fltBackSpec)

/-- ITS FALSE NEIGHBOUR: 'it returns false'. Refute it at one input. -/
def fltBackWrong : ChangeSpec := { name := "fltBack", fn := fun _ => fun
  | [d1, d2] => { results := [.lit (.bool false)], args := [d1, d2] }
  | _ => none }
def FltBackWrongFalsely : Prop := fltBackRow.holds Try.pinned (OpenSpec.ofChange fltBackWrong)

/-- 'astragallaw04.FltKeys': WHATEVER THE INPUT: true; the input reads as it did. -/
def fltKeysSpec : ChangeSpec := { name := "fltKeys", fn := fun _ => fun
  | [d1, d2] => { results := [.lit (.bool true)], args := [d1, d2] }
  | _ => none }
def fltKeysRow : OpenClaim := { program := "ytageilidppcphaa", sum := "cda10ae1f3297c073e0a1f685a7cb5fd6367760704e08d407a160aca27cdbba7", func := "astragal/astragallaw04.FltKeys", spec := "fltKeys", inPlace := ["math.Float64frombits", "math.archTrunc", "math.Float64bits"], apart := false }
def FltKeysSaid : Prop := fltKeysRow.holds Try.pinned (OpenSpec.ofChange fltKeysSpec)

/-- ITS FALSE NEIGHBOUR: 'it returns false'. Refute it at one input. -/
def fltKeysWrong : ChangeSpec := { name := "fltKeys", fn := fun _ => fun
  | [d1, d2] => { results := [.lit (.bool false)], args := [d1, d2] }
  | _ => none }
def FltKeysWrongFalsely : Prop := fltKeysRow.holds Try.pinned (OpenSpec.ofChange fltKeysWrong)

/- THE SECOND FORM. 'bulk': how many values and letters a reading holds, each counted each time it is reached (what is shared counts as often as it is met; a slice's spare places count too). A statement '..UptoSaid' is the law's where the arguments, and the package variables that the reading takes, are together of bulk at most 1048576: NARROWER than '..Said'. Prove '..Said' where nothing that the law and all that it calls make is longer than what came in: it says more and counts as full. Else prove '..UptoSaid'. A law counts once. -/
mutual
def uptoBulk {H : Type} : DataW H → Nat
  | .lit (.string bytes) => bytes.length + 1
  | .lit _ => 1
  | .nil => 1
  | .ptr d => uptoBulk d + 1
  | .slice elems spare => uptoBulkAll elems + uptoBulkAll spare + 1
  | .agg parts => uptoBulkAll parts + 1
  | .iface _ d => uptoBulk d + 1
  | .map entries => uptoBulkEntries entries + 1
  | .held _ => 1
def uptoBulkAll {H : Type} : List (DataW H) → Nat
  | [] => 0
  | d :: r => uptoBulk d + uptoBulkAll r
def uptoBulkEntries {H : Type} : List (Lit × DataW H) → Nat
  | [] => 0
  | x :: r => uptoBulkEntry x + uptoBulkEntries r
def uptoBulkEntry {H : Type} : Lit × DataW H → Nat
  | (.string bytes, d) => bytes.length + uptoBulk d + 1
  | (_, d) => uptoBulk d + 1
 end
def uptoSmall : (H : Type) → List (DataW H) → Bool := fun _ ds => decide (uptoBulkAll ds ≤ 1048576)
def OpenSpec.upto (s : _root_.Go.ChangeSpec) : _root_.Go.OpenSpec := { _root_.Go.OpenSpec.ofChange s with cond := some uptoSmall }

/-- 'astragallaw04.FltWholes', WHERE WHAT IT READS IS OF BULK AT MOST 1048576: true; the input reads as it did. -/
def fltWholesUptoRow : OpenClaim := { program := "ytageilidppcphaa", sum := "cda10ae1f3297c073e0a1f685a7cb5fd6367760704e08d407a160aca27cdbba7", func := "astragal/astragallaw04.FltWholes", spec := "fltWholes", inPlace := ["math.Float64frombits", "math.archTrunc", "math.Float64bits"], apart := false, narrowed := true }
def FltWholesUptoSaid : Prop := fltWholesUptoRow.holds Try.pinned (OpenSpec.upto fltWholesSpec)

/-- 'astragallaw04.FltOrder', WHERE WHAT IT READS IS OF BULK AT MOST 1048576: true; the input reads as it did. -/
def fltOrderUptoRow : OpenClaim := { program := "ytageilidppcphaa", sum := "cda10ae1f3297c073e0a1f685a7cb5fd6367760704e08d407a160aca27cdbba7", func := "astragal/astragallaw04.FltOrder", spec := "fltOrder", inPlace := ["math.Float64frombits", "math.archTrunc", "math.Float64bits"], apart := false, narrowed := true }
def FltOrderUptoSaid : Prop := fltOrderUptoRow.holds Try.pinned (OpenSpec.upto fltOrderSpec)

/-- 'astragallaw04.FltSteps', WHERE WHAT IT READS IS OF BULK AT MOST 1048576: true; the input reads as it did. -/
def fltStepsUptoRow : OpenClaim := { program := "ytageilidppcphaa", sum := "cda10ae1f3297c073e0a1f685a7cb5fd6367760704e08d407a160aca27cdbba7", func := "astragal/astragallaw04.FltSteps", spec := "fltSteps", inPlace := ["math.Float64frombits", "math.archTrunc", "math.Float64bits"], apart := false, narrowed := true }
def FltStepsUptoSaid : Prop := fltStepsUptoRow.holds Try.pinned (OpenSpec.upto fltStepsSpec)

/-- 'astragallaw04.FltInts', WHERE WHAT IT READS IS OF BULK AT MOST 1048576: true; the input reads as it did. -/
def fltIntsUptoRow : OpenClaim := { program := "ytageilidppcphaa", sum := "cda10ae1f3297c073e0a1f685a7cb5fd6367760704e08d407a160aca27cdbba7", func := "astragal/astragallaw04.FltInts", spec := "fltInts", inPlace := ["math.Float64frombits", "math.archTrunc", "math.Float64bits"], apart := false, narrowed := true }
def FltIntsUptoSaid : Prop := fltIntsUptoRow.holds Try.pinned (OpenSpec.upto fltIntsSpec)

/-- 'astragallaw04.FltNumbers', WHERE WHAT IT READS IS OF BULK AT MOST 1048576: true; the input reads as it did. -/
def fltNumbersUptoRow : OpenClaim := { program := "ytageilidppcphaa", sum := "cda10ae1f3297c073e0a1f685a7cb5fd6367760704e08d407a160aca27cdbba7", func := "astragal/astragallaw04.FltNumbers", spec := "fltNumbers", inPlace := ["math.Float64frombits", "math.archTrunc", "math.Float64bits"], apart := false, narrowed := true }
def FltNumbersUptoSaid : Prop := fltNumbersUptoRow.holds Try.pinned (OpenSpec.upto fltNumbersSpec)

/-- 'astragallaw04.FltBack', WHERE WHAT IT READS IS OF BULK AT MOST 1048576: true; the input reads as it did. -/
def fltBackUptoRow : OpenClaim := { program := "ytageilidppcphaa", sum := "cda10ae1f3297c073e0a1f685a7cb5fd6367760704e08d407a160aca27cdbba7", func := "astragal/astragallaw04.FltBack", spec := "fltBack", inPlace := ["math.Float64frombits", "math.archTrunc", "math.Float64bits"], apart := false, narrowed := true }
def FltBackUptoSaid : Prop := fltBackUptoRow.holds Try.pinned (OpenSpec.upto fltBackSpec)

/-- 'astragallaw04.FltKeys', WHERE WHAT IT READS IS OF BULK AT MOST 1048576: true; the input reads as it did. -/
def fltKeysUptoRow : OpenClaim := { program := "ytageilidppcphaa", sum := "cda10ae1f3297c073e0a1f685a7cb5fd6367760704e08d407a160aca27cdbba7", func := "astragal/astragallaw04.FltKeys", spec := "fltKeys", inPlace := ["math.Float64frombits", "math.archTrunc", "math.Float64bits"], apart := false, narrowed := true }
def FltKeysUptoSaid : Prop := fltKeysUptoRow.holds Try.pinned (OpenSpec.upto fltKeysSpec)

end Rows
end Go.Proofs.Ytageilidppcphaa
