/-
  No cell of these rows narrows 'for every input' (looked for: loops, veiled, ifaces, maps, wideKeys, modest, calm, conditions, laid).
  DERIVED. THE GIVEN ROWS OF THIS SEAT. 6 by the template 'for every input the law returns true; each argument reads behind the call as it read before'; 0 by the template 'total and deterministic' (their statements: YthpoeljnmdjjiaaTotals.lean).
  GIVEN WITH THE SEED: the statements are not yours to turn. If you find one false, say at which input.
  Laid BY PROGRAM, IN A SANDBOX (cutbox-rows.mjs): the forced cells as the released guide's own fill.sh prints them over the translation 45f2bc6222ab3264… (all of the seat's roots in one cut). By AI agents, Wed Nov 11 2026. No macro, syntax, notation, axiom, sorry.
-/
import Derived.Test.YthpoeljnmdjjiaaChecked
import GoSem.Claim
import GoSem.ClaimJoined
import GoSem.ClaimMapViews
import Derived.JoinedTies
import Derived.KernelRfl
namespace Go.Proofs.Ythpoeljnmdjjiaa
/- THE CELL 'sum', in the pinned program and in every row, IS THE sha256 OF THE DUMP (.gsa) THAT YthpoeljnmdjjiaaProg.lean LOADS. Nothing in Lean hashes anything: it is a label: what it is worth is what the hold of that sum in a sandbox is worth. -/
noncomputable def Try.pinned : Pinned := { name := "ythpoeljnmdjjiaa", sum := "45f2bc6222ab3264ec24f884911b7ab4c0a8e2cbe73e88ea64f9d96ffe9d3173", checked := Try.checked }
namespace Rows
def none {H : Type} : Left H := { results := [], args := [] }

/-- 'astragallaw16.SortedStays': WHATEVER THE INPUT: true; the input reads as it did. -/
def sortedStaysSpec : ChangeSpec := { name := "sortedStays", fn := fun _ => fun
  | [d1, d2] => { results := [.lit (.bool true)], args := [d1, d2] }
  | _ => none }
def sortedStaysRow : OpenClaim := { program := "ythpoeljnmdjjiaa", sum := "45f2bc6222ab3264ec24f884911b7ab4c0a8e2cbe73e88ea64f9d96ffe9d3173", func := "astragal/astragallaw16.SortedStays", spec := "sortedStays", inPlace := ["math.Float64frombits"], unfollowed := true, recurses := true, apart := false }
def SortedStaysSaid : Prop := sortedStaysRow.holds Try.pinned (OpenSpec.ofChange sortedStaysSpec)

/-- ITS FALSE NEIGHBOUR: 'it returns false'. Refute it at one input. -/
def sortedStaysWrong : ChangeSpec := { name := "sortedStays", fn := fun _ => fun
  | [d1, d2] => { results := [.lit (.bool false)], args := [d1, d2] }
  | _ => none }
def SortedStaysWrongFalsely : Prop := sortedStaysRow.holds Try.pinned (OpenSpec.ofChange sortedStaysWrong)

/-- 'astragallaw16.SortedBags': WHATEVER THE INPUT: true; the input reads as it did. -/
def sortedBagsSpec : ChangeSpec := { name := "sortedBags", fn := fun _ => fun
  | [d1, d2, d3, d4] => { results := [.lit (.bool true)], args := [d1, d2, d3, d4] }
  | _ => none }
def sortedBagsRow : OpenClaim := { program := "ythpoeljnmdjjiaa", sum := "45f2bc6222ab3264ec24f884911b7ab4c0a8e2cbe73e88ea64f9d96ffe9d3173", func := "astragal/astragallaw16.SortedBags", spec := "sortedBags", inPlace := ["math.Float64frombits"], unfollowed := true, recurses := true, apart := false }
def SortedBagsSaid : Prop := sortedBagsRow.holds Try.pinned (OpenSpec.ofChange sortedBagsSpec)

/-- ITS FALSE NEIGHBOUR: 'it returns false'. Refute it at one input. -/
def sortedBagsWrong : ChangeSpec := { name := "sortedBags", fn := fun _ => fun
  | [d1, d2, d3, d4] => { results := [.lit (.bool false)], args := [d1, d2, d3, d4] }
  | _ => none }
def SortedBagsWrongFalsely : Prop := sortedBagsRow.holds Try.pinned (OpenSpec.ofChange sortedBagsWrong)

/-- 'astragallaw16.SortedMerges': WHATEVER THE INPUT: true; the input reads as it did. -/
def sortedMergesSpec : ChangeSpec := { name := "sortedMerges", fn := fun _ => fun
  | [d1, d2, d3] => { results := [.lit (.bool true)], args := [d1, d2, d3] }
  | _ => none }
def sortedMergesRow : OpenClaim := { program := "ythpoeljnmdjjiaa", sum := "45f2bc6222ab3264ec24f884911b7ab4c0a8e2cbe73e88ea64f9d96ffe9d3173", func := "astragal/astragallaw16.SortedMerges", spec := "sortedMerges", inPlace := ["math.Float64frombits"], unfollowed := true, recurses := true, apart := false }
def SortedMergesSaid : Prop := sortedMergesRow.holds Try.pinned (OpenSpec.ofChange sortedMergesSpec)

/-- ITS FALSE NEIGHBOUR: 'it returns false'. Refute it at one input. -/
def sortedMergesWrong : ChangeSpec := { name := "sortedMerges", fn := fun _ => fun
  | [d1, d2, d3] => { results := [.lit (.bool false)], args := [d1, d2, d3] }
  | _ => none }
def SortedMergesWrongFalsely : Prop := sortedMergesRow.holds Try.pinned (OpenSpec.ofChange sortedMergesWrong)

/-- 'astragallaw16.SortedNone': WHATEVER THE INPUT: true; the input reads as it did. -/
def sortedNoneSpec : ChangeSpec := { name := "sortedNone", fn := fun _ => fun
  | [d1, d2] => { results := [.lit (.bool true)], args := [d1, d2] }
  | _ => none }
def sortedNoneRow : OpenClaim := { program := "ythpoeljnmdjjiaa", sum := "45f2bc6222ab3264ec24f884911b7ab4c0a8e2cbe73e88ea64f9d96ffe9d3173", func := "astragal/astragallaw16.SortedNone", spec := "sortedNone", inPlace := ["math.Float64frombits"], unfollowed := true, recurses := true, apart := false }
def SortedNoneSaid : Prop := sortedNoneRow.holds Try.pinned (OpenSpec.ofChange sortedNoneSpec)

/-- ITS FALSE NEIGHBOUR: 'it returns false'. Refute it at one input. -/
def sortedNoneWrong : ChangeSpec := { name := "sortedNone", fn := fun _ => fun
  | [d1, d2] => { results := [.lit (.bool false)], args := [d1, d2] }
  | _ => none }
def SortedNoneWrongFalsely : Prop := sortedNoneRow.holds Try.pinned (OpenSpec.ofChange sortedNoneWrong)

/-- 'astragallaw16.SortedCols': WHATEVER THE INPUT: true; the input reads as it did. -/
def sortedColsSpec : ChangeSpec := { name := "sortedCols", fn := fun _ => fun
  | [d1, d2, d3] => { results := [.lit (.bool true)], args := [d1, d2, d3] }
  | _ => none }
def sortedColsRow : OpenClaim := { program := "ythpoeljnmdjjiaa", sum := "45f2bc6222ab3264ec24f884911b7ab4c0a8e2cbe73e88ea64f9d96ffe9d3173", func := "astragal/astragallaw16.SortedCols", spec := "sortedCols", inPlace := ["math.Float64frombits"], unfollowed := true, recurses := true, apart := false }
def SortedColsSaid : Prop := sortedColsRow.holds Try.pinned (OpenSpec.ofChange sortedColsSpec)

/-- ITS FALSE NEIGHBOUR: 'it returns false'. Refute it at one input. -/
def sortedColsWrong : ChangeSpec := { name := "sortedCols", fn := fun _ => fun
  | [d1, d2, d3] => { results := [.lit (.bool false)], args := [d1, d2, d3] }
  | _ => none }
def SortedColsWrongFalsely : Prop := sortedColsRow.holds Try.pinned (OpenSpec.ofChange sortedColsWrong)

/-- 'astragallaw16.SortedRows': WHATEVER THE INPUT: true; the input reads as it did. -/
def sortedRowsSpec : ChangeSpec := { name := "sortedRows", fn := fun _ => fun
  | [d1, d2, d3, d4] => { results := [.lit (.bool true)], args := [d1, d2, d3, d4] }
  | _ => none }
def sortedRowsRow : OpenClaim := { program := "ythpoeljnmdjjiaa", sum := "45f2bc6222ab3264ec24f884911b7ab4c0a8e2cbe73e88ea64f9d96ffe9d3173", func := "astragal/astragallaw16.SortedRows", spec := "sortedRows", inPlace := ["math.Float64frombits"], unfollowed := true, recurses := true, apart := false }
def SortedRowsSaid : Prop := sortedRowsRow.holds Try.pinned (OpenSpec.ofChange sortedRowsSpec)

/-- ITS FALSE NEIGHBOUR: 'it returns false'. Refute it at one input. -/
def sortedRowsWrong : ChangeSpec := { name := "sortedRows", fn := fun _ => fun
  | [d1, d2, d3, d4] => { results := [.lit (.bool false)], args := [d1, d2, d3, d4] }
  | _ => none }
def SortedRowsWrongFalsely : Prop := sortedRowsRow.holds Try.pinned (OpenSpec.ofChange sortedRowsWrong)

/- THE SECOND FORM. 'bulk': how many values and letters a reading holds, each counted each time it is reached (what is shared counts as often as it is met; a slice's spare places count too). A statement '..UptoSaid' is the law's where the arguments, and the package variables that the reading takes, are together of bulk at most 1048576: NARROWER than '..Said'. Prove '..Said' where nothing that the law and all that it calls make is longer than what came in: it says more and counts as full. Else prove '..UptoSaid'. A law counts once. -/
mutual
def uptoBulk {H : Type} : DataW H → Nat
  | .lit (.string bytes) => bytes.length + 1
  | .lit _ => 1
  | .nil => 1
  | .ptr d => uptoBulk d + 1
  | .slice elems spare => uptoBulkAll elems + uptoBulkAll spare + 1
  | .agg parts => uptoBulkAll parts + 1
  | .iface _ d => uptoBulk d + 1
  | .map entries => uptoBulkEntries entries + 1
  | .held _ => 1
def uptoBulkAll {H : Type} : List (DataW H) → Nat
  | [] => 0
  | d :: r => uptoBulk d + uptoBulkAll r
def uptoBulkEntries {H : Type} : List (Lit × DataW H) → Nat
  | [] => 0
  | x :: r => uptoBulkEntry x + uptoBulkEntries r
def uptoBulkEntry {H : Type} : Lit × DataW H → Nat
  | (.string bytes, d) => bytes.length + uptoBulk d + 1
  | (_, d) => uptoBulk d + 1
 end
def uptoSmall : (H : Type) → List (DataW H) → Bool := fun _ ds => decide (uptoBulkAll ds ≤ 1048576)
def OpenSpec.upto (s : _root_.Go.ChangeSpec) : _root_.Go.OpenSpec := { _root_.Go.OpenSpec.ofChange s with cond := some uptoSmall }

/-- 'astragallaw16.SortedStays', WHERE WHAT IT READS IS OF BULK AT MOST 1048576: true; the input reads as it did. -/
def sortedStaysUptoRow : OpenClaim := { program := "ythpoeljnmdjjiaa", sum := "45f2bc6222ab3264ec24f884911b7ab4c0a8e2cbe73e88ea64f9d96ffe9d3173", func := "astragal/astragallaw16.SortedStays", spec := "sortedStays", inPlace := ["math.Float64frombits"], unfollowed := true, recurses := true, apart := false, narrowed := true }
def SortedStaysUptoSaid : Prop := sortedStaysUptoRow.holds Try.pinned (OpenSpec.upto sortedStaysSpec)

/-- 'astragallaw16.SortedBags', WHERE WHAT IT READS IS OF BULK AT MOST 1048576: true; the input reads as it did. -/
def sortedBagsUptoRow : OpenClaim := { program := "ythpoeljnmdjjiaa", sum := "45f2bc6222ab3264ec24f884911b7ab4c0a8e2cbe73e88ea64f9d96ffe9d3173", func := "astragal/astragallaw16.SortedBags", spec := "sortedBags", inPlace := ["math.Float64frombits"], unfollowed := true, recurses := true, apart := false, narrowed := true }
def SortedBagsUptoSaid : Prop := sortedBagsUptoRow.holds Try.pinned (OpenSpec.upto sortedBagsSpec)

/-- 'astragallaw16.SortedMerges', WHERE WHAT IT READS IS OF BULK AT MOST 1048576: true; the input reads as it did. -/
def sortedMergesUptoRow : OpenClaim := { program := "ythpoeljnmdjjiaa", sum := "45f2bc6222ab3264ec24f884911b7ab4c0a8e2cbe73e88ea64f9d96ffe9d3173", func := "astragal/astragallaw16.SortedMerges", spec := "sortedMerges", inPlace := ["math.Float64frombits"], unfollowed := true, recurses := true, apart := false, narrowed := true }
def SortedMergesUptoSaid : Prop := sortedMergesUptoRow.holds Try.pinned (OpenSpec.upto sortedMergesSpec)

/-- 'astragallaw16.SortedNone', WHERE WHAT IT READS IS OF BULK AT MOST 1048576: true; the input reads as it did. -/
def sortedNoneUptoRow : OpenClaim := { program := "ythpoeljnmdjjiaa", sum := "45f2bc6222ab3264ec24f884911b7ab4c0a8e2cbe73e88ea64f9d96ffe9d3173", func := "astragal/astragallaw16.SortedNone", spec := "sortedNone", inPlace := ["math.Float64frombits"], unfollowed := true, recurses := true, apart := false, narrowed := true }
def SortedNoneUptoSaid : Prop := sortedNoneUptoRow.holds Try.pinned (OpenSpec.upto sortedNoneSpec)

/-- 'astragallaw16.SortedCols', WHERE WHAT IT READS IS OF BULK AT MOST 1048576: true; the input reads as it did. -/
def sortedColsUptoRow : OpenClaim := { program := "ythpoeljnmdjjiaa", sum := "45f2bc6222ab3264ec24f884911b7ab4c0a8e2cbe73e88ea64f9d96ffe9d3173", func := "astragal/astragallaw16.SortedCols", spec := "sortedCols", inPlace := ["math.Float64frombits"], unfollowed := true, recurses := true, apart := false, narrowed := true }
def SortedColsUptoSaid : Prop := sortedColsUptoRow.holds Try.pinned (OpenSpec.upto sortedColsSpec)

/-- 'astragallaw16.SortedRows', WHERE WHAT IT READS IS OF BULK AT MOST 1048576: true; the input reads as it did. -/
def sortedRowsUptoRow : OpenClaim := { program := "ythpoeljnmdjjiaa", sum := "45f2bc6222ab3264ec24f884911b7ab4c0a8e2cbe73e88ea64f9d96ffe9d3173", func := "astragal/astragallaw16.SortedRows", spec := "sortedRows", inPlace := ["math.Float64frombits"], unfollowed := true, recurses := true, apart := false, narrowed := true }
def SortedRowsUptoSaid : Prop := sortedRowsUptoRow.holds Try.pinned (OpenSpec.upto sortedRowsSpec)

end Rows
end Go.Proofs.Ythpoeljnmdjjiaa
