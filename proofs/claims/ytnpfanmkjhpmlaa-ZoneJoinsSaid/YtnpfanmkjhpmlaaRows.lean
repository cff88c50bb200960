/-
  No cell of these rows narrows 'for every input' (looked for: loops, veiled, ifaces, maps, wideKeys, modest, calm, conditions, laid).
  DERIVED. THE GIVEN ROWS OF THIS SEAT. 5 by the template 'for every input the law returns true; each argument reads behind the call as it read before'; 0 by the template 'total and deterministic' (their statements: YtnpfanmkjhpmlaaTotals.lean).
  GIVEN WITH THE SEED: the statements are not yours to turn. If you find one false, say at which input.
  Laid BY PROGRAM, IN A SANDBOX (cutbox-rows.mjs): the forced cells as the released guide's own fill.sh prints them over the translation 67a3f6bda6fc749a… (all of the seat's roots in one cut). By AI agents, Wed Nov 11 2026. No macro, syntax, notation, axiom, sorry.
-/
import Derived.Test.YtnpfanmkjhpmlaaChecked
import GoSem.Claim
import GoSem.ClaimJoined
import GoSem.ClaimMapViews
import Derived.JoinedTies
import Derived.KernelRfl
namespace Go.Proofs.Ytnpfanmkjhpmlaa
/- THE CELL 'sum', in the pinned program and in every row, IS THE sha256 OF THE DUMP (.gsa) THAT YtnpfanmkjhpmlaaProg.lean LOADS. Nothing in Lean hashes anything: it is a label: what it is worth is what the hold of that sum in a sandbox is worth. -/
noncomputable def Try.pinned : Pinned := { name := "ytnpfanmkjhpmlaa", sum := "67a3f6bda6fc749a9b5fe1d1328a0055a5bf563048bd8fd85fa306d9fe40d928", checked := Try.checked }
namespace Rows
def none {H : Type} : Left H := { results := [], args := [] }

/-- 'astragallaw14.ZoneTrue': WHATEVER THE INPUT: true; the input reads as it did. -/
def zoneTrueSpec : ChangeSpec := { name := "zoneTrue", fn := fun _ => fun
  | [d1, d2, d3] => { results := [.lit (.bool true)], args := [d1, d2, d3] }
  | _ => none }
def zoneTrueRow : OpenClaim := { program := "ytnpfanmkjhpmlaa", sum := "67a3f6bda6fc749a9b5fe1d1328a0055a5bf563048bd8fd85fa306d9fe40d928", func := "astragal/astragallaw14.ZoneTrue", spec := "zoneTrue", inPlace := ["math.Float64frombits"], apart := false }
def ZoneTrueSaid : Prop := zoneTrueRow.holds Try.pinned (OpenSpec.ofChange zoneTrueSpec)

/-- ITS FALSE NEIGHBOUR: 'it returns false'. Refute it at one input. -/
def zoneTrueWrong : ChangeSpec := { name := "zoneTrue", fn := fun _ => fun
  | [d1, d2, d3] => { results := [.lit (.bool false)], args := [d1, d2, d3] }
  | _ => none }
def ZoneTrueWrongFalsely : Prop := zoneTrueRow.holds Try.pinned (OpenSpec.ofChange zoneTrueWrong)

/-- 'astragallaw14.ZoneOnes': WHATEVER THE INPUT: true; the input reads as it did. -/
def zoneOnesSpec : ChangeSpec := { name := "zoneOnes", fn := fun _ => fun
  | [d1, d2] => { results := [.lit (.bool true)], args := [d1, d2] }
  | _ => none }
def zoneOnesRow : OpenClaim := { program := "ytnpfanmkjhpmlaa", sum := "67a3f6bda6fc749a9b5fe1d1328a0055a5bf563048bd8fd85fa306d9fe40d928", func := "astragal/astragallaw14.ZoneOnes", spec := "zoneOnes", inPlace := ["math.Float64frombits"], apart := false }
def ZoneOnesSaid : Prop := zoneOnesRow.holds Try.pinned (OpenSpec.ofChange zoneOnesSpec)

/-- ITS FALSE NEIGHBOUR: 'it returns false'. Refute it at one input. -/
def zoneOnesWrong : ChangeSpec := { name := "zoneOnes", fn := fun _ => fun
  | [d1, d2] => { results := [.lit (.bool false)], args := [d1, d2] }
  | _ => none }
def ZoneOnesWrongFalsely : Prop := zoneOnesRow.holds Try.pinned (OpenSpec.ofChange zoneOnesWrong)

/-- 'astragallaw14.ZoneJoins': WHATEVER THE INPUT: true; the input reads as it did. -/
def zoneJoinsSpec : ChangeSpec := { name := "zoneJoins", fn := fun _ => fun
  | [d1, d2, d3, d4] => { results := [.lit (.bool true)], args := [d1, d2, d3, d4] }
  | _ => none }
def zoneJoinsRow : OpenClaim := { program := "ytnpfanmkjhpmlaa", sum := "67a3f6bda6fc749a9b5fe1d1328a0055a5bf563048bd8fd85fa306d9fe40d928", func := "astragal/astragallaw14.ZoneJoins", spec := "zoneJoins", inPlace := ["math.Float64frombits"], apart := false }
def ZoneJoinsSaid : Prop := zoneJoinsRow.holds Try.pinned (OpenSpec.ofChange zoneJoinsSpec)

/-- ITS FALSE NEIGHBOUR: 'it returns false'. Refute it at one input. -/
def zoneJoinsWrong : ChangeSpec := { name := "zoneJoins", fn := fun _ => fun
  | [d1, d2, d3, d4] => { results := [.lit (.bool false)], args := [d1, d2, d3, d4] }
  | _ => none }
def ZoneJoinsWrongFalsely : Prop := zoneJoinsRow.holds Try.pinned (OpenSpec.ofChange zoneJoinsWrong)

/-- 'astragallaw14.ZoneBare': WHATEVER THE INPUT: true; the input reads as it did. -/
def zoneBareSpec : ChangeSpec := { name := "zoneBare", fn := fun _ => fun
  | [d1, d2] => { results := [.lit (.bool true)], args := [d1, d2] }
  | _ => none }
def zoneBareRow : OpenClaim := { program := "ytnpfanmkjhpmlaa", sum := "67a3f6bda6fc749a9b5fe1d1328a0055a5bf563048bd8fd85fa306d9fe40d928", func := "astragal/astragallaw14.ZoneBare", spec := "zoneBare", inPlace := ["math.Float64frombits"], apart := false }
def ZoneBareSaid : Prop := zoneBareRow.holds Try.pinned (OpenSpec.ofChange zoneBareSpec)

/-- ITS FALSE NEIGHBOUR: 'it returns false'. Refute it at one input. -/
def zoneBareWrong : ChangeSpec := { name := "zoneBare", fn := fun _ => fun
  | [d1, d2] => { results := [.lit (.bool false)], args := [d1, d2] }
  | _ => none }
def ZoneBareWrongFalsely : Prop := zoneBareRow.holds Try.pinned (OpenSpec.ofChange zoneBareWrong)

/-- 'astragallaw14.ZoneRows': WHATEVER THE INPUT: true; the input reads as it did. -/
def zoneRowsSpec : ChangeSpec := { name := "zoneRows", fn := fun _ => fun
  | [d1, d2, d3] => { results := [.lit (.bool true)], args := [d1, d2, d3] }
  | _ => none }
def zoneRowsRow : OpenClaim := { program := "ytnpfanmkjhpmlaa", sum := "67a3f6bda6fc749a9b5fe1d1328a0055a5bf563048bd8fd85fa306d9fe40d928", func := "astragal/astragallaw14.ZoneRows", spec := "zoneRows", inPlace := ["math.Float64frombits"], apart := false }
def ZoneRowsSaid : Prop := zoneRowsRow.holds Try.pinned (OpenSpec.ofChange zoneRowsSpec)

/-- ITS FALSE NEIGHBOUR: 'it returns false'. Refute it at one input. -/
def zoneRowsWrong : ChangeSpec := { name := "zoneRows", fn := fun _ => fun
  | [d1, d2, d3] => { results := [.lit (.bool false)], args := [d1, d2, d3] }
  | _ => none }
def ZoneRowsWrongFalsely : Prop := zoneRowsRow.holds Try.pinned (OpenSpec.ofChange zoneRowsWrong)

/- THE SECOND FORM. 'bulk': how many values and letters a reading holds, each counted each time it is reached (what is shared counts as often as it is met; a slice's spare places count too). A statement '..UptoSaid' is the law's where the arguments, and the package variables that the reading takes, are together of bulk at most 1048576: NARROWER than '..Said'. Prove '..Said' where nothing that the law and all that it calls make is longer than what came in: it says more and counts as full. Else prove '..UptoSaid'. A law counts once. -/
mutual
def uptoBulk {H : Type} : DataW H → Nat
  | .lit (.string bytes) => bytes.length + 1
  | .lit _ => 1
  | .nil => 1
  | .ptr d => uptoBulk d + 1
  | .slice elems spare => uptoBulkAll elems + uptoBulkAll spare + 1
  | .agg parts => uptoBulkAll parts + 1
  | .iface _ d => uptoBulk d + 1
  | .map entries => uptoBulkEntries entries + 1
  | .held _ => 1
def uptoBulkAll {H : Type} : List (DataW H) → Nat
  | [] => 0
  | d :: r => uptoBulk d + uptoBulkAll r
def uptoBulkEntries {H : Type} : List (Lit × DataW H) → Nat
  | [] => 0
  | x :: r => uptoBulkEntry x + uptoBulkEntries r
def uptoBulkEntry {H : Type} : Lit × DataW H → Nat
  | (.string bytes, d) => bytes.length + uptoBulk d + 1
  | (_, d) => uptoBulk d + 1
 end
def uptoSmall : (H : Type) → List (DataW H) → Bool := fun _ ds => decide (uptoBulkAll ds ≤ 1048576)
def OpenSpec.upto (s : _root_.Go.ChangeSpec) : _root_.Go.OpenSpec := { _root_.Go.OpenSpec.ofChange s with cond := some uptoSmall }

/-- 'astragallaw14.ZoneTrue', WHERE WHAT IT READS IS OF BULK AT MOST 1048576: true; the input reads as it did. -/
def zoneTrueUptoRow : OpenClaim := { program := "ytnpfanmkjhpmlaa", sum := "67a3f6bda6fc749a9b5fe1d1328a0055a5bf563048bd8fd85fa306d9fe40d928", func := "astragal/astragallaw14.ZoneTrue", spec := "zoneTrue", inPlace := ["math.Float64frombits"], apart := false, narrowed := true }
def ZoneTrueUptoSaid : Prop := zoneTrueUptoRow.holds Try.pinned (OpenSpec.upto zoneTrueSpec)

/-- 'astragallaw14.ZoneOnes', WHERE WHAT IT READS IS OF BULK AT MOST 1048576: true; the input reads as it did. -/
def zoneOnesUptoRow : OpenClaim := { program := "ytnpfanmkjhpmlaa", sum := "67a3f6bda6fc749a9b5fe1d1328a0055a5bf563048bd8fd85fa306d9fe40d928", func := "astragal/astragallaw14.ZoneOnes", spec := "zoneOnes", inPlace := ["math.Float64frombits"], apart := false, narrowed := true }
def ZoneOnesUptoSaid : Prop := zoneOnesUptoRow.holds Try.pinned (OpenSpec.upto zoneOnesSpec)

/-- 'astragallaw14.ZoneJoins', WHERE WHAT IT READS IS OF BULK AT MOST 1048576: true; the input reads as it did. -/
def zoneJoinsUptoRow : OpenClaim := { program := "ytnpfanmkjhpmlaa", sum := "67a3f6bda6fc749a9b5fe1d1328a0055a5bf563048bd8fd85fa306d9fe40d928", func := "astragal/astragallaw14.ZoneJoins", spec := "zoneJoins", inPlace := ["math.Float64frombits"], apart := false, narrowed := true }
def ZoneJoinsUptoSaid : Prop := zoneJoinsUptoRow.holds Try.pinned (OpenSpec.upto zoneJoinsSpec)

/-- 'astragallaw14.ZoneBare', WHERE WHAT IT READS IS OF BULK AT MOST 1048576: true; the input reads as it did. -/
def zoneBareUptoRow : OpenClaim := { program := "ytnpfanmkjhpmlaa", sum := "67a3f6bda6fc749a9b5fe1d1328a0055a5bf563048bd8fd85fa306d9fe40d928", func := "astragal/astragallaw14.ZoneBare", spec := "zoneBare", inPlace := ["math.Float64frombits"], apart := false, narrowed := true }
def ZoneBareUptoSaid : Prop := zoneBareUptoRow.holds Try.pinned (OpenSpec.upto zoneBareSpec)

/-- 'astragallaw14.ZoneRows', WHERE WHAT IT READS IS OF BULK AT MOST 1048576: true; the input reads as it did. -/
def zoneRowsUptoRow : OpenClaim := { program := "ytnpfanmkjhpmlaa", sum := "67a3f6bda6fc749a9b5fe1d1328a0055a5bf563048bd8fd85fa306d9fe40d928", func := "astragal/astragallaw14.ZoneRows", spec := "zoneRows", inPlace := ["math.Float64frombits"], apart := false, narrowed := true }
def ZoneRowsUptoSaid : Prop := zoneRowsUptoRow.holds Try.pinned (OpenSpec.upto zoneRowsSpec)

end Rows
end Go.Proofs.Ytnpfanmkjhpmlaa
