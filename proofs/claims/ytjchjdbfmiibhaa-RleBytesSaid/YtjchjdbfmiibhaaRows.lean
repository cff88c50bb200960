/-
  No cell of these rows narrows 'for every input' (looked for: loops, veiled, ifaces, maps, wideKeys, modest, calm, conditions, laid).
  DERIVED. THE GIVEN ROWS OF THIS SEAT. 11 by the template 'for every input the law returns true; each argument reads behind the call as it read before'; 0 by the template 'total and deterministic' (their statements: YtjchjdbfmiibhaaTotals.lean).
  GIVEN WITH THE SEED: the statements are not yours to turn. If you find one false, say at which input.
  Laid BY PROGRAM, IN A SANDBOX (cutbox-rows.mjs): the forced cells as the released guide's own fill.sh prints them over the translation 8eabd2a2af7f54da… (all of the seat's roots in one cut). By AI agents, Wed Nov 11 2026. No macro, syntax, notation, axiom, sorry.
-/
import Derived.Test.YtjchjdbfmiibhaaChecked
import GoSem.Claim
import GoSem.ClaimJoined
import GoSem.ClaimMapViews
import Derived.JoinedTies
import Derived.KernelRfl
namespace Go.Proofs.Ytjchjdbfmiibhaa
/- THE CELL 'sum', in the pinned program and in every row, IS THE sha256 OF THE DUMP (.gsa) THAT YtjchjdbfmiibhaaProg.lean LOADS. Nothing in Lean hashes anything: it is a label: what it is worth is what the hold of that sum in a sandbox is worth. -/
noncomputable def Try.pinned : Pinned := { name := "ytjchjdbfmiibhaa", sum := "8eabd2a2af7f54dafe25b84a7ca7b9d9b74e316bd00306a89c333fffa9254334", checked := Try.checked }
namespace Rows
def none {H : Type} : Left H := { results := [], args := [] }

/-- 'astragallaw07.PlainJoins': WHATEVER THE INPUT: true; the input reads as it did. -/
def plainJoinsSpec : ChangeSpec := { name := "plainJoins", fn := fun _ => fun
  | [d1, d2, d3] => { results := [.lit (.bool true)], args := [d1, d2, d3] }
  | _ => none }
def plainJoinsRow : OpenClaim := { program := "ytjchjdbfmiibhaa", sum := "8eabd2a2af7f54dafe25b84a7ca7b9d9b74e316bd00306a89c333fffa9254334", func := "astragal/astragallaw07.PlainJoins", spec := "plainJoins", inPlace := ["math.Float64frombits"], unfollowed := true, recurses := true, apart := false }
def PlainJoinsSaid : Prop := plainJoinsRow.holds Try.pinned (OpenSpec.ofChange plainJoinsSpec)

/-- ITS FALSE NEIGHBOUR: 'it returns false'. Refute it at one input. -/
def plainJoinsWrong : ChangeSpec := { name := "plainJoins", fn := fun _ => fun
  | [d1, d2, d3] => { results := [.lit (.bool false)], args := [d1, d2, d3] }
  | _ => none }
def PlainJoinsWrongFalsely : Prop := plainJoinsRow.holds Try.pinned (OpenSpec.ofChange plainJoinsWrong)

/-- 'astragallaw07.PlainKinds': WHATEVER THE INPUT: true; the input reads as it did. -/
def plainKindsSpec : ChangeSpec := { name := "plainKinds", fn := fun _ => fun
  | [d1, d2, d3] => { results := [.lit (.bool true)], args := [d1, d2, d3] }
  | _ => none }
def plainKindsRow : OpenClaim := { program := "ytjchjdbfmiibhaa", sum := "8eabd2a2af7f54dafe25b84a7ca7b9d9b74e316bd00306a89c333fffa9254334", func := "astragal/astragallaw07.PlainKinds", spec := "plainKinds", inPlace := ["math.Float64frombits"], unfollowed := true, recurses := true, apart := false }
def PlainKindsSaid : Prop := plainKindsRow.holds Try.pinned (OpenSpec.ofChange plainKindsSpec)

/-- ITS FALSE NEIGHBOUR: 'it returns false'. Refute it at one input. -/
def plainKindsWrong : ChangeSpec := { name := "plainKinds", fn := fun _ => fun
  | [d1, d2, d3] => { results := [.lit (.bool false)], args := [d1, d2, d3] }
  | _ => none }
def PlainKindsWrongFalsely : Prop := plainKindsRow.holds Try.pinned (OpenSpec.ofChange plainKindsWrong)

/-- 'astragallaw07.PlainBytes': WHATEVER THE INPUT: true; the input reads as it did. -/
def plainBytesSpec : ChangeSpec := { name := "plainBytes", fn := fun _ => fun
  | [d1, d2, d3, d4] => { results := [.lit (.bool true)], args := [d1, d2, d3, d4] }
  | _ => none }
def plainBytesRow : OpenClaim := { program := "ytjchjdbfmiibhaa", sum := "8eabd2a2af7f54dafe25b84a7ca7b9d9b74e316bd00306a89c333fffa9254334", func := "astragal/astragallaw07.PlainBytes", spec := "plainBytes", inPlace := ["math.Float64frombits"], unfollowed := true, recurses := true, apart := false }
def PlainBytesSaid : Prop := plainBytesRow.holds Try.pinned (OpenSpec.ofChange plainBytesSpec)

/-- ITS FALSE NEIGHBOUR: 'it returns false'. Refute it at one input. -/
def plainBytesWrong : ChangeSpec := { name := "plainBytes", fn := fun _ => fun
  | [d1, d2, d3, d4] => { results := [.lit (.bool false)], args := [d1, d2, d3, d4] }
  | _ => none }
def PlainBytesWrongFalsely : Prop := plainBytesRow.holds Try.pinned (OpenSpec.ofChange plainBytesWrong)

/-- 'astragallaw07.PlainBack': WHATEVER THE INPUT: true; the input reads as it did. -/
def plainBackSpec : ChangeSpec := { name := "plainBack", fn := fun _ => fun
  | [d1, d2, d3, d4] => { results := [.lit (.bool true)], args := [d1, d2, d3, d4] }
  | _ => none }
def plainBackRow : OpenClaim := { program := "ytjchjdbfmiibhaa", sum := "8eabd2a2af7f54dafe25b84a7ca7b9d9b74e316bd00306a89c333fffa9254334", func := "astragal/astragallaw07.PlainBack", spec := "plainBack", inPlace := ["math.Float64frombits"], unfollowed := true, recurses := true, apart := false }
def PlainBackSaid : Prop := plainBackRow.holds Try.pinned (OpenSpec.ofChange plainBackSpec)

/-- ITS FALSE NEIGHBOUR: 'it returns false'. Refute it at one input. -/
def plainBackWrong : ChangeSpec := { name := "plainBack", fn := fun _ => fun
  | [d1, d2, d3, d4] => { results := [.lit (.bool false)], args := [d1, d2, d3, d4] }
  | _ => none }
def PlainBackWrongFalsely : Prop := plainBackRow.holds Try.pinned (OpenSpec.ofChange plainBackWrong)

/-- 'astragallaw07.PlainCuts': WHATEVER THE INPUT: true; the input reads as it did. -/
def plainCutsSpec : ChangeSpec := { name := "plainCuts", fn := fun _ => fun
  | [d1, d2, d3] => { results := [.lit (.bool true)], args := [d1, d2, d3] }
  | _ => none }
def plainCutsRow : OpenClaim := { program := "ytjchjdbfmiibhaa", sum := "8eabd2a2af7f54dafe25b84a7ca7b9d9b74e316bd00306a89c333fffa9254334", func := "astragal/astragallaw07.PlainCuts", spec := "plainCuts", inPlace := ["math.Float64frombits"], unfollowed := true, recurses := true, apart := false }
def PlainCutsSaid : Prop := plainCutsRow.holds Try.pinned (OpenSpec.ofChange plainCutsSpec)

/-- ITS FALSE NEIGHBOUR: 'it returns false'. Refute it at one input. -/
def plainCutsWrong : ChangeSpec := { name := "plainCuts", fn := fun _ => fun
  | [d1, d2, d3] => { results := [.lit (.bool false)], args := [d1, d2, d3] }
  | _ => none }
def PlainCutsWrongFalsely : Prop := plainCutsRow.holds Try.pinned (OpenSpec.ofChange plainCutsWrong)

/-- 'astragallaw08.RleMany': WHATEVER THE INPUT: true; the input reads as it did. -/
def rleManySpec : ChangeSpec := { name := "rleMany", fn := fun _ => fun
  | [d1, d2] => { results := [.lit (.bool true)], args := [d1, d2] }
  | _ => none }
def rleManyRow : OpenClaim := { program := "ytjchjdbfmiibhaa", sum := "8eabd2a2af7f54dafe25b84a7ca7b9d9b74e316bd00306a89c333fffa9254334", func := "astragal/astragallaw08.RleMany", spec := "rleMany", inPlace := ["math.Float64frombits"], unfollowed := true, recurses := true, apart := false }
def RleManySaid : Prop := rleManyRow.holds Try.pinned (OpenSpec.ofChange rleManySpec)

/-- ITS FALSE NEIGHBOUR: 'it returns false'. Refute it at one input. -/
def rleManyWrong : ChangeSpec := { name := "rleMany", fn := fun _ => fun
  | [d1, d2] => { results := [.lit (.bool false)], args := [d1, d2] }
  | _ => none }
def RleManyWrongFalsely : Prop := rleManyRow.holds Try.pinned (OpenSpec.ofChange rleManyWrong)

/-- 'astragallaw08.RleJoins': WHATEVER THE INPUT: true; the input reads as it did. -/
def rleJoinsSpec : ChangeSpec := { name := "rleJoins", fn := fun _ => fun
  | [d1, d2] => { results := [.lit (.bool true)], args := [d1, d2] }
  | _ => none }
def rleJoinsRow : OpenClaim := { program := "ytjchjdbfmiibhaa", sum := "8eabd2a2af7f54dafe25b84a7ca7b9d9b74e316bd00306a89c333fffa9254334", func := "astragal/astragallaw08.RleJoins", spec := "rleJoins", inPlace := ["math.Float64frombits"], unfollowed := true, recurses := true, apart := false }
def RleJoinsSaid : Prop := rleJoinsRow.holds Try.pinned (OpenSpec.ofChange rleJoinsSpec)

/-- ITS FALSE NEIGHBOUR: 'it returns false'. Refute it at one input. -/
def rleJoinsWrong : ChangeSpec := { name := "rleJoins", fn := fun _ => fun
  | [d1, d2] => { results := [.lit (.bool false)], args := [d1, d2] }
  | _ => none }
def RleJoinsWrongFalsely : Prop := rleJoinsRow.holds Try.pinned (OpenSpec.ofChange rleJoinsWrong)

/-- 'astragallaw08.RleRuns': WHATEVER THE INPUT: true; the input reads as it did. -/
def rleRunsSpec : ChangeSpec := { name := "rleRuns", fn := fun _ => fun
  | [d] => { results := [.lit (.bool true)], args := [d] }
  | _ => none }
def rleRunsRow : OpenClaim := { program := "ytjchjdbfmiibhaa", sum := "8eabd2a2af7f54dafe25b84a7ca7b9d9b74e316bd00306a89c333fffa9254334", func := "astragal/astragallaw08.RleRuns", spec := "rleRuns", inPlace := ["math.Float64frombits"], unfollowed := true, recurses := true, apart := false }
def RleRunsSaid : Prop := rleRunsRow.holds Try.pinned (OpenSpec.ofChange rleRunsSpec)

/-- ITS FALSE NEIGHBOUR: 'it returns false'. Refute it at one input. -/
def rleRunsWrong : ChangeSpec := { name := "rleRuns", fn := fun _ => fun
  | [d] => { results := [.lit (.bool false)], args := [d] }
  | _ => none }
def RleRunsWrongFalsely : Prop := rleRunsRow.holds Try.pinned (OpenSpec.ofChange rleRunsWrong)

/-- 'astragallaw08.RleSorted': WHATEVER THE INPUT: true; the input reads as it did. -/
def rleSortedSpec : ChangeSpec := { name := "rleSorted", fn := fun _ => fun
  | [d] => { results := [.lit (.bool true)], args := [d] }
  | _ => none }
def rleSortedRow : OpenClaim := { program := "ytjchjdbfmiibhaa", sum := "8eabd2a2af7f54dafe25b84a7ca7b9d9b74e316bd00306a89c333fffa9254334", func := "astragal/astragallaw08.RleSorted", spec := "rleSorted", inPlace := ["math.Float64frombits"], unfollowed := true, recurses := true, apart := false }
def RleSortedSaid : Prop := rleSortedRow.holds Try.pinned (OpenSpec.ofChange rleSortedSpec)

/-- ITS FALSE NEIGHBOUR: 'it returns false'. Refute it at one input. -/
def rleSortedWrong : ChangeSpec := { name := "rleSorted", fn := fun _ => fun
  | [d] => { results := [.lit (.bool false)], args := [d] }
  | _ => none }
def RleSortedWrongFalsely : Prop := rleSortedRow.holds Try.pinned (OpenSpec.ofChange rleSortedWrong)

/-- 'astragallaw08.RleBytes': WHATEVER THE INPUT: true; the input reads as it did. -/
def rleBytesSpec : ChangeSpec := { name := "rleBytes", fn := fun _ => fun
  | [d1, d2, d3, d4] => { results := [.lit (.bool true)], args := [d1, d2, d3, d4] }
  | _ => none }
def rleBytesRow : OpenClaim := { program := "ytjchjdbfmiibhaa", sum := "8eabd2a2af7f54dafe25b84a7ca7b9d9b74e316bd00306a89c333fffa9254334", func := "astragal/astragallaw08.RleBytes", spec := "rleBytes", inPlace := ["math.Float64frombits"], unfollowed := true, recurses := true, apart := false }
def RleBytesSaid : Prop := rleBytesRow.holds Try.pinned (OpenSpec.ofChange rleBytesSpec)

/-- ITS FALSE NEIGHBOUR: 'it returns false'. Refute it at one input. -/
def rleBytesWrong : ChangeSpec := { name := "rleBytes", fn := fun _ => fun
  | [d1, d2, d3, d4] => { results := [.lit (.bool false)], args := [d1, d2, d3, d4] }
  | _ => none }
def RleBytesWrongFalsely : Prop := rleBytesRow.holds Try.pinned (OpenSpec.ofChange rleBytesWrong)

/-- 'astragallaw08.RleBack': WHATEVER THE INPUT: true; the input reads as it did. -/
def rleBackSpec : ChangeSpec := { name := "rleBack", fn := fun _ => fun
  | [d1, d2, d3, d4] => { results := [.lit (.bool true)], args := [d1, d2, d3, d4] }
  | _ => none }
def rleBackRow : OpenClaim := { program := "ytjchjdbfmiibhaa", sum := "8eabd2a2af7f54dafe25b84a7ca7b9d9b74e316bd00306a89c333fffa9254334", func := "astragal/astragallaw08.RleBack", spec := "rleBack", inPlace := ["math.Float64frombits"], unfollowed := true, recurses := true, apart := false }
def RleBackSaid : Prop := rleBackRow.holds Try.pinned (OpenSpec.ofChange rleBackSpec)

/-- ITS FALSE NEIGHBOUR: 'it returns false'. Refute it at one input. -/
def rleBackWrong : ChangeSpec := { name := "rleBack", fn := fun _ => fun
  | [d1, d2, d3, d4] => { results := [.lit (.bool false)], args := [d1, d2, d3, d4] }
  | _ => none }
def RleBackWrongFalsely : Prop := rleBackRow.holds Try.pinned (OpenSpec.ofChange rleBackWrong)

/- THE SECOND FORM. 'bulk': how many values and letters a reading holds, each counted each time it is reached (what is shared counts as often as it is met; a slice's spare places count too). A statement '..UptoSaid' is the law's where the arguments, and the package variables that the reading takes, are together of bulk at most 1048576: NARROWER than '..Said'. Prove '..Said' where nothing that the law and all that it calls make is longer than what came in: it says more and counts as full. Else prove '..UptoSaid'. A law counts once. -/
mutual
def uptoBulk {H : Type} : DataW H → Nat
  | .lit (.string bytes) => bytes.length + 1
  | .lit _ => 1
  | .nil => 1
  | .ptr d => uptoBulk d + 1
  | .slice elems spare => uptoBulkAll elems + uptoBulkAll spare + 1
  | .agg parts => uptoBulkAll parts + 1
  | .iface _ d => uptoBulk d + 1
  | .map entries => uptoBulkEntries entries + 1
  | .held _ => 1
def uptoBulkAll {H : Type} : List (DataW H) → Nat
  | [] => 0
  | d :: r => uptoBulk d + uptoBulkAll r
def uptoBulkEntries {H : Type} : List (Lit × DataW H) → Nat
  | [] => 0
  | x :: r => uptoBulkEntry x + uptoBulkEntries r
def uptoBulkEntry {H : Type} : Lit × DataW H → Nat
  | (.string bytes, d) => bytes.length + uptoBulk d + 1
  | (_, d) => uptoBulk d + 1
 end
def uptoSmall : (H : Type) → List (DataW H) → Bool := fun _ ds => decide (uptoBulkAll ds ≤ 1048576)
def OpenSpec.upto (s : _root_.Go.ChangeSpec) : _root_.Go.OpenSpec := { _root_.Go.OpenSpec.ofChange s with cond := some uptoSmall }

/-- 'astragallaw07.PlainJoins', WHERE WHAT IT READS IS OF BULK AT MOST 1048576: true; the input reads as it did. -/
def plainJoinsUptoRow : OpenClaim := { program := "ytjchjdbfmiibhaa", sum := "8eabd2a2af7f54dafe25b84a7ca7b9d9b74e316bd00306a89c333fffa9254334", func := "astragal/astragallaw07.PlainJoins", spec := "plainJoins", inPlace := ["math.Float64frombits"], unfollowed := true, recurses := true, apart := false, narrowed := true }
def PlainJoinsUptoSaid : Prop := plainJoinsUptoRow.holds Try.pinned (OpenSpec.upto plainJoinsSpec)

/-- 'astragallaw07.PlainKinds', WHERE WHAT IT READS IS OF BULK AT MOST 1048576: true; the input reads as it did. -/
def plainKindsUptoRow : OpenClaim := { program := "ytjchjdbfmiibhaa", sum := "8eabd2a2af7f54dafe25b84a7ca7b9d9b74e316bd00306a89c333fffa9254334", func := "astragal/astragallaw07.PlainKinds", spec := "plainKinds", inPlace := ["math.Float64frombits"], unfollowed := true, recurses := true, apart := false, narrowed := true }
def PlainKindsUptoSaid : Prop := plainKindsUptoRow.holds Try.pinned (OpenSpec.upto plainKindsSpec)

/-- 'astragallaw07.PlainBytes', WHERE WHAT IT READS IS OF BULK AT MOST 1048576: true; the input reads as it did. -/
def plainBytesUptoRow : OpenClaim := { program := "ytjchjdbfmiibhaa", sum := "8eabd2a2af7f54dafe25b84a7ca7b9d9b74e316bd00306a89c333fffa9254334", func := "astragal/astragallaw07.PlainBytes", spec := "plainBytes", inPlace := ["math.Float64frombits"], unfollowed := true, recurses := true, apart := false, narrowed := true }
def PlainBytesUptoSaid : Prop := plainBytesUptoRow.holds Try.pinned (OpenSpec.upto plainBytesSpec)

/-- 'astragallaw07.PlainBack', WHERE WHAT IT READS IS OF BULK AT MOST 1048576: true; the input reads as it did. -/
def plainBackUptoRow : OpenClaim := { program := "ytjchjdbfmiibhaa", sum := "8eabd2a2af7f54dafe25b84a7ca7b9d9b74e316bd00306a89c333fffa9254334", func := "astragal/astragallaw07.PlainBack", spec := "plainBack", inPlace := ["math.Float64frombits"], unfollowed := true, recurses := true, apart := false, narrowed := true }
def PlainBackUptoSaid : Prop := plainBackUptoRow.holds Try.pinned (OpenSpec.upto plainBackSpec)

/-- 'astragallaw07.PlainCuts', WHERE WHAT IT READS IS OF BULK AT MOST 1048576: true; the input reads as it did. -/
def plainCutsUptoRow : OpenClaim := { program := "ytjchjdbfmiibhaa", sum := "8eabd2a2af7f54dafe25b84a7ca7b9d9b74e316bd00306a89c333fffa9254334", func := "astragal/astragallaw07.PlainCuts", spec := "plainCuts", inPlace := ["math.Float64frombits"], unfollowed := true, recurses := true, apart := false, narrowed := true }
def PlainCutsUptoSaid : Prop := plainCutsUptoRow.holds Try.pinned (OpenSpec.upto plainCutsSpec)

/-- 'astragallaw08.RleMany', WHERE WHAT IT READS IS OF BULK AT MOST 1048576: true; the input reads as it did. -/
def rleManyUptoRow : OpenClaim := { program := "ytjchjdbfmiibhaa", sum := "8eabd2a2af7f54dafe25b84a7ca7b9d9b74e316bd00306a89c333fffa9254334", func := "astragal/astragallaw08.RleMany", spec := "rleMany", inPlace := ["math.Float64frombits"], unfollowed := true, recurses := true, apart := false, narrowed := true }
def RleManyUptoSaid : Prop := rleManyUptoRow.holds Try.pinned (OpenSpec.upto rleManySpec)

/-- 'astragallaw08.RleJoins', WHERE WHAT IT READS IS OF BULK AT MOST 1048576: true; the input reads as it did. -/
def rleJoinsUptoRow : OpenClaim := { program := "ytjchjdbfmiibhaa", sum := "8eabd2a2af7f54dafe25b84a7ca7b9d9b74e316bd00306a89c333fffa9254334", func := "astragal/astragallaw08.RleJoins", spec := "rleJoins", inPlace := ["math.Float64frombits"], unfollowed := true, recurses := true, apart := false, narrowed := true }
def RleJoinsUptoSaid : Prop := rleJoinsUptoRow.holds Try.pinned (OpenSpec.upto rleJoinsSpec)

/-- 'astragallaw08.RleRuns', WHERE WHAT IT READS IS OF BULK AT MOST 1048576: true; the input reads as it did. -/
def rleRunsUptoRow : OpenClaim := { program := "ytjchjdbfmiibhaa", sum := "8eabd2a2af7f54dafe25b84a7ca7b9d9b74e316bd00306a89c333fffa9254334", func := "astragal/astragallaw08.RleRuns", spec := "rleRuns", inPlace := ["math.Float64frombits"], unfollowed := true, recurses := true, apart := false, narrowed := true }
def RleRunsUptoSaid : Prop := rleRunsUptoRow.holds Try.pinned (OpenSpec.upto rleRunsSpec)

/-- 'astragallaw08.RleSorted', WHERE WHAT IT READS IS OF BULK AT MOST 1048576: true; the input reads as it did. -/
def rleSortedUptoRow : OpenClaim := { program := "ytjchjdbfmiibhaa", sum := "8eabd2a2af7f54dafe25b84a7ca7b9d9b74e316bd00306a89c333fffa9254334", func := "astragal/astragallaw08.RleSorted", spec := "rleSorted", inPlace := ["math.Float64frombits"], unfollowed := true, recurses := true, apart := false, narrowed := true }
def RleSortedUptoSaid : Prop := rleSortedUptoRow.holds Try.pinned (OpenSpec.upto rleSortedSpec)

/-- 'astragallaw08.RleBytes', WHERE WHAT IT READS IS OF BULK AT MOST 1048576: true; the input reads as it did. -/
def rleBytesUptoRow : OpenClaim := { program := "ytjchjdbfmiibhaa", sum := "8eabd2a2af7f54dafe25b84a7ca7b9d9b74e316bd00306a89c333fffa9254334", func := "astragal/astragallaw08.RleBytes", spec := "rleBytes", inPlace := ["math.Float64frombits"], unfollowed := true, recurses := true, apart := false, narrowed := true }
def RleBytesUptoSaid : Prop := rleBytesUptoRow.holds Try.pinned (OpenSpec.upto rleBytesSpec)

/-- 'astragallaw08.RleBack', WHERE WHAT IT READS IS OF BULK AT MOST 1048576: true; the input reads as it did. -/
def rleBackUptoRow : OpenClaim := { program := "ytjchjdbfmiibhaa", sum := "8eabd2a2af7f54dafe25b84a7ca7b9d9b74e316bd00306a89c333fffa9254334", func := "astragal/astragallaw08.RleBack", spec := "rleBack", inPlace := ["math.Float64frombits"], unfollowed := true, recurses := true, apart := false, narrowed := true }
def RleBackUptoSaid : Prop := rleBackUptoRow.holds Try.pinned (OpenSpec.upto rleBackSpec)

end Rows
end Go.Proofs.Ytjchjdbfmiibhaa
