/-
  No cell of these rows narrows 'for every input' (looked for: loops, veiled, ifaces, maps, wideKeys, modest, calm, conditions, laid).
  DERIVED. THE GIVEN ROWS OF THIS SEAT. 7 by the template 'for every input the law returns true; each argument reads behind the call as it read before'; 0 by the template 'total and deterministic' (their statements: YtknkoeahcemmmaaTotals.lean).
  GIVEN WITH THE SEED: the statements are not yours to turn. If you find one false, say at which input.
  Laid BY PROGRAM, IN A SANDBOX (cutbox-rows.mjs): the forced cells as the released guide's own fill.sh prints them over the translation cdaefa5ce19cef05… (all of the seat's roots in one cut). By AI agents, Wed Nov 11 2026. No macro, syntax, notation, axiom, sorry.
-/
import Derived.Test.YtknkoeahcemmmaaChecked
import GoSem.Claim
import GoSem.ClaimJoined
import GoSem.ClaimMapViews
import Derived.JoinedTies
import Derived.KernelRfl
namespace Go.Proofs.Ytknkoeahcemmmaa
/- THE CELL 'sum', in the pinned program and in every row, IS THE sha256 OF THE DUMP (.gsa) THAT YtknkoeahcemmmaaProg.lean LOADS. Nothing in Lean hashes anything: it is a label: what it is worth is what the hold of that sum in a sandbox is worth. -/
noncomputable def Try.pinned : Pinned := { name := "ytknkoeahcemmmaa", sum := "cdaefa5ce19cef052bd8c81d0d1d40b0a6dd05575f8fa86d5448f1e47d40ec0c", checked := Try.checked }
namespace Rows
def none {H : Type} : Left H := { results := [], args := [] }

/-- 'astragallaw03.CrcSums': WHATEVER THE INPUT: true; the input reads as it did. -/
def crcSumsSpec : ChangeSpec := { name := "crcSums", fn := fun _ => fun
  | [d1, d2, d3] => { results := [.lit (.bool true)], args := [d1, d2, d3] }
  | _ => none }
def crcSumsRow : OpenClaim := { program := "ytknkoeahcemmmaa", sum := "cdaefa5ce19cef052bd8c81d0d1d40b0a6dd05575f8fa86d5448f1e47d40ec0c", func := "astragal/astragallaw03.CrcSums", spec := "crcSums", apart := false }
def CrcSumsSaid : Prop := crcSumsRow.holds Try.pinned (OpenSpec.ofChange crcSumsSpec)

/-- ITS FALSE NEIGHBOUR: 'it returns false'. Refute it at one input. -/
def crcSumsWrong : ChangeSpec := { name := "crcSums", fn := fun _ => fun
  | [d1, d2, d3] => { results := [.lit (.bool false)], args := [d1, d2, d3] }
  | _ => none }
def CrcSumsWrongFalsely : Prop := crcSumsRow.holds Try.pinned (OpenSpec.ofChange crcSumsWrong)

/-- 'astragallaw03.CrcJoins': WHATEVER THE INPUT: true; the input reads as it did. -/
def crcJoinsSpec : ChangeSpec := { name := "crcJoins", fn := fun _ => fun
  | [d1, d2, d3] => { results := [.lit (.bool true)], args := [d1, d2, d3] }
  | _ => none }
def crcJoinsRow : OpenClaim := { program := "ytknkoeahcemmmaa", sum := "cdaefa5ce19cef052bd8c81d0d1d40b0a6dd05575f8fa86d5448f1e47d40ec0c", func := "astragal/astragallaw03.CrcJoins", spec := "crcJoins", apart := false }
def CrcJoinsSaid : Prop := crcJoinsRow.holds Try.pinned (OpenSpec.ofChange crcJoinsSpec)

/-- ITS FALSE NEIGHBOUR: 'it returns false'. Refute it at one input. -/
def crcJoinsWrong : ChangeSpec := { name := "crcJoins", fn := fun _ => fun
  | [d1, d2, d3] => { results := [.lit (.bool false)], args := [d1, d2, d3] }
  | _ => none }
def CrcJoinsWrongFalsely : Prop := crcJoinsRow.holds Try.pinned (OpenSpec.ofChange crcJoinsWrong)

/-- 'astragallaw03.CrcTables': WHATEVER THE INPUT: true; the input reads as it did. -/
def crcTablesSpec : ChangeSpec := { name := "crcTables", fn := fun _ => fun
  | [d1, d2] => { results := [.lit (.bool true)], args := [d1, d2] }
  | _ => none }
def crcTablesRow : OpenClaim := { program := "ytknkoeahcemmmaa", sum := "cdaefa5ce19cef052bd8c81d0d1d40b0a6dd05575f8fa86d5448f1e47d40ec0c", func := "astragal/astragallaw03.CrcTables", spec := "crcTables", apart := false }
def CrcTablesSaid : Prop := crcTablesRow.holds Try.pinned (OpenSpec.ofChange crcTablesSpec)

/-- ITS FALSE NEIGHBOUR: 'it returns false'. Refute it at one input. -/
def crcTablesWrong : ChangeSpec := { name := "crcTables", fn := fun _ => fun
  | [d1, d2] => { results := [.lit (.bool false)], args := [d1, d2] }
  | _ => none }
def CrcTablesWrongFalsely : Prop := crcTablesRow.holds Try.pinned (OpenSpec.ofChange crcTablesWrong)

/-- 'astragallaw03.CrcBlocks': WHATEVER THE INPUT: true; the input reads as it did. -/
def crcBlocksSpec : ChangeSpec := { name := "crcBlocks", fn := fun _ => fun
  | [d1, d2] => { results := [.lit (.bool true)], args := [d1, d2] }
  | _ => none }
def crcBlocksRow : OpenClaim := { program := "ytknkoeahcemmmaa", sum := "cdaefa5ce19cef052bd8c81d0d1d40b0a6dd05575f8fa86d5448f1e47d40ec0c", func := "astragal/astragallaw03.CrcBlocks", spec := "crcBlocks", apart := false }
def CrcBlocksSaid : Prop := crcBlocksRow.holds Try.pinned (OpenSpec.ofChange crcBlocksSpec)

/-- ITS FALSE NEIGHBOUR: 'it returns false'. Refute it at one input. -/
def crcBlocksWrong : ChangeSpec := { name := "crcBlocks", fn := fun _ => fun
  | [d1, d2] => { results := [.lit (.bool false)], args := [d1, d2] }
  | _ => none }
def CrcBlocksWrongFalsely : Prop := crcBlocksRow.holds Try.pinned (OpenSpec.ofChange crcBlocksWrong)

/-- 'astragallaw03.CrcBack': WHATEVER THE INPUT: true; the input reads as it did. -/
def crcBackSpec : ChangeSpec := { name := "crcBack", fn := fun _ => fun
  | [d1, d2, d3] => { results := [.lit (.bool true)], args := [d1, d2, d3] }
  | _ => none }
def crcBackRow : OpenClaim := { program := "ytknkoeahcemmmaa", sum := "cdaefa5ce19cef052bd8c81d0d1d40b0a6dd05575f8fa86d5448f1e47d40ec0c", func := "astragal/astragallaw03.CrcBack", spec := "crcBack", apart := false }
def CrcBackSaid : Prop := crcBackRow.holds Try.pinned (OpenSpec.ofChange crcBackSpec)

/-- ITS FALSE NEIGHBOUR: 'it returns false'. Refute it at one input. -/
def crcBackWrong : ChangeSpec := { name := "crcBack", fn := fun _ => fun
  | [d1, d2, d3] => { results := [.lit (.bool false)], args := [d1, d2, d3] }
  | _ => none }
def CrcBackWrongFalsely : Prop := crcBackRow.holds Try.pinned (OpenSpec.ofChange crcBackWrong)

/-- 'astragallaw03.CrcTurned': WHATEVER THE INPUT: true; the input reads as it did. -/
def crcTurnedSpec : ChangeSpec := { name := "crcTurned", fn := fun _ => fun
  | [d1, d2, d3] => { results := [.lit (.bool true)], args := [d1, d2, d3] }
  | _ => none }
def crcTurnedRow : OpenClaim := { program := "ytknkoeahcemmmaa", sum := "cdaefa5ce19cef052bd8c81d0d1d40b0a6dd05575f8fa86d5448f1e47d40ec0c", func := "astragal/astragallaw03.CrcTurned", spec := "crcTurned", apart := false }
def CrcTurnedSaid : Prop := crcTurnedRow.holds Try.pinned (OpenSpec.ofChange crcTurnedSpec)

/-- ITS FALSE NEIGHBOUR: 'it returns false'. Refute it at one input. -/
def crcTurnedWrong : ChangeSpec := { name := "crcTurned", fn := fun _ => fun
  | [d1, d2, d3] => { results := [.lit (.bool false)], args := [d1, d2, d3] }
  | _ => none }
def CrcTurnedWrongFalsely : Prop := crcTurnedRow.holds Try.pinned (OpenSpec.ofChange crcTurnedWrong)

/-- 'astragallaw03.CrcMany': WHATEVER THE INPUT: true; the input reads as it did. -/
def crcManySpec : ChangeSpec := { name := "crcMany", fn := fun _ => fun
  | [d] => { results := [.lit (.bool true)], args := [d] }
  | _ => none }
def crcManyRow : OpenClaim := { program := "ytknkoeahcemmmaa", sum := "cdaefa5ce19cef052bd8c81d0d1d40b0a6dd05575f8fa86d5448f1e47d40ec0c", func := "astragal/astragallaw03.CrcMany", spec := "crcMany", apart := false }
def CrcManySaid : Prop := crcManyRow.holds Try.pinned (OpenSpec.ofChange crcManySpec)

/-- ITS FALSE NEIGHBOUR: 'it returns false'. Refute it at one input. -/
def crcManyWrong : ChangeSpec := { name := "crcMany", fn := fun _ => fun
  | [d] => { results := [.lit (.bool false)], args := [d] }
  | _ => none }
def CrcManyWrongFalsely : Prop := crcManyRow.holds Try.pinned (OpenSpec.ofChange crcManyWrong)

/- THE SECOND FORM. 'bulk': how many values and letters a reading holds, each counted each time it is reached (what is shared counts as often as it is met; a slice's spare places count too). A statement '..UptoSaid' is the law's where the arguments, and the package variables that the reading takes, are together of bulk at most 1048576: NARROWER than '..Said'. Prove '..Said' where nothing that the law and all that it calls make is longer than what came in: it says more and counts as full. Else prove '..UptoSaid'. A law counts once. -/
mutual
def uptoBulk {H : Type} : DataW H → Nat
  | .lit (.string bytes) => bytes.length + 1
  | .lit _ => 1
  | .nil => 1
  | .ptr d => uptoBulk d + 1
  | .slice elems spare => uptoBulkAll elems + uptoBulkAll spare + 1
  | .agg parts => uptoBulkAll parts + 1
  | .iface _ d => uptoBulk d + 1
  | .map entries => uptoBulkEntries entries + 1
  | .held _ => 1
def uptoBulkAll {H : Type} : List (DataW H) → Nat
  | [] => 0
  | d :: r => uptoBulk d + uptoBulkAll r
def uptoBulkEntries {H : Type} : List (Lit × DataW H) → Nat
  | [] => 0
  | x :: r => uptoBulkEntry x + uptoBulkEntries r
def uptoBulkEntry {H : Type} : Lit × DataW H → Nat
  | (.string bytes, d) => bytes.length + uptoBulk d + 1
  | (_, d) => uptoBulk d + 1
 end
def uptoSmall : (H : Type) → List (DataW H) → Bool := fun _ ds => decide (uptoBulkAll ds ≤ 1048576)
def OpenSpec.upto (s : _root_.Go.ChangeSpec) : _root_.Go.OpenSpec := { _root_.Go.OpenSpec.ofChange s with cond := some uptoSmall }

/-- 'astragallaw03.CrcSums', WHERE WHAT IT READS IS OF BULK AT MOST 1048576: true; the input reads as it did. -/
def crcSumsUptoRow : OpenClaim := { program := "ytknkoeahcemmmaa", sum := "cdaefa5ce19cef052bd8c81d0d1d40b0a6dd05575f8fa86d5448f1e47d40ec0c", func := "astragal/astragallaw03.CrcSums", spec := "crcSums", apart := false, narrowed := true }
def CrcSumsUptoSaid : Prop := crcSumsUptoRow.holds Try.pinned (OpenSpec.upto crcSumsSpec)

/-- 'astragallaw03.CrcJoins', WHERE WHAT IT READS IS OF BULK AT MOST 1048576: true; the input reads as it did. -/
def crcJoinsUptoRow : OpenClaim := { program := "ytknkoeahcemmmaa", sum := "cdaefa5ce19cef052bd8c81d0d1d40b0a6dd05575f8fa86d5448f1e47d40ec0c", func := "astragal/astragallaw03.CrcJoins", spec := "crcJoins", apart := false, narrowed := true }
def CrcJoinsUptoSaid : Prop := crcJoinsUptoRow.holds Try.pinned (OpenSpec.upto crcJoinsSpec)

/-- 'astragallaw03.CrcTables', WHERE WHAT IT READS IS OF BULK AT MOST 1048576: true; the input reads as it did. -/
def crcTablesUptoRow : OpenClaim := { program := "ytknkoeahcemmmaa", sum := "cdaefa5ce19cef052bd8c81d0d1d40b0a6dd05575f8fa86d5448f1e47d40ec0c", func := "astragal/astragallaw03.CrcTables", spec := "crcTables", apart := false, narrowed := true }
def CrcTablesUptoSaid : Prop := crcTablesUptoRow.holds Try.pinned (OpenSpec.upto crcTablesSpec)

/-- 'astragallaw03.CrcBlocks', WHERE WHAT IT READS IS OF BULK AT MOST 1048576: true; the input reads as it did. -/
def crcBlocksUptoRow : OpenClaim := { program := "ytknkoeahcemmmaa", sum := "cdaefa5ce19cef052bd8c81d0d1d40b0a6dd05575f8fa86d5448f1e47d40ec0c", func := "astragal/astragallaw03.CrcBlocks", spec := "crcBlocks", apart := false, narrowed := true }
def CrcBlocksUptoSaid : Prop := crcBlocksUptoRow.holds Try.pinned (OpenSpec.upto crcBlocksSpec)

/-- 'astragallaw03.CrcBack', WHERE WHAT IT READS IS OF BULK AT MOST 1048576: true; the input reads as it did. -/
def crcBackUptoRow : OpenClaim := { program := "ytknkoeahcemmmaa", sum := "cdaefa5ce19cef052bd8c81d0d1d40b0a6dd05575f8fa86d5448f1e47d40ec0c", func := "astragal/astragallaw03.CrcBack", spec := "crcBack", apart := false, narrowed := true }
def CrcBackUptoSaid : Prop := crcBackUptoRow.holds Try.pinned (OpenSpec.upto crcBackSpec)

/-- 'astragallaw03.CrcTurned', WHERE WHAT IT READS IS OF BULK AT MOST 1048576: true; the input reads as it did. -/
def crcTurnedUptoRow : OpenClaim := { program := "ytknkoeahcemmmaa", sum := "cdaefa5ce19cef052bd8c81d0d1d40b0a6dd05575f8fa86d5448f1e47d40ec0c", func := "astragal/astragallaw03.CrcTurned", spec := "crcTurned", apart := false, narrowed := true }
def CrcTurnedUptoSaid : Prop := crcTurnedUptoRow.holds Try.pinned (OpenSpec.upto crcTurnedSpec)

/-- 'astragallaw03.CrcMany', WHERE WHAT IT READS IS OF BULK AT MOST 1048576: true; the input reads as it did. -/
def crcManyUptoRow : OpenClaim := { program := "ytknkoeahcemmmaa", sum := "cdaefa5ce19cef052bd8c81d0d1d40b0a6dd05575f8fa86d5448f1e47d40ec0c", func := "astragal/astragallaw03.CrcMany", spec := "crcMany", apart := false, narrowed := true }
def CrcManyUptoSaid : Prop := crcManyUptoRow.holds Try.pinned (OpenSpec.upto crcManySpec)

end Rows
end Go.Proofs.Ytknkoeahcemmmaa
