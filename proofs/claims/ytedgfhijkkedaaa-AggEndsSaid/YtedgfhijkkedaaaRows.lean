/-
  No cell of these rows narrows 'for every input' (looked for: loops, veiled, ifaces, maps, wideKeys, modest, calm, conditions, laid).
  DERIVED. THE GIVEN ROWS OF THIS SEAT. 6 by the template 'for every input the law returns true; each argument reads behind the call as it read before'; 0 by the template 'total and deterministic' (their statements: YtedgfhijkkedaaaTotals.lean).
  GIVEN WITH THE SEED: the statements are not yours to turn. If you find one false, say at which input.
  Laid BY PROGRAM, IN A SANDBOX (cutbox-rows.mjs): the forced cells as the released guide's own fill.sh prints them over the translation 6c745e36a4f30c2d… (all of the seat's roots in one cut). By AI agents, Wed Nov 11 2026. No macro, syntax, notation, axiom, sorry.
-/
import Derived.Test.YtedgfhijkkedaaaChecked
import GoSem.Claim
import GoSem.ClaimJoined
import GoSem.ClaimMapViews
import Derived.JoinedTies
import Derived.KernelRfl
namespace Go.Proofs.Ytedgfhijkkedaaa
/- THE CELL 'sum', in the pinned program and in every row, IS THE sha256 OF THE DUMP (.gsa) THAT YtedgfhijkkedaaaProg.lean LOADS. Nothing in Lean hashes anything: it is a label: what it is worth is what the hold of that sum in a sandbox is worth. -/
noncomputable def Try.pinned : Pinned := { name := "ytedgfhijkkedaaa", sum := "6c745e36a4f30c2d9cdaed5636fe7ccc42c35b3c6437e3aabf7c1c05e488ccb5", checked := Try.checked }
namespace Rows
def none {H : Type} : Left H := { results := [], args := [] }

/-- 'astragallaw20.AggSums': WHATEVER THE INPUT: true; the input reads as it did. -/
def aggSumsSpec : ChangeSpec := { name := "aggSums", fn := fun _ => fun
  | [d1, d2, d3] => { results := [.lit (.bool true)], args := [d1, d2, d3] }
  | _ => none }
def aggSumsRow : OpenClaim := { program := "ytedgfhijkkedaaa", sum := "6c745e36a4f30c2d9cdaed5636fe7ccc42c35b3c6437e3aabf7c1c05e488ccb5", func := "astragal/astragallaw20.AggSums", spec := "aggSums", inPlace := ["math/bits.Add64"], apart := false }
def AggSumsSaid : Prop := aggSumsRow.holds Try.pinned (OpenSpec.ofChange aggSumsSpec)

/-- ITS FALSE NEIGHBOUR: 'it returns false'. Refute it at one input. -/
def aggSumsWrong : ChangeSpec := { name := "aggSums", fn := fun _ => fun
  | [d1, d2, d3] => { results := [.lit (.bool false)], args := [d1, d2, d3] }
  | _ => none }
def AggSumsWrongFalsely : Prop := aggSumsRow.holds Try.pinned (OpenSpec.ofChange aggSumsWrong)

/-- 'astragallaw20.AggSplits': WHATEVER THE INPUT: true; the input reads as it did. -/
def aggSplitsSpec : ChangeSpec := { name := "aggSplits", fn := fun _ => fun
  | [d1, d2, d3] => { results := [.lit (.bool true)], args := [d1, d2, d3] }
  | _ => none }
def aggSplitsRow : OpenClaim := { program := "ytedgfhijkkedaaa", sum := "6c745e36a4f30c2d9cdaed5636fe7ccc42c35b3c6437e3aabf7c1c05e488ccb5", func := "astragal/astragallaw20.AggSplits", spec := "aggSplits", inPlace := ["math/bits.Add64"], apart := false }
def AggSplitsSaid : Prop := aggSplitsRow.holds Try.pinned (OpenSpec.ofChange aggSplitsSpec)

/-- ITS FALSE NEIGHBOUR: 'it returns false'. Refute it at one input. -/
def aggSplitsWrong : ChangeSpec := { name := "aggSplits", fn := fun _ => fun
  | [d1, d2, d3] => { results := [.lit (.bool false)], args := [d1, d2, d3] }
  | _ => none }
def AggSplitsWrongFalsely : Prop := aggSplitsRow.holds Try.pinned (OpenSpec.ofChange aggSplitsWrong)

/-- 'astragallaw20.AggCounts': WHATEVER THE INPUT: true; the input reads as it did. -/
def aggCountsSpec : ChangeSpec := { name := "aggCounts", fn := fun _ => fun
  | [d1, d2] => { results := [.lit (.bool true)], args := [d1, d2] }
  | _ => none }
def aggCountsRow : OpenClaim := { program := "ytedgfhijkkedaaa", sum := "6c745e36a4f30c2d9cdaed5636fe7ccc42c35b3c6437e3aabf7c1c05e488ccb5", func := "astragal/astragallaw20.AggCounts", spec := "aggCounts", inPlace := ["math/bits.Add64", "math.Float64frombits"], unfollowed := true, recurses := true, apart := false }
def AggCountsSaid : Prop := aggCountsRow.holds Try.pinned (OpenSpec.ofChange aggCountsSpec)

/-- ITS FALSE NEIGHBOUR: 'it returns false'. Refute it at one input. -/
def aggCountsWrong : ChangeSpec := { name := "aggCounts", fn := fun _ => fun
  | [d1, d2] => { results := [.lit (.bool false)], args := [d1, d2] }
  | _ => none }
def AggCountsWrongFalsely : Prop := aggCountsRow.holds Try.pinned (OpenSpec.ofChange aggCountsWrong)

/-- 'astragallaw20.AggOrder': WHATEVER THE INPUT: true; the input reads as it did. -/
def aggOrderSpec : ChangeSpec := { name := "aggOrder", fn := fun _ => fun
  | [d1, d2, d3] => { results := [.lit (.bool true)], args := [d1, d2, d3] }
  | _ => none }
def aggOrderRow : OpenClaim := { program := "ytedgfhijkkedaaa", sum := "6c745e36a4f30c2d9cdaed5636fe7ccc42c35b3c6437e3aabf7c1c05e488ccb5", func := "astragal/astragallaw20.AggOrder", spec := "aggOrder", inPlace := ["math/bits.Add64", "math.Float64frombits"], unfollowed := true, recurses := true, apart := false }
def AggOrderSaid : Prop := aggOrderRow.holds Try.pinned (OpenSpec.ofChange aggOrderSpec)

/-- ITS FALSE NEIGHBOUR: 'it returns false'. Refute it at one input. -/
def aggOrderWrong : ChangeSpec := { name := "aggOrder", fn := fun _ => fun
  | [d1, d2, d3] => { results := [.lit (.bool false)], args := [d1, d2, d3] }
  | _ => none }
def AggOrderWrongFalsely : Prop := aggOrderRow.holds Try.pinned (OpenSpec.ofChange aggOrderWrong)

/-- 'astragallaw20.AggEnds': WHATEVER THE INPUT: true; the input reads as it did. -/
def aggEndsSpec : ChangeSpec := { name := "aggEnds", fn := fun _ => fun
  | [d1, d2] => { results := [.lit (.bool true)], args := [d1, d2] }
  | _ => none }
def aggEndsRow : OpenClaim := { program := "ytedgfhijkkedaaa", sum := "6c745e36a4f30c2d9cdaed5636fe7ccc42c35b3c6437e3aabf7c1c05e488ccb5", func := "astragal/astragallaw20.AggEnds", spec := "aggEnds", inPlace := ["math/bits.Add64", "math.Float64frombits"], unfollowed := true, recurses := true, apart := false }
def AggEndsSaid : Prop := aggEndsRow.holds Try.pinned (OpenSpec.ofChange aggEndsSpec)

/-- ITS FALSE NEIGHBOUR: 'it returns false'. Refute it at one input. -/
def aggEndsWrong : ChangeSpec := { name := "aggEnds", fn := fun _ => fun
  | [d1, d2] => { results := [.lit (.bool false)], args := [d1, d2] }
  | _ => none }
def AggEndsWrongFalsely : Prop := aggEndsRow.holds Try.pinned (OpenSpec.ofChange aggEndsWrong)

/-- 'astragallaw20.AggJoins': WHATEVER THE INPUT: true; the input reads as it did. -/
def aggJoinsSpec : ChangeSpec := { name := "aggJoins", fn := fun _ => fun
  | [d1, d2, d3] => { results := [.lit (.bool true)], args := [d1, d2, d3] }
  | _ => none }
def aggJoinsRow : OpenClaim := { program := "ytedgfhijkkedaaa", sum := "6c745e36a4f30c2d9cdaed5636fe7ccc42c35b3c6437e3aabf7c1c05e488ccb5", func := "astragal/astragallaw20.AggJoins", spec := "aggJoins", inPlace := ["math/bits.Add64", "math.Float64frombits"], unfollowed := true, recurses := true, apart := false }
def AggJoinsSaid : Prop := aggJoinsRow.holds Try.pinned (OpenSpec.ofChange aggJoinsSpec)

/-- ITS FALSE NEIGHBOUR: 'it returns false'. Refute it at one input. -/
def aggJoinsWrong : ChangeSpec := { name := "aggJoins", fn := fun _ => fun
  | [d1, d2, d3] => { results := [.lit (.bool false)], args := [d1, d2, d3] }
  | _ => none }
def AggJoinsWrongFalsely : Prop := aggJoinsRow.holds Try.pinned (OpenSpec.ofChange aggJoinsWrong)

/- THE SECOND FORM. 'bulk': how many values and letters a reading holds, each counted each time it is reached (what is shared counts as often as it is met; a slice's spare places count too). A statement '..UptoSaid' is the law's where the arguments, and the package variables that the reading takes, are together of bulk at most 1048576: NARROWER than '..Said'. Prove '..Said' where nothing that the law and all that it calls make is longer than what came in: it says more and counts as full. Else prove '..UptoSaid'. A law counts once. -/
mutual
def uptoBulk {H : Type} : DataW H → Nat
  | .lit (.string bytes) => bytes.length + 1
  | .lit _ => 1
  | .nil => 1
  | .ptr d => uptoBulk d + 1
  | .slice elems spare => uptoBulkAll elems + uptoBulkAll spare + 1
  | .agg parts => uptoBulkAll parts + 1
  | .iface _ d => uptoBulk d + 1
  | .map entries => uptoBulkEntries entries + 1
  | .held _ => 1
def uptoBulkAll {H : Type} : List (DataW H) → Nat
  | [] => 0
  | d :: r => uptoBulk d + uptoBulkAll r
def uptoBulkEntries {H : Type} : List (Lit × DataW H) → Nat
  | [] => 0
  | x :: r => uptoBulkEntry x + uptoBulkEntries r
def uptoBulkEntry {H : Type} : Lit × DataW H → Nat
  | (.string bytes, d) => bytes.length + uptoBulk d + 1
  | (_, d) => uptoBulk d + 1
 end
def uptoSmall : (H : Type) → List (DataW H) → Bool := fun _ ds => decide (uptoBulkAll ds ≤ 1048576)
def OpenSpec.upto (s : _root_.Go.ChangeSpec) : _root_.Go.OpenSpec := { _root_.Go.OpenSpec.ofChange s with cond := some uptoSmall }

/-- 'astragallaw20.AggSums', WHERE WHAT IT READS IS OF BULK AT MOST 1048576: true; the input reads as it did. -/
def aggSumsUptoRow : OpenClaim := { program := "ytedgfhijkkedaaa", sum := "6c745e36a4f30c2d9cdaed5636fe7ccc42c35b3c6437e3aabf7c1c05e488ccb5", func := "astragal/astragallaw20.AggSums", spec := "aggSums", inPlace := ["math/bits.Add64"], apart := false, narrowed := true }
def AggSumsUptoSaid : Prop := aggSumsUptoRow.holds Try.pinned (OpenSpec.upto aggSumsSpec)

/-- 'astragallaw20.AggSplits', WHERE WHAT IT READS IS OF BULK AT MOST 1048576: true; the input reads as it did. -/
def aggSplitsUptoRow : OpenClaim := { program := "ytedgfhijkkedaaa", sum := "6c745e36a4f30c2d9cdaed5636fe7ccc42c35b3c6437e3aabf7c1c05e488ccb5", func := "astragal/astragallaw20.AggSplits", spec := "aggSplits", inPlace := ["math/bits.Add64"], apart := false, narrowed := true }
def AggSplitsUptoSaid : Prop := aggSplitsUptoRow.holds Try.pinned (OpenSpec.upto aggSplitsSpec)

/-- 'astragallaw20.AggCounts', WHERE WHAT IT READS IS OF BULK AT MOST 1048576: true; the input reads as it did. -/
def aggCountsUptoRow : OpenClaim := { program := "ytedgfhijkkedaaa", sum := "6c745e36a4f30c2d9cdaed5636fe7ccc42c35b3c6437e3aabf7c1c05e488ccb5", func := "astragal/astragallaw20.AggCounts", spec := "aggCounts", inPlace := ["math/bits.Add64", "math.Float64frombits"], unfollowed := true, recurses := true, apart := false, narrowed := true }
def AggCountsUptoSaid : Prop := aggCountsUptoRow.holds Try.pinned (OpenSpec.upto aggCountsSpec)

/-- 'astragallaw20.AggOrder', WHERE WHAT IT READS IS OF BULK AT MOST 1048576: true; the input reads as it did. -/
def aggOrderUptoRow : OpenClaim := { program := "ytedgfhijkkedaaa", sum := "6c745e36a4f30c2d9cdaed5636fe7ccc42c35b3c6437e3aabf7c1c05e488ccb5", func := "astragal/astragallaw20.AggOrder", spec := "aggOrder", inPlace := ["math/bits.Add64", "math.Float64frombits"], unfollowed := true, recurses := true, apart := false, narrowed := true }
def AggOrderUptoSaid : Prop := aggOrderUptoRow.holds Try.pinned (OpenSpec.upto aggOrderSpec)

/-- 'astragallaw20.AggEnds', WHERE WHAT IT READS IS OF BULK AT MOST 1048576: true; the input reads as it did. -/
def aggEndsUptoRow : OpenClaim := { program := "ytedgfhijkkedaaa", sum := "6c745e36a4f30c2d9cdaed5636fe7ccc42c35b3c6437e3aabf7c1c05e488ccb5", func := "astragal/astragallaw20.AggEnds", spec := "aggEnds", inPlace := ["math/bits.Add64", "math.Float64frombits"], unfollowed := true, recurses := true, apart := false, narrowed := true }
def AggEndsUptoSaid : Prop := aggEndsUptoRow.holds Try.pinned (OpenSpec.upto aggEndsSpec)

/-- 'astragallaw20.AggJoins', WHERE WHAT IT READS IS OF BULK AT MOST 1048576: true; the input reads as it did. -/
def aggJoinsUptoRow : OpenClaim := { program := "ytedgfhijkkedaaa", sum := "6c745e36a4f30c2d9cdaed5636fe7ccc42c35b3c6437e3aabf7c1c05e488ccb5", func := "astragal/astragallaw20.AggJoins", spec := "aggJoins", inPlace := ["math/bits.Add64", "math.Float64frombits"], unfollowed := true, recurses := true, apart := false, narrowed := true }
def AggJoinsUptoSaid : Prop := aggJoinsUptoRow.holds Try.pinned (OpenSpec.upto aggJoinsSpec)

end Rows
end Go.Proofs.Ytedgfhijkkedaaa
