/-
  No cell of these rows narrows 'for every input' (looked for: loops, veiled, ifaces, maps, wideKeys, modest, calm, conditions, laid).
  DERIVED. THE GIVEN ROWS OF THIS SEAT. 7 by the template 'for every input the law returns true; each argument reads behind the call as it read before'; 0 by the template 'total and deterministic' (their statements: YtkjlimmdgnahgaaTotals.lean).
  GIVEN WITH THE SEED: the statements are not yours to turn. If you find one false, say at which input.
  Laid BY PROGRAM, IN A SANDBOX (cutbox-rows.mjs): the forced cells as the released guide's own fill.sh prints them over the translation c98fae1bfc2f4cbf… (all of the seat's roots in one cut). By AI agents, Wed Nov 11 2026. No macro, syntax, notation, axiom, sorry.
-/
import Derived.Test.YtkjlimmdgnahgaaChecked
import GoSem.Claim
import GoSem.ClaimJoined
import GoSem.ClaimMapViews
import Derived.JoinedTies
import Derived.KernelRfl
namespace Go.Proofs.Ytkjlimmdgnahgaa
/- THE CELL 'sum', in the pinned program and in every row, IS THE sha256 OF THE DUMP (.gsa) THAT YtkjlimmdgnahgaaProg.lean LOADS. Nothing in Lean hashes anything: it is a label: what it is worth is what the hold of that sum in a sandbox is worth. -/
noncomputable def Try.pinned : Pinned := { name := "ytkjlimmdgnahgaa", sum := "c98fae1bfc2f4cbfa6ac7cd34d4ebbba3ea8def8b945866e2252de95d56e12b9", checked := Try.checked }
namespace Rows
def none {H : Type} : Left H := { results := [], args := [] }

/-- 'astragallaw02.LebSizes': WHATEVER THE INPUT: true; the input reads as it did. -/
def lebSizesSpec : ChangeSpec := { name := "lebSizes", fn := fun _ => fun
  | [d] => { results := [.lit (.bool true)], args := [d] }
  | _ => none }
def lebSizesRow : OpenClaim := { program := "ytkjlimmdgnahgaa", sum := "c98fae1bfc2f4cbfa6ac7cd34d4ebbba3ea8def8b945866e2252de95d56e12b9", func := "astragal/astragallaw02.LebSizes", spec := "lebSizes", apart := false }
def LebSizesSaid : Prop := lebSizesRow.holds Try.pinned (OpenSpec.ofChange lebSizesSpec)

/-- ITS FALSE NEIGHBOUR: 'it returns false'. Refute it at one input. -/
def lebSizesWrong : ChangeSpec := { name := "lebSizes", fn := fun _ => fun
  | [d] => { results := [.lit (.bool false)], args := [d] }
  | _ => none }
def LebSizesWrongFalsely : Prop := lebSizesRow.holds Try.pinned (OpenSpec.ofChange lebSizesWrong)

/-- 'astragallaw02.LebOnes': WHATEVER THE INPUT: true; the input reads as it did. -/
def lebOnesSpec : ChangeSpec := { name := "lebOnes", fn := fun _ => fun
  | [d1, d2, d3] => { results := [.lit (.bool true)], args := [d1, d2, d3] }
  | _ => none }
def lebOnesRow : OpenClaim := { program := "ytkjlimmdgnahgaa", sum := "c98fae1bfc2f4cbfa6ac7cd34d4ebbba3ea8def8b945866e2252de95d56e12b9", func := "astragal/astragallaw02.LebOnes", spec := "lebOnes", apart := false }
def LebOnesSaid : Prop := lebOnesRow.holds Try.pinned (OpenSpec.ofChange lebOnesSpec)

/-- ITS FALSE NEIGHBOUR: 'it returns false'. Refute it at one input. -/
def lebOnesWrong : ChangeSpec := { name := "lebOnes", fn := fun _ => fun
  | [d1, d2, d3] => { results := [.lit (.bool false)], args := [d1, d2, d3] }
  | _ => none }
def LebOnesWrongFalsely : Prop := lebOnesRow.holds Try.pinned (OpenSpec.ofChange lebOnesWrong)

/-- 'astragallaw02.LebNumbers': WHATEVER THE INPUT: true; the input reads as it did. -/
def lebNumbersSpec : ChangeSpec := { name := "lebNumbers", fn := fun _ => fun
  | [d1, d2, d3] => { results := [.lit (.bool true)], args := [d1, d2, d3] }
  | _ => none }
def lebNumbersRow : OpenClaim := { program := "ytkjlimmdgnahgaa", sum := "c98fae1bfc2f4cbfa6ac7cd34d4ebbba3ea8def8b945866e2252de95d56e12b9", func := "astragal/astragallaw02.LebNumbers", spec := "lebNumbers", apart := false }
def LebNumbersSaid : Prop := lebNumbersRow.holds Try.pinned (OpenSpec.ofChange lebNumbersSpec)

/-- ITS FALSE NEIGHBOUR: 'it returns false'. Refute it at one input. -/
def lebNumbersWrong : ChangeSpec := { name := "lebNumbers", fn := fun _ => fun
  | [d1, d2, d3] => { results := [.lit (.bool false)], args := [d1, d2, d3] }
  | _ => none }
def LebNumbersWrongFalsely : Prop := lebNumbersRow.holds Try.pinned (OpenSpec.ofChange lebNumbersWrong)

/-- 'astragallaw02.LebSigns': WHATEVER THE INPUT: true; the input reads as it did. -/
def lebSignsSpec : ChangeSpec := { name := "lebSigns", fn := fun _ => fun
  | [d1, d2] => { results := [.lit (.bool true)], args := [d1, d2] }
  | _ => none }
def lebSignsRow : OpenClaim := { program := "ytkjlimmdgnahgaa", sum := "c98fae1bfc2f4cbfa6ac7cd34d4ebbba3ea8def8b945866e2252de95d56e12b9", func := "astragal/astragallaw02.LebSigns", spec := "lebSigns", apart := false }
def LebSignsSaid : Prop := lebSignsRow.holds Try.pinned (OpenSpec.ofChange lebSignsSpec)

/-- ITS FALSE NEIGHBOUR: 'it returns false'. Refute it at one input. -/
def lebSignsWrong : ChangeSpec := { name := "lebSigns", fn := fun _ => fun
  | [d1, d2] => { results := [.lit (.bool false)], args := [d1, d2] }
  | _ => none }
def LebSignsWrongFalsely : Prop := lebSignsRow.holds Try.pinned (OpenSpec.ofChange lebSignsWrong)

/-- 'astragallaw02.LebMany': WHATEVER THE INPUT: true; the input reads as it did. -/
def lebManySpec : ChangeSpec := { name := "lebMany", fn := fun _ => fun
  | [d] => { results := [.lit (.bool true)], args := [d] }
  | _ => none }
def lebManyRow : OpenClaim := { program := "ytkjlimmdgnahgaa", sum := "c98fae1bfc2f4cbfa6ac7cd34d4ebbba3ea8def8b945866e2252de95d56e12b9", func := "astragal/astragallaw02.LebMany", spec := "lebMany", apart := false }
def LebManySaid : Prop := lebManyRow.holds Try.pinned (OpenSpec.ofChange lebManySpec)

/-- ITS FALSE NEIGHBOUR: 'it returns false'. Refute it at one input. -/
def lebManyWrong : ChangeSpec := { name := "lebMany", fn := fun _ => fun
  | [d] => { results := [.lit (.bool false)], args := [d] }
  | _ => none }
def LebManyWrongFalsely : Prop := lebManyRow.holds Try.pinned (OpenSpec.ofChange lebManyWrong)

/-- 'astragallaw02.LebLists': WHATEVER THE INPUT: true; the input reads as it did. -/
def lebListsSpec : ChangeSpec := { name := "lebLists", fn := fun _ => fun
  | [d1, d2, d3, d4] => { results := [.lit (.bool true)], args := [d1, d2, d3, d4] }
  | _ => none }
def lebListsRow : OpenClaim := { program := "ytkjlimmdgnahgaa", sum := "c98fae1bfc2f4cbfa6ac7cd34d4ebbba3ea8def8b945866e2252de95d56e12b9", func := "astragal/astragallaw02.LebLists", spec := "lebLists", apart := false }
def LebListsSaid : Prop := lebListsRow.holds Try.pinned (OpenSpec.ofChange lebListsSpec)

/-- ITS FALSE NEIGHBOUR: 'it returns false'. Refute it at one input. -/
def lebListsWrong : ChangeSpec := { name := "lebLists", fn := fun _ => fun
  | [d1, d2, d3, d4] => { results := [.lit (.bool false)], args := [d1, d2, d3, d4] }
  | _ => none }
def LebListsWrongFalsely : Prop := lebListsRow.holds Try.pinned (OpenSpec.ofChange lebListsWrong)

/-- 'astragallaw02.LebBack': WHATEVER THE INPUT: true; the input reads as it did. -/
def lebBackSpec : ChangeSpec := { name := "lebBack", fn := fun _ => fun
  | [d1, d2, d3, d4] => { results := [.lit (.bool true)], args := [d1, d2, d3, d4] }
  | _ => none }
def lebBackRow : OpenClaim := { program := "ytkjlimmdgnahgaa", sum := "c98fae1bfc2f4cbfa6ac7cd34d4ebbba3ea8def8b945866e2252de95d56e12b9", func := "astragal/astragallaw02.LebBack", spec := "lebBack", apart := false }
def LebBackSaid : Prop := lebBackRow.holds Try.pinned (OpenSpec.ofChange lebBackSpec)

/-- ITS FALSE NEIGHBOUR: 'it returns false'. Refute it at one input. -/
def lebBackWrong : ChangeSpec := { name := "lebBack", fn := fun _ => fun
  | [d1, d2, d3, d4] => { results := [.lit (.bool false)], args := [d1, d2, d3, d4] }
  | _ => none }
def LebBackWrongFalsely : Prop := lebBackRow.holds Try.pinned (OpenSpec.ofChange lebBackWrong)

/- THE SECOND FORM. 'bulk': how many values and letters a reading holds, each counted each time it is reached (what is shared counts as often as it is met; a slice's spare places count too). A statement '..UptoSaid' is the law's where the arguments, and the package variables that the reading takes, are together of bulk at most 1048576: NARROWER than '..Said'. Prove '..Said' where nothing that the law and all that it calls make is longer than what came in: it says more and counts as full. Else prove '..UptoSaid'. A law counts once. -/
mutual
def uptoBulk {H : Type} : DataW H → Nat
  | .lit (.string bytes) => bytes.length + 1
  | .lit _ => 1
  | .nil => 1
  | .ptr d => uptoBulk d + 1
  | .slice elems spare => uptoBulkAll elems + uptoBulkAll spare + 1
  | .agg parts => uptoBulkAll parts + 1
  | .iface _ d => uptoBulk d + 1
  | .map entries => uptoBulkEntries entries + 1
  | .held _ => 1
def uptoBulkAll {H : Type} : List (DataW H) → Nat
  | [] => 0
  | d :: r => uptoBulk d + uptoBulkAll r
def uptoBulkEntries {H : Type} : List (Lit × DataW H) → Nat
  | [] => 0
  | x :: r => uptoBulkEntry x + uptoBulkEntries r
def uptoBulkEntry {H : Type} : Lit × DataW H → Nat
  | (.string bytes, d) => bytes.length + uptoBulk d + 1
  | (_, d) => uptoBulk d + 1
 end
def uptoSmall : (H : Type) → List (DataW H) → Bool := fun _ ds => decide (uptoBulkAll ds ≤ 1048576)
def OpenSpec.upto (s : _root_.Go.ChangeSpec) : _root_.Go.OpenSpec := { _root_.Go.OpenSpec.ofChange s with cond := some uptoSmall }

/-- 'astragallaw02.LebSizes', WHERE WHAT IT READS IS OF BULK AT MOST 1048576: true; the input reads as it did. -/
def lebSizesUptoRow : OpenClaim := { program := "ytkjlimmdgnahgaa", sum := "c98fae1bfc2f4cbfa6ac7cd34d4ebbba3ea8def8b945866e2252de95d56e12b9", func := "astragal/astragallaw02.LebSizes", spec := "lebSizes", apart := false, narrowed := true }
def LebSizesUptoSaid : Prop := lebSizesUptoRow.holds Try.pinned (OpenSpec.upto lebSizesSpec)

/-- 'astragallaw02.LebOnes', WHERE WHAT IT READS IS OF BULK AT MOST 1048576: true; the input reads as it did. -/
def lebOnesUptoRow : OpenClaim := { program := "ytkjlimmdgnahgaa", sum := "c98fae1bfc2f4cbfa6ac7cd34d4ebbba3ea8def8b945866e2252de95d56e12b9", func := "astragal/astragallaw02.LebOnes", spec := "lebOnes", apart := false, narrowed := true }
def LebOnesUptoSaid : Prop := lebOnesUptoRow.holds Try.pinned (OpenSpec.upto lebOnesSpec)

/-- 'astragallaw02.LebNumbers', WHERE WHAT IT READS IS OF BULK AT MOST 1048576: true; the input reads as it did. -/
def lebNumbersUptoRow : OpenClaim := { program := "ytkjlimmdgnahgaa", sum := "c98fae1bfc2f4cbfa6ac7cd34d4ebbba3ea8def8b945866e2252de95d56e12b9", func := "astragal/astragallaw02.LebNumbers", spec := "lebNumbers", apart := false, narrowed := true }
def LebNumbersUptoSaid : Prop := lebNumbersUptoRow.holds Try.pinned (OpenSpec.upto lebNumbersSpec)

/-- 'astragallaw02.LebSigns', WHERE WHAT IT READS IS OF BULK AT MOST 1048576: true; the input reads as it did. -/
def lebSignsUptoRow : OpenClaim := { program := "ytkjlimmdgnahgaa", sum := "c98fae1bfc2f4cbfa6ac7cd34d4ebbba3ea8def8b945866e2252de95d56e12b9", func := "astragal/astragallaw02.LebSigns", spec := "lebSigns", apart := false, narrowed := true }
def LebSignsUptoSaid : Prop := lebSignsUptoRow.holds Try.pinned (OpenSpec.upto lebSignsSpec)

/-- 'astragallaw02.LebMany', WHERE WHAT IT READS IS OF BULK AT MOST 1048576: true; the input reads as it did. -/
def lebManyUptoRow : OpenClaim := { program := "ytkjlimmdgnahgaa", sum := "c98fae1bfc2f4cbfa6ac7cd34d4ebbba3ea8def8b945866e2252de95d56e12b9", func := "astragal/astragallaw02.LebMany", spec := "lebMany", apart := false, narrowed := true }
def LebManyUptoSaid : Prop := lebManyUptoRow.holds Try.pinned (OpenSpec.upto lebManySpec)

/-- 'astragallaw02.LebLists', WHERE WHAT IT READS IS OF BULK AT MOST 1048576: true; the input reads as it did. -/
def lebListsUptoRow : OpenClaim := { program := "ytkjlimmdgnahgaa", sum := "c98fae1bfc2f4cbfa6ac7cd34d4ebbba3ea8def8b945866e2252de95d56e12b9", func := "astragal/astragallaw02.LebLists", spec := "lebLists", apart := false, narrowed := true }
def LebListsUptoSaid : Prop := lebListsUptoRow.holds Try.pinned (OpenSpec.upto lebListsSpec)

/-- 'astragallaw02.LebBack', WHERE WHAT IT READS IS OF BULK AT MOST 1048576: true; the input reads as it did. -/
def lebBackUptoRow : OpenClaim := { program := "ytkjlimmdgnahgaa", sum := "c98fae1bfc2f4cbfa6ac7cd34d4ebbba3ea8def8b945866e2252de95d56e12b9", func := "astragal/astragallaw02.LebBack", spec := "lebBack", apart := false, narrowed := true }
def LebBackUptoSaid : Prop := lebBackUptoRow.holds Try.pinned (OpenSpec.upto lebBackSpec)

end Rows
end Go.Proofs.Ytkjlimmdgnahgaa
