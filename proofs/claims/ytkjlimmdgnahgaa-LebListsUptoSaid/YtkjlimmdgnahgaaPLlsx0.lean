-- Written by this session's program wip/gprint/gprint.py, over the kit's print, with given functions; no text of print.sh's.
import Derived.Test.YtkjlimmdgnahgaaProg
import Derived.Below
import Derived.Deep.Draws
import Derived.Deep.AppendLies
import Derived.Maps.AppendAt
import Derived.OwnWalk
import Derived.Laws.BytesArg
import Derived.Laws.MakeOwn
import Derived.Laws.OwnMore
import Derived.Deep.OwnRows
import Derived.Tactics
import Derived.Lib.ConvBytes
import Derived.Laws.Slices
import Derived.WalkKit
import Derived.KernelRfl
import Derived.RowKit3
import Derived.Deep.LoopGhost
import Derived.Deep.QuietTactic
import Derived.BigQuiet
import Derived.WideLaws
import Derived.Deep.DeepCutAuto
import Derived.Deep.CutBlock
import Derived.Deep.RegionHeld3
import Derived.Laws.Rows
import Derived.Lib.AppendStr
import Derived.ArgAppend
import Derived.Laws.IdiomCopy
import Derived.OrdersHeld
import Derived.Laws.BitsLemmas
import Derived.RowKit
import Derived.RegionTactic
import Derived.Deep.RegionLaw
import Derived.Test.YtkjlimmdgnahgaaHOpen
import Derived.Test.YtkjlimmdgnahgaaHShare
import Derived.Test.YtkjlimmdgnahgaaWWords
import Derived.Test.YtkjlimmdgnahgaaWLast
import Derived.Test.YtkjlimmdgnahgaaWTab
import Derived.Test.YtkjlimmdgnahgaaWFour
import Derived.Test.YtkjlimmdgnahgaaWQPut
import Derived.Test.YtkjlimmdgnahgaaWApart
import Derived.Test.YtkjlimmdgnahgaaWArr
import Derived.Test.YtkjlimmdgnahgaaWZeros
import Derived.Test.YtkjlimmdgnahgaaWFoot
import Derived.Test.YtkjlimmdgnahgaaWKept
import Derived.Test.YtkjlimmdgnahgaaWShare
import Derived.Test.YtkjlimmdgnahgaaWN
import Derived.Test.YtkjlimmdgnahgaaWFootNe
import Derived.Test.YtkjlimmdgnahgaaWAt
import Derived.Test.YtkjlimmdgnahgaaWEqStruct
import Derived.Test.YtkjlimmdgnahgaaWRepsOne
import Derived.Test.YtkjlimmdgnahgaaWInv
import Derived.Test.YtkjlimmdgnahgaaWInvWords
import Derived.Test.YtkjlimmdgnahgaaWGuard
import Derived.Test.YtkjlimmdgnahgaaWNEv
import Derived.Test.YtkjlimmdgnahgaaWMore
namespace Go.Proofs.Ytkjlimmdgnahgaa.PLls
open Go.RowKit Go.Proofs.YtkjlimmdgnahgaaW.PrintWords Go.Proofs.YtkjlimmdgnahgaaW.PrintLast Go.Proofs.YtkjlimmdgnahgaaW.PrintMore
attribute [local go_sem] max2_int min2_int max_two min_two max_three min_three max_four min_four   -- for this text's walks alone
set_option linter.unusedVariables false
set_option linter.unusedSimpArgs false



def errW : Option Int → Value
  | none => .nilIface
  | some c => .iface 0 (.int .i64 c)
theorem errW_none : errW none = .nilIface := rfl
theorem errW_some (c : Int) : errW (some c) = .iface 0 (.int .i64 c) := rfl

theorem info2 : (Try.prog.info? 2).map (fun i => (i.zero, i.size, i.bytes)) = some (some (.int .i64 0), 1, 8) := by kernel_rfl
theorem info5 : (Try.prog.info? 5).map (fun i => (i.zero, i.size, i.bytes)) = some (some (.int .u8 0), 1, 1) := by kernel_rfl
-- the values' own types


end Go.Proofs.Ytkjlimmdgnahgaa.PLls
