-- Written by this session's program wip/gprint/gprint.py, over the kit's print, with given functions; no text of print.sh's.
import Derived.Test.YtedgfhijkkedaaaProg
import Derived.Below
import Derived.Deep.Draws
import Derived.Deep.AppendLies
import Derived.Maps.AppendAt
import Derived.OwnWalk
import Derived.Laws.BytesArg
import Derived.Laws.MakeOwn
import Derived.Laws.OwnMore
import Derived.Deep.OwnRows
import Derived.Tactics
import Derived.Lib.ConvBytes
import Derived.Laws.Slices
import Derived.WalkKit
import Derived.KernelRfl
import Derived.RowKit3
import Derived.Deep.LoopGhost
import Derived.Deep.QuietTactic
import Derived.BigQuiet
import Derived.WideLaws
import Derived.Deep.DeepCutAuto
import Derived.Deep.CutBlock
import Derived.Deep.RegionHeld3
import Derived.Laws.Rows
import Derived.Lib.AppendStr
import Derived.ArgAppend
import Derived.Laws.IdiomCopy
import Derived.OrdersHeld
import Derived.Laws.BitsLemmas
import Derived.RowKit
import Derived.Test.YtedgfhijkkedaaaWWords
import Derived.Test.YtedgfhijkkedaaaWLast
import Derived.Test.YtedgfhijkkedaaaWTab
import Derived.Test.YtedgfhijkkedaaaWFour
import Derived.Test.YtedgfhijkkedaaaWQPut
import Derived.Test.YtedgfhijkkedaaaWApart
import Derived.Test.YtedgfhijkkedaaaWArr
import Derived.Test.YtedgfhijkkedaaaWZeros
import Derived.Test.YtedgfhijkkedaaaWFoot
import Derived.Test.YtedgfhijkkedaaaWKept
import Derived.Test.YtedgfhijkkedaaaWShare
import Derived.Test.YtedgfhijkkedaaaWN
import Derived.Test.YtedgfhijkkedaaaWFootNe
import Derived.Test.YtedgfhijkkedaaaWAt
import Derived.Test.YtedgfhijkkedaaaWEqStruct
import Derived.Test.YtedgfhijkkedaaaWRepsOne
import Derived.Test.YtedgfhijkkedaaaWInv
import Derived.Test.YtedgfhijkkedaaaWInvWords
import Derived.Test.YtedgfhijkkedaaaWGuard
import Derived.Test.YtedgfhijkkedaaaWNEv
import Derived.Test.YtedgfhijkkedaaaWMore
namespace Go.Proofs.Ytedgfhijkkedaaa.PSum
open Go.RowKit Go.Proofs.YtedgfhijkkedaaaW.PrintWords Go.Proofs.YtedgfhijkkedaaaW.PrintLast Go.Proofs.YtedgfhijkkedaaaW.PrintMore
attribute [local go_sem] max2_int min2_int max_two min_two max_three min_three max_four min_four   -- for this text's walks alone
set_option linter.unusedVariables false
set_option linter.unusedSimpArgs false



def errW : Option Int → Value
  | none => .nilIface
  | some c => .iface 0 (.int .i64 c)
theorem errW_none : errW none = .nilIface := rfl
theorem errW_some (c : Int) : errW (some c) = .iface 0 (.int .i64 c) := rfl

theorem info2 : (Try.prog.info? 2).map (fun i => (i.zero, i.size, i.bytes)) = some (some (.int .i64 0), 1, 8) := by kernel_rfl
-- the values' own types

end Go.Proofs.Ytedgfhijkkedaaa.PSum
