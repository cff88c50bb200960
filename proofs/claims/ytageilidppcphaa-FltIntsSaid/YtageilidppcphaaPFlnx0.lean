-- Written by this session's program wip/gprint/gprint.py, over the kit's print, with given functions; no text of print.sh's.
import Derived.Test.YtageilidppcphaaProg
import Derived.Below
import Derived.Deep.Draws
import Derived.Deep.AppendLies
import Derived.Maps.AppendAt
import Derived.OwnWalk
import Derived.Laws.BytesArg
import Derived.Laws.MakeOwn
import Derived.Laws.OwnMore
import Derived.Deep.OwnRows
import Derived.Tactics
import Derived.Lib.ConvBytes
import Derived.Laws.Slices
import Derived.WalkKit
import Derived.KernelRfl
import Derived.RowKit3
import Derived.Deep.LoopGhost
import Derived.Deep.QuietTactic
import Derived.BigQuiet
import Derived.WideLaws
import Derived.Deep.DeepCutAuto
import Derived.Deep.CutBlock
import Derived.Deep.RegionHeld3
import Derived.Laws.Rows
import Derived.Lib.AppendStr
import Derived.ArgAppend
import Derived.Laws.IdiomCopy
import Derived.OrdersHeld
import Derived.Laws.BitsLemmas
import Derived.RowKit
import Derived.RegionTactic
import Derived.Deep.RegionLaw
import Derived.Test.YtageilidppcphaaHOpen
import Derived.Test.YtageilidppcphaaWWords
import Derived.Test.YtageilidppcphaaWLast
import Derived.Test.YtageilidppcphaaWTab
import Derived.Test.YtageilidppcphaaWFour
import Derived.Test.YtageilidppcphaaWQPut
import Derived.Test.YtageilidppcphaaWApart
import Derived.Test.YtageilidppcphaaWArr
import Derived.Test.YtageilidppcphaaWZeros
import Derived.Test.YtageilidppcphaaWFoot
import Derived.Test.YtageilidppcphaaWKept
import Derived.Test.YtageilidppcphaaWShare
import Derived.Test.YtageilidppcphaaWN
import Derived.Test.YtageilidppcphaaWFootNe
import Derived.Test.YtageilidppcphaaWAt
import Derived.Test.YtageilidppcphaaWEqStruct
import Derived.Test.YtageilidppcphaaWRepsOne
import Derived.Test.YtageilidppcphaaWInv
import Derived.Test.YtageilidppcphaaWInvWords
import Derived.Test.YtageilidppcphaaWGuard
import Derived.Test.YtageilidppcphaaWNEv
import Derived.Test.YtageilidppcphaaWMore
namespace Go.Proofs.Ytageilidppcphaa.PFln
open Go.RowKit Go.Proofs.YtageilidppcphaaW.PrintWords Go.Proofs.YtageilidppcphaaW.PrintLast Go.Proofs.YtageilidppcphaaW.PrintMore
attribute [local go_sem] max2_int min2_int max_two min_two max_three min_three max_four min_four   -- for this text's walks alone
set_option linter.unusedVariables false
set_option linter.unusedSimpArgs false



def errW : Option Int → Value
  | none => .nilIface
  | some c => .iface 0 (.int .i64 c)
theorem errW_none : errW none = .nilIface := rfl
theorem errW_some (c : Int) : errW (some c) = .iface 0 (.int .i64 c) := rfl

-- the values' own types


end Go.Proofs.Ytageilidppcphaa.PFln
