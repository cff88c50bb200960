import Derived.Test.YtjchjdbfmiibhaaPRlzx0
import Derived.Test.YtjchjdbfmiibhaaHFlt
namespace Go.Proofs.Ytjchjdbfmiibhaa.PRlz
open Go.RowKit Go.Proofs.YtjchjdbfmiibhaaW.PrintWords Go.Proofs.YtjchjdbfmiibhaaW.PrintLast Go.Proofs.YtjchjdbfmiibhaaW.PrintMore
attribute [local go_sem] max2_int min2_int max_two min_two max_three min_three max_four min_four
set_option linter.unusedVariables false
set_option linter.unusedSimpArgs false
def flt_Clean.f (a0 : Int) : Option (Int) := Go.Proofs.Ytjchjdbfmiibhaa.Hand.fltClean a0
theorem flt_Clean.calls (a0 : Int) (r : Int) (w : World) (h : flt_Clean.f a0 = some r) :
    Calls Try.prog 58 #[.int .u64 a0] w fun e w' => e = .returned (.int .u64 r) ∧ Drawn0 w w' :=
  Go.Proofs.Ytjchjdbfmiibhaa.Hand.fltClean_calls a0 r w h
end Go.Proofs.Ytjchjdbfmiibhaa.PRlz
