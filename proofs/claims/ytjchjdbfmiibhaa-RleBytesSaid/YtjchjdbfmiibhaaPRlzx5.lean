import Derived.Test.YtjchjdbfmiibhaaPRlzx0
import Derived.Test.YtjchjdbfmiibhaaHKey
import Derived.Test.YtjchjdbfmiibhaaHZag
import Derived.Test.YtjchjdbfmiibhaaHPut
namespace Go.Proofs.Ytjchjdbfmiibhaa.PRlz
open Go.RowKit Go.Proofs.YtjchjdbfmiibhaaW.PrintWords Go.Proofs.YtjchjdbfmiibhaaW.PrintLast Go.Proofs.YtjchjdbfmiibhaaW.PrintMore
attribute [local go_sem] max2_int min2_int max_two min_two max_three min_three max_four min_four
set_option linter.unusedVariables false
set_option linter.unusedSimpArgs false
def leb_Put.f (a0 : Int) : Option (List Int) := Go.Proofs.Ytjchjdbfmiibhaa.Hand.lebPut a0
theorem leb_Put.calls (a0 : Int) (r : List Int) (w : World) (h : leb_Put.f a0 = some r) :
    Calls Try.prog 47 #[.int .u64 a0] w fun e w' => ∃ v0_ : Value, e = .returned (v0_) ∧ Kd.R (Kd.int .u8) 5 w' w.heap.size (fun _ => True) v0_ r ∧ Below w.heap.size w w' :=
  Go.Proofs.Ytjchjdbfmiibhaa.Hand.lebPut_calls a0 r w h
def leb_Zig.f (a0 : Int) : Option (Int) := Go.Proofs.Ytjchjdbfmiibhaa.Hand.lebZig a0
theorem leb_Zig.calls (a0 : Int) (r : Int) (w : World) (h : leb_Zig.f a0 = some r) :
    Calls Try.prog 55 #[.int .i64 a0] w fun e w' => e = .returned (.int .u64 r) ∧ Drawn0 w w' :=
  Go.Proofs.Ytjchjdbfmiibhaa.Hand.lebZig_calls a0 r w h
def flt_Key.f (a0 : Int) : Option (Int) := Go.Proofs.Ytjchjdbfmiibhaa.Hand.fltKey a0
theorem flt_Key.calls (a0 : Int) (r : Int) (w : World) (h : flt_Key.f a0 = some r) :
    Calls Try.prog 56 #[.int .u64 a0] w fun e w' => e = .returned (.int .u64 r) ∧ Drawn0 w w' :=
  Go.Proofs.Ytjchjdbfmiibhaa.Hand.fltKey_calls a0 r w h
end Go.Proofs.Ytjchjdbfmiibhaa.PRlz
