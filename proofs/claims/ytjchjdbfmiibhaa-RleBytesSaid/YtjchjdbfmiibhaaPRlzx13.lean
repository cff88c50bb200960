import Derived.Test.YtjchjdbfmiibhaaPRlzx0
import Derived.Test.YtjchjdbfmiibhaaHKey
import Derived.Test.YtjchjdbfmiibhaaHGet
import Derived.Test.YtjchjdbfmiibhaaHZag
namespace Go.Proofs.Ytjchjdbfmiibhaa.PRlz
open Go.RowKit Go.Proofs.YtjchjdbfmiibhaaW.PrintWords Go.Proofs.YtjchjdbfmiibhaaW.PrintLast Go.Proofs.YtjchjdbfmiibhaaW.PrintMore
attribute [local go_sem] max2_int min2_int max_two min_two max_three min_three max_four min_four
set_option linter.unusedVariables false
set_option linter.unusedSimpArgs false
def leb_Get.f (l0 : List Int) : Option (Int × Int × Int) := Go.Proofs.Ytjchjdbfmiibhaa.Hand.lebGet l0
theorem leb_Get.calls (A0 : Option Addr) (c0 : Nat) (l0 : List Int) (r1 : Int) (r2 : Int) (r3 : Int) (w : World) (hr0 : Kd.C (Kd.int .u8) w A0 l0.length l0) (hc0 : l0.length ≤ c0) (h : leb_Get.f l0 = some (r1, r2, r3)) :
    Calls Try.prog 63 #[.slice A0 l0.length c0] w fun e w' => e = .returned (.tuple #[.int .u64 r1, .int .i64 r2, .int .i64 r3]) ∧ Below w.heap.size w w' :=
  Go.Proofs.Ytjchjdbfmiibhaa.Hand.lebGet_calls A0 c0 l0 r1 r2 r3 w hr0 hc0 h
def leb_Zag.f (a0 : Int) : Option (Int) := Go.Proofs.Ytjchjdbfmiibhaa.Hand.lebZag a0
theorem leb_Zag.calls (a0 : Int) (r : Int) (w : World) (h : leb_Zag.f a0 = some r) :
    Calls Try.prog 64 #[.int .u64 a0] w fun e w' => e = .returned (.int .i64 r) ∧ Drawn0 w w' :=
  Go.Proofs.Ytjchjdbfmiibhaa.Hand.lebZag_calls a0 r w h
def flt_Bits.f (a0 : Int) : Option (Int) := Go.Proofs.Ytjchjdbfmiibhaa.Hand.fltBits a0
theorem flt_Bits.calls (a0 : Int) (r : Int) (w : World) (h : flt_Bits.f a0 = some r) :
    Calls Try.prog 76 #[.int .u64 a0] w fun e w' => e = .returned (.int .u64 r) ∧ Drawn0 w w' :=
  Go.Proofs.Ytjchjdbfmiibhaa.Hand.fltBits_calls a0 r w h
end Go.Proofs.Ytjchjdbfmiibhaa.PRlz
