import Derived.Test.YtjchjdbfmiibhaaPRlzx0
import Derived.Test.YtjchjdbfmiibhaaHText
namespace Go.Proofs.Ytjchjdbfmiibhaa.PRlz
open Go.RowKit Go.Proofs.YtjchjdbfmiibhaaW.PrintWords Go.Proofs.YtjchjdbfmiibhaaW.PrintLast Go.Proofs.YtjchjdbfmiibhaaW.PrintMore
attribute [local go_sem] max2_int min2_int max_two min_two max_three min_three max_four min_four
set_option linter.unusedVariables false
set_option linter.unusedSimpArgs false
def leb_ToText.f (l0 : List Int) (a1 : Int) : Option (ByteArray × List Int × Int) := Go.Proofs.Ytjchjdbfmiibhaa.Hand.lebToText l0 a1
theorem leb_ToText.calls (A0 : Option Addr) (c0 : Nat) (l0 : List Int) (a1 : Int) (r1 : ByteArray) (r2 : List Int) (r3 : Int) (w : World) (hr0 : Kd.C (Kd.int .u8) w A0 l0.length l0) (hc0 : l0.length ≤ c0) (h : leb_ToText.f l0 a1 = some (r1, r2, r3)) :
    Calls Try.prog 66 #[.slice A0 l0.length c0, .int .i64 a1] w fun e w' => ∃ v1_ : Value, e = .returned (.tuple #[.string r1, v1_, .int .i64 r3]) ∧ Kd.R (Kd.int .u8) 5 w' w.heap.size (fun _ => True) v1_ r2 ∧ Below w.heap.size w w' :=
  Go.Proofs.Ytjchjdbfmiibhaa.Hand.lebToText_calls A0 c0 l0 a1 r1 r2 r3 w hr0 hc0 h
end Go.Proofs.Ytjchjdbfmiibhaa.PRlz
