-- Written by this session's program wip/gprint/gprint.py, over the kit's print, with given functions; no text of print.sh's.
import Derived.Test.YtjchjdbfmiibhaaPRlax0
import Derived.Test.YtjchjdbfmiibhaaRlaS
namespace Go.Proofs.Ytjchjdbfmiibhaa.PRla
open Go.RowKit Go.Proofs.YtjchjdbfmiibhaaW.PrintWords Go.Proofs.YtjchjdbfmiibhaaW.PrintLast Go.Proofs.YtjchjdbfmiibhaaW.PrintMore
attribute [local go_sem] max2_int min2_int max_two min_two max_three min_three max_four min_four   -- for this text's walks alone
set_option linter.unusedVariables false
set_option linter.unusedSimpArgs false

/-! ### law08_shown: function 23 -/
-- GIVEN BY HAND
def law08_shown.f : Option (Bool) := some true
theorem law08_shown.calls (r : Bool) (w : World) (h : law08_shown.f = some r) :
    Calls Try.prog 23 #[] w fun e w' => e = .returned (.bool r) ∧ Below w.heap.size w w' := by
  obtain rfl : true = r := Option.some.inj h
  exact Go.Proofs.Ytjchjdbfmiibhaa.Pure.shown_calls w

end Go.Proofs.Ytjchjdbfmiibhaa.PRla
