/- Closed facts of the row unfoldLimits, each proved by itself. -/
import Derived.Test.YtokgdoiciefadaaGreatRows
import Derived.Test.YtokgdoiciefadaaGreatProg
import Derived.WalkKit
import Derived.ProofKit
namespace Go.Proofs.YtokgdoiciefadaaGreat
open Go.ChangeShapes Go.WideShapes Go.ChangeAt Go.RowKit
theorem and_t {a b : Bool} (h : a = true) (h' : b = true) : (a && b) = true := by rw [h, h']; rfl
set_option maxHeartbeats 100000000 in
theorem facts : joinedFacts Tryz.prog 4 Tryz.f4 Rows.unfoldLimitsSpec Rows.unfoldLimitsRow = true := by
  unfold joinedFacts
  repeat' (with_reducible apply and_t)
  all_goals (as_aux_lemma => kernel_rfl)
end Go.Proofs.YtokgdoiciefadaaGreat
