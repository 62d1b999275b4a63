/- Closed facts of the row traceLimits, each proved by itself. -/
import Derived.Test.YtboekhenldifhaaGreatRows
import Derived.Test.YtboekhenldifhaaGreatProg
import Derived.WalkKit
import Derived.ProofKit
namespace Go.Proofs.YtboekhenldifhaaGreat
open Go.ChangeShapes Go.WideShapes Go.ChangeAt Go.RowKit
theorem and_t {a b : Bool} (h : a = true) (h' : b = true) : (a && b) = true := by rw [h, h']; rfl
set_option maxHeartbeats 100000000 in
theorem facts : joinedFacts Tryz.prog 4 Tryz.f4 Rows.traceLimitsSpec Rows.traceLimitsRow = true := by
  unfold joinedFacts
  repeat' (with_reducible apply and_t)
  all_goals (as_aux_lemma => kernel_rfl)
end Go.Proofs.YtboekhenldifhaaGreat
