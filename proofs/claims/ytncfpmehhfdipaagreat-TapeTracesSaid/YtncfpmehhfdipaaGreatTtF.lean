/- Closed a8S of the row tapeTraces, each proved by itself. -/
import Derived.Test.YtncfpmehhfdipaaGreatRows
import Derived.Test.YtncfpmehhfdipaaGreatProg
import Derived.WalkKit
import Derived.ProofKit
set_option linter.unusedSimpArgs false
set_option linter.unusedVariables false
set_option linter.unnecessarySimpa false
namespace Go.Proofs.YtncfpmehhfdipaaGreat
open Go.ChangeShapes Go.WideShapes Go.ChangeAt Go.RowKit
theorem a9F {a b:Bool} (h:a=true) (h':b=true):(a&&b)=true:=by rw [h,h'];rfl
set_option maxHeartbeats 100000000 in
theorem a8S:joinedFacts Tryz.prog 3 Tryz.f3 Rows.tapeTracesSpec Rows.tapeTracesRow=true:=by
 unfold joinedFacts
 repeat' (with_reducible apply a9F)
 all_goals (as_aux_lemma=>kernel_rfl)
end Go.Proofs.YtncfpmehhfdipaaGreat
