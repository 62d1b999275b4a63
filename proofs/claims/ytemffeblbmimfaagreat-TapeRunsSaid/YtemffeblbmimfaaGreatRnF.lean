/- Closed facts of the row tapeRuns, each proved by itself. -/
import Derived.Test.YtemffeblbmimfaaGreatRows
import Derived.Test.YtemffeblbmimfaaGreatProg
import Derived.WalkKit
import Derived.ProofKit
set_option linter.unusedSimpArgs false
set_option linter.unusedVariables false
set_option linter.unnecessarySimpa false
namespace Go.Proofs.YtemffeblbmimfaaGreat
open Go.ChangeShapes Go.WideShapes Go.ChangeAt Go.RowKit
theorem and_t {a b:Bool} (h:a=true) (h':b=true):(a&&b)=true:=by rw [h,h'];rfl
set_option maxHeartbeats 100000000 in
theorem facts:joinedFacts Tryz.prog 4 Tryz.f4 Rows.tapeRunsSpec Rows.tapeRunsRow=true:=by
 unfold joinedFacts
 repeat' (with_reducible apply and_t)
 all_goals (as_aux_lemma=>kernel_rfl)
end Go.Proofs.YtemffeblbmimfaaGreat
