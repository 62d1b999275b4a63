/- Closed rv of the row tapeScales, each proved by itself. -/
import Derived.Test.YtemffeblbmimfaaGreatRows
import Derived.Test.YtemffeblbmimfaaGreatProg
import Derived.WalkKit
import Derived.ProofKit
set_option linter.unusedSimpArgs false
set_option linter.unusedVariables false
set_option linter.unnecessarySimpa false
namespace Go.Proofs.YtemffeblbmimfaaGreat
open Go.ChangeShapes Go.WideShapes Go.ChangeAt Go.RowKit
theorem aZH {a b:Bool} (h:a=true) (h':b=true):(a&&b)=true:=by rw [h,h'];rfl
set_option maxHeartbeats 100000000 in
theorem rv:joinedFacts Tryz.prog 3 Tryz.f3 Rows.tapeScalesSpec Rows.tapeScalesRow=true:=by
 unfold joinedFacts
 repeat' (with_reducible apply aZH)
 all_goals (as_aux_lemma=>kernel_rfl)
end Go.Proofs.YtemffeblbmimfaaGreat
