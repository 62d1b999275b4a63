/- The loaded program is the machine's. Printed by wip/tools. -/
import Derived.Test.YtncfpmehhfdipaaGreatZd0
import Derived.Test.YtncfpmehhfdipaaGreatZd1
import Derived.Test.YtncfpmehhfdipaaGreatZd2
import Derived.Test.YtncfpmehhfdipaaGreatZd3
set_option linter.unusedSimpArgs false
set_option linter.unusedVariables false
set_option linter.unnecessarySimpa false
namespace Go.Proofs.YtncfpmehhfdipaaGreat
theorem nm:ProgOK Tryz.prog fo VP:=AllOK.prog (by kernel_rfl) (ok0.append (ok1.append (ok2.append (ok3))))
end Go.Proofs.YtncfpmehhfdipaaGreat
