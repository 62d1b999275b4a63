/- The loaded program is the machine's. Printed by wip/tools. -/
import Derived.Test.YtokgdoiciefadaaGreatZc0
import Derived.Test.YtokgdoiciefadaaGreatZc1
import Derived.Test.YtokgdoiciefadaaGreatZc2
import Derived.Test.YtokgdoiciefadaaGreatZc3
import Derived.Test.YtokgdoiciefadaaGreatZc4
import Derived.Test.YtokgdoiciefadaaGreatZc5
import Derived.Test.YtokgdoiciefadaaGreatZc6
import Derived.Test.YtokgdoiciefadaaGreatZc7
namespace Go.Proofs.YtokgdoiciefadaaGreat
theorem prog_ok : ProgOK Tryz.prog fo VP := AllOK.prog (by kernel_rfl) (ok0.append (ok1.append (ok2.append (ok3.append (ok4.append (ok5.append (ok6.append (ok7))))))))
end Go.Proofs.YtokgdoiciefadaaGreat
