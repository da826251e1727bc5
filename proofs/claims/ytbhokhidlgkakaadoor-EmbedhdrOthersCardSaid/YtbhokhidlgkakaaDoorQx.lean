-- Laid by this seat's own driver (wip/tools/drive.py) out of the translation.
import Derived.Test.YtbhokhidlgkakaaDoorQx0
import Derived.Test.YtbhokhidlgkakaaDoorQx1
import Derived.Test.YtbhokhidlgkakaaDoorQx2
import Derived.Test.YtbhokhidlgkakaaDoorQx3
import Derived.Test.YtbhokhidlgkakaaDoorQx4
import Derived.Test.YtbhokhidlgkakaaDoorQx5
import Derived.Test.YtbhokhidlgkakaaDoorQx6
import Derived.Test.YtbhokhidlgkakaaDoorQx7
import Derived.Test.YtbhokhidlgkakaaDoorQx8
namespace Go.Proofs.YtbhokhidlgkakaaDoor.Q
open Go.RowKit Go.Proofs.YtbhokhidlgkakaaDoorW.PrintWords Go.Proofs.YtbhokhidlgkakaaDoorW.PrintLast Go.Proofs.YtbhokhidlgkakaaDoorW.PrintMore
attribute [local go_sem] max2_int min2_int max_two min_two max_three min_three max_four min_four   -- for this text's walks alone
set_option linter.unusedVariables false
set_option linter.unusedSimpArgs false

end Go.Proofs.YtbhokhidlgkakaaDoor.Q
