-- Laid by this seat's own driver (wip/tools/drive.py) out of the translation.
import Derived.Test.YtbhokhidlgkakaaDoorBx0
import Derived.Test.YtbhokhidlgkakaaDoorBx1
import Derived.Test.YtbhokhidlgkakaaDoorBx2
import Derived.Test.YtbhokhidlgkakaaDoorBx3
namespace Go.Proofs.YtbhokhidlgkakaaDoor.B
open Go.RowKit Go.Proofs.YtbhokhidlgkakaaDoorW.PrintWords Go.Proofs.YtbhokhidlgkakaaDoorW.PrintLast Go.Proofs.YtbhokhidlgkakaaDoorW.PrintMore
attribute [local go_sem] max2_int min2_int max_two min_two max_three min_three max_four min_four   -- for this text's walks alone
set_option linter.unusedVariables false
set_option linter.unusedSimpArgs false

end Go.Proofs.YtbhokhidlgkakaaDoor.B
