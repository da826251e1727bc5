-- Laid by this seat's own driver (wip/tools/drive.py) out of the translation.
import Derived.Test.YtdcnofkcaddkpaaDoorQx0
import Derived.Test.YtdcnofkcaddkpaaDoorQx1
import Derived.Test.YtdcnofkcaddkpaaDoorQx2
import Derived.Test.YtdcnofkcaddkpaaDoorQx3
import Derived.Test.YtdcnofkcaddkpaaDoorQx4
import Derived.Test.YtdcnofkcaddkpaaDoorQx5
import Derived.Test.YtdcnofkcaddkpaaDoorQx6
import Derived.Test.YtdcnofkcaddkpaaDoorQx7
namespace Go.Proofs.YtdcnofkcaddkpaaDoor.Q
open Go.RowKit Go.Proofs.YtdcnofkcaddkpaaDoorW.PrintWords Go.Proofs.YtdcnofkcaddkpaaDoorW.PrintLast Go.Proofs.YtdcnofkcaddkpaaDoorW.PrintMore
attribute [local go_sem] max2_int min2_int max_two min_two max_three min_three max_four min_four   -- for this text's walks alone
set_option linter.unusedVariables false
set_option linter.unusedSimpArgs false

end Go.Proofs.YtdcnofkcaddkpaaDoor.Q
