/- Law 09's own head. -/
import Derived.Test.YtbhokhidlgkakaaDoorPlCorp
namespace Go.Proofs.YtbhokhidlgkakaaDoor.Pl
set_option linter.unusedVariables false
set_option linter.unusedSimpArgs false
open Go.RowKit Go.Proofs.YtbhokhidlgkakaaDoor.B Go.Proofs.YtbhokhidlgkakaaDoorW.PrintWords Go.Proofs.YtbhokhidlgkakaaDoorW.PrintLast

set_option maxRecDepth 100000 in
theorem awake09 : Evn (fun k => glacislaw09_awake.f k) true :=
  Evn.mono (k := 40) (show glacislaw09_awake.f 40 = some true by kernel_rfl) (fun k h => glacislaw09_awake.mono k true h)
end Go.Proofs.YtbhokhidlgkakaaDoor.Pl
