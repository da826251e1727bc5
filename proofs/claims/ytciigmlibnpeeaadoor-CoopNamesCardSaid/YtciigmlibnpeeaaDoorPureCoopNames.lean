/- CoopNames, in plain terms: the numbers are the document's. -/
import Derived.Test.YtciigmlibnpeeaaDoorQx10
import Derived.Test.YtciigmlibnpeeaaDoorPl08Awake
namespace Go.Proofs.YtciigmlibnpeeaaDoor.Pure
set_option linter.unusedVariables false
set_option linter.unusedSimpArgs false
open Go.RowKit Go.Proofs.YtciigmlibnpeeaaDoor.Pl Go.Proofs.YtciigmlibnpeeaaDoor.Q Go.Proofs.YtciigmlibnpeeaaDoor.Sf Go.Proofs.YtciigmlibnpeeaaDoorW.PrintWords Go.Proofs.YtciigmlibnpeeaaDoorW.PrintLast
theorem CoopNamesAll : ∃ k, glacislaw08_CoopNames.f k = some true := by
  apply Evn.ex
  unfold glacislaw08_CoopNames.f
  refine Evn.bind awake8 ?_
  exact Evn.iff_pos rfl (Evn.some _)
theorem CoopNames : ∃ k, glacislaw08_CoopNames.f k = some true := CoopNamesAll
end Go.Proofs.YtciigmlibnpeeaaDoor.Pure
