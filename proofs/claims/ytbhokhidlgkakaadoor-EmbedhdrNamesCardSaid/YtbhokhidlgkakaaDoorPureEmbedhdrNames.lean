/- Numbers are the document's: over the printed functions. -/
import Derived.Test.YtbhokhidlgkakaaDoorPlEv
import Derived.Test.YtbhokhidlgkakaaDoorQx
namespace Go.Proofs.YtbhokhidlgkakaaDoor.Pure
set_option linter.unusedVariables false
set_option linter.unusedSimpArgs false
open Go.RowKit Go.Proofs.YtbhokhidlgkakaaDoor.Q Go.Proofs.YtbhokhidlgkakaaDoor.Pl Go.Proofs.YtbhokhidlgkakaaDoorW.PrintWords Go.Proofs.YtbhokhidlgkakaaDoorW.PrintLast
set_option maxRecDepth 100000 in
theorem EmbedhdrNames : ∃ k, glacislaw09_EmbedhdrNames.f k = some true := by
  refine ⟨40, ?_⟩
  unfold glacislaw09_EmbedhdrNames.f
  rw [show glacislaw09_awake.f 40 = some true by kernel_rfl]
  rfl
end Go.Proofs.YtbhokhidlgkakaaDoor.Pure
