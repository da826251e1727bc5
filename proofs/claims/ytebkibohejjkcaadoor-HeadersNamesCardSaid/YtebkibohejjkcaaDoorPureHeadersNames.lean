/- Numbers and limits are the document's: over the printed functions. -/
import Derived.Test.YtebkibohejjkcaaDoorPlEv
import Derived.Test.YtebkibohejjkcaaDoorQx3
namespace Go.Proofs.YtebkibohejjkcaaDoor.Pure
set_option linter.unusedVariables false
set_option linter.unusedSimpArgs false
open Go.RowKit Go.Proofs.YtebkibohejjkcaaDoor.Q Go.Proofs.YtebkibohejjkcaaDoor.Pl Go.Proofs.YtebkibohejjkcaaDoorW.PrintWords Go.Proofs.YtebkibohejjkcaaDoorW.PrintLast
set_option maxRecDepth 100000 in
theorem HeadersNames : ∃ k, glacislaw07_HeadersNames.f k = some true := by
  refine ⟨40, ?_⟩
  unfold glacislaw07_HeadersNames.f
  rw [show glacislaw07_awake.f 40 = some true by kernel_rfl]
  rfl
end Go.Proofs.YtebkibohejjkcaaDoor.Pure
