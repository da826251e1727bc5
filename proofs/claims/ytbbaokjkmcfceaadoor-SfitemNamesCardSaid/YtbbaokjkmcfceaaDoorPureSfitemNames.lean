/- The numbers and the limit are the document's: over the printed functions. -/
import Derived.Test.YtbbaokjkmcfceaaDoorPl05
import Derived.Test.YtbbaokjkmcfceaaDoorQx11
namespace Go.Proofs.YtbbaokjkmcfceaaDoor.Pure
open Go.RowKit Go.Proofs.YtbbaokjkmcfceaaDoor.Q Go.Proofs.YtbbaokjkmcfceaaDoor.Pl Go.Proofs.YtbbaokjkmcfceaaDoorW.PrintWords Go.Proofs.YtbbaokjkmcfceaaDoorW.PrintLast
theorem SfitemNames : glacislaw05_SfitemNames.f = some true := by
  unfold glacislaw05_SfitemNames.f
  rw [awake05]
  rfl
end Go.Proofs.YtbbaokjkmcfceaaDoor.Pure
