/- The document's own making small. -/
import Derived.Test.YtkjlhhhnananlaaDoorPl10Low
import Derived.Test.YtkjlhhhnananlaaDoorPlTrim
namespace Go.Proofs.YtkjlhhhnananlaaDoor.Pl
set_option linter.unusedVariables false
set_option linter.unusedSimpArgs false
open Go.RowKit Go.Proofs.YtkjlhhhnananlaaDoor.Q Go.Proofs.YtkjlhhhnananlaaDoorW.PrintWords Go.Proofs.YtkjlhhhnananlaaDoorW.PrintLast

theorem ref_lower (s : ByteArray) (h : s.size ≤ 281474976710656) : glacisref01_Lower.f s = some (lowBA s) := if_pos h
theorem ref_fold (s t : ByteArray) (h : s.size ≤ 281474976710656) (h' : t.size ≤ 281474976710656) : glacisref01_Fold.f s t = some (foldEq s t) := by
  unfold glacisref01_Fold.f
  rw [ref_lower s h, ref_lower t h']
  rfl
end Go.Proofs.YtkjlhhhnananlaaDoor.Pl
