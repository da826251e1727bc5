/- Law 01's own head, and the document's functions that only it asks. -/
import Derived.Test.YtdcnofkcaddkpaaDoorPlOctet
namespace Go.Proofs.YtdcnofkcaddkpaaDoor.Pl
set_option linter.unusedVariables false
set_option linter.unusedSimpArgs false
open Go.RowKit Go.Proofs.YtdcnofkcaddkpaaDoor.Q Go.Proofs.YtdcnofkcaddkpaaDoorW.PrintWords Go.Proofs.YtdcnofkcaddkpaaDoorW.PrintLast

theorem awake01 : Evn (fun k => glacislaw01_awake.f k) true :=
  Evn.mono (k := 40) (show glacislaw01_awake.f 40 = some true by kernel_rfl) (fun k h => glacislaw01_awake.mono k true h)
theorem ref_lower (s : ByteArray) (h : s.size ≤ 281474976710656) : glacisref01_Lower.f s = some (lowBA s) := if_pos h
theorem ref_fold (s t : ByteArray) (h : s.size ≤ 281474976710656) (h' : t.size ≤ 281474976710656) : glacisref01_Fold.f s t = some (foldB s t) := by
  unfold glacisref01_Fold.f
  rw [ref_lower s h, ref_lower t h']
  rfl
end Go.Proofs.YtdcnofkcaddkpaaDoor.Pl
