/- Any text made small, trimmed, and held against another one, is what the document says: over the printed functions. -/
import Derived.Test.YtdcnofkcaddkpaaDoorPlLaw01
namespace Go.Proofs.YtdcnofkcaddkpaaDoor.Pure
set_option linter.unusedVariables false
set_option linter.unusedSimpArgs false
open Go.RowKit Go.Proofs.YtdcnofkcaddkpaaDoor.Q Go.Proofs.YtdcnofkcaddkpaaDoor.Pl Go.Proofs.YtdcnofkcaddkpaaDoorW.PrintWords Go.Proofs.YtdcnofkcaddkpaaDoorW.PrintLast
theorem OctetLowers : ∀ (a0 : ByteArray) (a1 : ByteArray), a0.size ≤ 140737488351232 → a1.size ≤ 140737488351232 → ∃ k, glacislaw01_OctetLowers.f k a0 a1 = some true := by
  intro s t hs ht
  refine Evn.ex (g := fun k => glacislaw01_OctetLowers.f k s t) ?_
  unfold glacislaw01_OctetLowers.f
  rw [lower_f s (by omega), ref_lower s (by omega), trim_f s (by omega), fold_f s t (by omega) (by omega), ref_fold s t (by omega) (by omega)]
  simp only [Option.bind_some]
  refine Evn.bind awake01 (Evn.iff_pos rfl (Evn.iff_pos trivial (Evn.bind (ref_trim s (by omega)) (Evn.iff_pos rfl (Evn.ret ?_)))))
  simp
end Go.Proofs.YtdcnofkcaddkpaaDoor.Pure
