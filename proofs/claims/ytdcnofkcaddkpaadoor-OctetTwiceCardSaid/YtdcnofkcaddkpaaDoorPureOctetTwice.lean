/- What is made small, or trimmed, stays so, and folding does not hang on the order: over the printed functions. -/
import Derived.Test.YtdcnofkcaddkpaaDoorPlLaw01
import Derived.Test.YtdcnofkcaddkpaaDoorPlTwice
import Derived.Test.YtdcnofkcaddkpaaDoorPlToken
namespace Go.Proofs.YtdcnofkcaddkpaaDoor.Pure
set_option linter.unusedVariables false
set_option linter.unusedSimpArgs false
open Go.RowKit Go.Proofs.YtdcnofkcaddkpaaDoor.Q Go.Proofs.YtdcnofkcaddkpaaDoor.Pl Go.Proofs.YtdcnofkcaddkpaaDoorW.PrintWords Go.Proofs.YtdcnofkcaddkpaaDoorW.PrintLast
theorem OctetTwice : ∀ (a0 : ByteArray) (a1 : ByteArray), a0.size ≤ 140737488351232 → a1.size ≤ 140737488351232 → ∃ k, glacislaw01_OctetTwice.f k a0 a1 = some true := by
  intro s t hs ht
  refine Evn.ex (g := fun k => glacislaw01_OctetTwice.f k s t) ?_
  have hl := low_size s
  have hr := trim_size s
  unfold glacislaw01_OctetTwice.f
  rw [lower_f s (by omega), trim_f s (by omega)]
  simp only [Option.bind_some]
  rw [lower_f (lowBA s) (by omega), trim_f (trimBA s) (by omega), fold_f s (lowBA s) (by omega) (by omega), fold_f s t (by omega) (by omega), fold_f t s (by omega) (by omega)]
  simp only [Option.bind_some, low_twice, trim_twice, foldB_low, foldB_comm t s]
  refine Evn.bind awake01 (Evn.iff_pos rfl (Evn.iff_pos trivial (Evn.iff_pos trivial (Evn.iff_pos trivial (Evn.iff_pos (by simp) (Evn.bind (token s (by omega)) (Evn.bind (token (lowBA s) (by omega)) ?_)))))))
  rw [tokB_low]
  exact Evn.ret (by simp)
end Go.Proofs.YtdcnofkcaddkpaaDoor.Pure
