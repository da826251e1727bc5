/- Whether any text is a token, and the number that it is, are what the document says: over the printed functions. -/
import Derived.Test.YtdcnofkcaddkpaaDoorPlLaw01
import Derived.Test.YtdcnofkcaddkpaaDoorPlTokenRef
import Derived.Test.YtdcnofkcaddkpaaDoorPlNumberRef
namespace Go.Proofs.YtdcnofkcaddkpaaDoor.Pure
set_option linter.unusedVariables false
set_option linter.unusedSimpArgs false
open Go.RowKit Go.Proofs.YtdcnofkcaddkpaaDoor.Q Go.Proofs.YtdcnofkcaddkpaaDoor.Pl Go.Proofs.YtdcnofkcaddkpaaDoorW.PrintWords Go.Proofs.YtdcnofkcaddkpaaDoorW.PrintLast
theorem OctetTokens : ∀ (a0 : ByteArray) (a1 : Int), a0.size ≤ 140737488351232 → (Lit.int .i64 a1).wf = true → ∃ k, glacislaw01_OctetTokens.f k a0 a1 = some true := by
  intro s m hs hm
  refine Evn.ex (g := fun k => glacislaw01_OctetTokens.f k s m) ?_
  have hm' : -9223372036854775808 ≤ m ∧ m ≤ 9223372036854775807 := by
    simp only [Lit.wf, Bool.and_eq_true, decide_eq_true_eq] at hm
    exact hm
  unfold glacislaw01_OctetTokens.f
  refine Evn.bind awake01 (Evn.bind (number s (by omega) m hm') (Evn.bind (ref_number s (by omega) m hm') (Evn.iff_pos rfl (Evn.bind (token s (by omega)) (Evn.bind (ref_token s (by omega)) (Evn.iff_pos (by simp) (Evn.iff_pos rfl (Evn.ret (by simp)))))))))
end Go.Proofs.YtdcnofkcaddkpaaDoor.Pure
