/- The resource policy and the frame options of any head are what the document says: over the printed functions. -/
import Derived.Test.YtbhokhidlgkakaaDoorPlLaw09
namespace Go.Proofs.YtbhokhidlgkakaaDoor.Pure
set_option linter.unusedVariables false
set_option linter.unusedSimpArgs false
open Go.RowKit Go.Proofs.YtbhokhidlgkakaaDoor.Q Go.Proofs.YtbhokhidlgkakaaDoor.Pl Go.Proofs.YtbhokhidlgkakaaDoorW.PrintWords Go.Proofs.YtbhokhidlgkakaaDoorW.PrintLast
theorem EmbedhdrReads : ∀ (a0 : List S28), a0.length * 32 ≤ 140737488351232 → (∀ x ∈ a0, x.f0.size ≤ 140737488351232 ∧ x.f1.size ≤ 140737488351232) → ∃ k, glacislaw09_EmbedhdrReads.f k a0 = some true := by
  intro l _ _
  refine Evn.ex (g := fun k => glacislaw09_EmbedhdrReads.f k l) ?_
  unfold glacislaw09_EmbedhdrReads.f
  refine Evn.bind awake09 (Evn.bind (few l) ?_)
  by_cases hf : fewB l = true
  · refine Evn.iff_pos hf (Evn.iff_pos rfl ?_)
    have hs := small_few hf
    rw [corp_f hs (by omega) (by omega), xfo_f hs (by omega) (by omega)]
    simp only [Option.bind_some]
    refine Evn.bind (ref_corp hs (by omega) (by omega)) (Evn.iff_pos rfl (Evn.bind (ref_xfo hs (by omega) (by omega)) ?_))
    exact Evn.ret (by simp)
  · exact Evn.iff_neg hf (Evn.some _)
end Go.Proofs.YtbhokhidlgkakaaDoor.Pure
