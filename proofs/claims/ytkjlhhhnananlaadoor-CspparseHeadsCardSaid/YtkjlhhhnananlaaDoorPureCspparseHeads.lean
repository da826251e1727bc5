/- The policies of any head are what the document says: over the printed functions. -/
import Derived.Test.YtkjlhhhnananlaaDoorPl10Head
namespace Go.Proofs.YtkjlhhhnananlaaDoor.Pure
set_option linter.unusedVariables false
set_option linter.unusedSimpArgs false
open Go.RowKit Go.Proofs.YtkjlhhhnananlaaDoor.Q Go.Proofs.YtkjlhhhnananlaaDoor.Pl Go.Proofs.YtkjlhhhnananlaaDoorW.PrintWords Go.Proofs.YtkjlhhhnananlaaDoorW.PrintLast
theorem CspparseHeads (l : List (S38)) (h0 : l.length * 32 ≤ 140737488351232) (h1 : ∀ x ∈ l, x.f0.size ≤ 140737488351232 ∧ x.f1.size ≤ 140737488351232) : ∃ k, glacislaw10_CspparseHeads.f k l = some true := by
  refine Evn.ex (g := fun k => glacislaw10_CspparseHeads.f k l) ?_
  unfold glacislaw10_CspparseHeads.f
  refine Evn.bind awake10 (Evn.bind (few l) ?_)
  by_cases hf : fewB l = true
  · refine Evn.iff_pos hf ?_
    have hs := small_few hf
    rw [head_f hs (by decide) (by decide) (by decide)]
    simp only [Option.bind_some]
    refine Evn.bind (ref_head hs (by decide) (by decide) (by decide)) ?_
    have hv := fun v hv => vals_small hs cspName v hv
    have h1 := headL_len 4000 _ hv
    have h2 := vals_len l cspName
    have h3 := hs.1
    refine Evn.bind (same_refl _ (by omega) (fun x hx => ?_)) (Evn.ret rfl)
    have := headL_mem hv hx
    omega
  · exact Evn.iff_neg hf (Evn.ret rfl)
end Go.Proofs.YtkjlhhhnananlaaDoor.Pure
