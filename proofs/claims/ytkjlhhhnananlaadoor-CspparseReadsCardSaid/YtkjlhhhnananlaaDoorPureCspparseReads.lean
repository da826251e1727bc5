/- The policy that any text is, is what the document says: over the printed functions. -/
import Derived.Test.YtkjlhhhnananlaaDoorPl10
namespace Go.Proofs.YtkjlhhhnananlaaDoor.Pure
set_option linter.unusedVariables false
set_option linter.unusedSimpArgs false
open Go.RowKit Go.Proofs.YtkjlhhhnananlaaDoor.Q Go.Proofs.YtkjlhhhnananlaaDoor.Pl Go.Proofs.YtkjlhhhnananlaaDoorW.PrintWords Go.Proofs.YtkjlhhhnananlaaDoorW.PrintLast
theorem CspparseReads (s : ByteArray) (h0 : s.size ≤ 140737488351232) : ∃ k, glacislaw10_CspparseReads.f k s = some true := by
  refine Evn.ex (g := fun k => glacislaw10_CspparseReads.f k s) ?_
  unfold glacislaw10_CspparseReads.f
  refine Evn.bind awake10 ?_
  by_cases hs : s.size > 4000
  · exact Evn.iff_pos (by omega) (Evn.ret rfl)
  · refine Evn.iff_neg (by omega) ?_
    rw [one_f s (by omega)]
    simp only [Option.bind_some]
    refine Evn.bind (ref_one s (by omega)) ?_
    refine Evn.bind (same_one (polOf s) (polOf s) (Nat.le_trans (first_len ancName s) (by omega)) (Nat.le_trans (first_len boxName s) (by omega))) (Evn.ret ?_)
    rw [(samePol_iff _ _).2 rfl]
    rfl
end Go.Proofs.YtkjlhhhnananlaaDoor.Pure
