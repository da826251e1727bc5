/- Any text's parts, and words, are what the document says: over the printed functions. -/
import Derived.Test.YtdcnofkcaddkpaaDoorPlLaw01
namespace Go.Proofs.YtdcnofkcaddkpaaDoor.Pure
set_option linter.unusedVariables false
set_option linter.unusedSimpArgs false
open Go.RowKit Go.Proofs.YtdcnofkcaddkpaaDoor.Q Go.Proofs.YtdcnofkcaddkpaaDoor.Pl Go.Proofs.YtdcnofkcaddkpaaDoorW.PrintWords Go.Proofs.YtdcnofkcaddkpaaDoorW.PrintLast
theorem OctetParts : ∀ (a0 : ByteArray) (a1 : Int), a0.size ≤ 1048576 → (Lit.int .u8 a1).wf = true → ∃ k, glacislaw01_OctetParts.f k a0 a1 = some true := by
  intro s c hs hc
  refine Evn.ex (g := fun k => glacislaw01_OctetParts.f k s c) ?_
  unfold glacislaw01_OctetParts.f
  rw [split_f s c (by omega), words_f s (by omega)]
  simp only [Option.bind_some]
  have h1 := cutOf_len (fun x => x == c) true s
  have h2 := cutOf_len blankB false s
  refine Evn.bind awake01 (Evn.bind (ref_split s c (by omega)) (Evn.bind (texts _ _ (by omega)) (Evn.bind (ref_words s (by omega)) (Evn.bind (texts _ _ (by omega)) ?_))))
  rw [textsEq_refl, textsEq_refl]
  exact Evn.some _
end Go.Proofs.YtdcnofkcaddkpaaDoor.Pure
