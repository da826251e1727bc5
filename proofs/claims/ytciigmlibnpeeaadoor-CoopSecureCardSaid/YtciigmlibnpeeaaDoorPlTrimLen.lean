/- A trimmed text is no longer than it was (for a seat without headers.Parts). -/
import Derived.Test.YtciigmlibnpeeaaDoorPlEv
import Derived.Test.YtciigmlibnpeeaaDoorQx3
namespace Go.Proofs.YtciigmlibnpeeaaDoor.Pl
set_option linter.unusedVariables false
set_option linter.unusedSimpArgs false
open Go.RowKit Go.Proofs.YtciigmlibnpeeaaDoor.Q Go.Proofs.YtciigmlibnpeeaaDoorW.PrintWords Go.Proofs.YtciigmlibnpeeaaDoorW.PrintLast
theorem trimBA_len (s : ByteArray) : (trimBA s).size ≤ s.size := by
  show (Lib.trimS s.data.toList [9, 10, 12, 13, 32]).toArray.size ≤ s.data.size
  unfold Lib.trimS Lib.trimLeftS Lib.trimRightS
  rw [List.size_toArray, ← Array.length_toList]
  refine Nat.le_trans (List.dropWhile_sublist _).length_le ?_
  rw [List.length_reverse]
  refine Nat.le_trans (List.dropWhile_sublist _).length_le ?_
  rw [List.length_reverse]
  exact Nat.le_refl _
end Go.Proofs.YtciigmlibnpeeaaDoor.Pl
