/- The octet functions, each at a text that is not too long. -/
import Derived.Test.YtdcnofkcaddkpaaDoorPlSplit
namespace Go.Proofs.YtdcnofkcaddkpaaDoor.Pl
set_option linter.unusedVariables false
set_option linter.unusedSimpArgs false
open Go.RowKit Go.Proofs.YtdcnofkcaddkpaaDoor.Q Go.Proofs.YtdcnofkcaddkpaaDoorW.PrintWords Go.Proofs.YtdcnofkcaddkpaaDoorW.PrintLast

theorem lower_f (s : ByteArray) (h : s.size ≤ 281474976710656) : octet_Lower.f s = some (lowBA s) := if_pos h
theorem trim_f (s : ByteArray) (h : s.size ≤ 281474976710656) : octet_Trim.f s = some (trimBA s) := if_pos h
theorem split_f (s : ByteArray) (c : Int) (h : s.size ≤ 8796093022200) : octet_Split.f s c = some (cutOf (fun x => x == c) true s) := if_pos h
theorem words_f (s : ByteArray) (h : s.size ≤ 8796093022200) : octet_Words.f s = some (cutOf blankB false s) := if_pos h
theorem low_size (s : ByteArray) : (lowBA s).size = s.size := by
  unfold lowBA
  rw [strOfNums_size, List.length_map, bytesOf_length]
theorem trimS_len (l cs : List UInt8) : (Lib.trimS l cs).length ≤ l.length := by
  unfold Lib.trimS Lib.trimLeftS Lib.trimRightS
  refine Nat.le_trans (List.dropWhile_sublist _).length_le ?_
  rw [List.length_reverse]
  refine Nat.le_trans (List.dropWhile_sublist _).length_le ?_
  rw [List.length_reverse]
  exact Nat.le_refl _
theorem trim_size (s : ByteArray) : (trimBA s).size ≤ s.size := by
  rw [← data_length, ← data_length s]
  exact trimS_len _ _
def foldB (s t : ByteArray) : Bool := (lowBA s).toList == (lowBA t).toList
theorem fold_f (s t : ByteArray) (h : s.size ≤ 281474976710656) (h' : t.size ≤ 281474976710656) : octet_Fold.f s t = some (foldB s t) := by
  unfold octet_Fold.f
  rw [lower_f s h, lower_f t h']
  rfl
end Go.Proofs.YtdcnofkcaddkpaaDoor.Pl
