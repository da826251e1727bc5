/- Making small and trimming, of texts that are not too long. -/
import Derived.Test.YtkjlhhhnananlaaDoorPlSplit
import Derived.Test.YtkjlhhhnananlaaDoorQx0
import Derived.Test.YtkjlhhhnananlaaDoorQx1
import Derived.Test.YtkjlhhhnananlaaDoorQx2
import Derived.Test.YtkjlhhhnananlaaDoorQx3
import Derived.Test.YtkjlhhhnananlaaDoorQx4
import Derived.Test.YtkjlhhhnananlaaDoorQx5
namespace Go.Proofs.YtkjlhhhnananlaaDoor.Pl
set_option linter.unusedVariables false
set_option linter.unusedSimpArgs false
open Go.RowKit Go.Proofs.YtkjlhhhnananlaaDoor.Q Go.Proofs.YtkjlhhhnananlaaDoorW.PrintWords Go.Proofs.YtkjlhhhnananlaaDoorW.PrintLast

theorem lower_f (s : ByteArray) (h : s.size ≤ 281474976710656) : octet_Lower.f s = some (lowBA s) := if_pos h
theorem trim_f (s : ByteArray) (h : s.size ≤ 281474976710656) : octet_Trim.f s = some (trimBA s) := if_pos h
theorem low_sz (s : ByteArray) : (lowBA s).size = s.size := by
  unfold lowBA
  rw [strOfNums_size, List.length_map, bytesOf_length]
theorem trimS_len (l cs : List UInt8) : (Lib.trimS l cs).length ≤ l.length := by
  unfold Lib.trimS Lib.trimLeftS Lib.trimRightS
  refine Nat.le_trans (List.dropWhile_sublist _).length_le ?_
  rw [List.length_reverse]
  refine Nat.le_trans (List.dropWhile_sublist _).length_le ?_
  rw [List.length_reverse]
  exact Nat.le_refl _
theorem trim_size (s : ByteArray) : (trimBA s).size ≤ s.size := by
  rw [← data_length, ← data_length s]
  exact trimS_len _ _
theorem beq_toList (s t : ByteArray) : (s.toList == t.toList) = decide (s = t) := by
  by_cases h : s = t
  · subst h; simp
  · have : ¬ s.toList = t.toList := fun e => h ((toList_iff _ _).1 e)
    simp [h, this]
theorem foldEq_iff (s t : ByteArray) : foldEq s t = true ↔ lowBA s = lowBA t := by
  unfold foldEq
  rw [beq_toList]
  simp
/-- A list of headers at an index. -/
theorem rd_hdr (l : List S38) (i : Nat) (h : i < l.length) : rd_T38 l (i : Int) = l[i] := by simp [rd_T38, List.getD_eq_getElem?_getD, List.getElem?_eq_getElem h]
theorem rd_str (l : List ByteArray) (i : Nat) (h : i < l.length) : rdOf ByteArray.empty l (i : Int) = l[i] := by simp [rdOf, List.getD_eq_getElem?_getD, List.getElem?_eq_getElem h]
end Go.Proofs.YtkjlhhhnananlaaDoor.Pl
