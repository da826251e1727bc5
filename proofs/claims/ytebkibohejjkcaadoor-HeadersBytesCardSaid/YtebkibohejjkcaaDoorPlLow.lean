/- Making small and trimming, of texts that are not too long. -/
import Derived.Test.YtebkibohejjkcaaDoorPlEv
import Derived.Test.YtebkibohejjkcaaDoorQx1
import Derived.Test.YtebkibohejjkcaaDoorQx2
import Derived.Test.YtebkibohejjkcaaDoorQx3
namespace Go.Proofs.YtebkibohejjkcaaDoor.Pl
set_option linter.unusedVariables false
set_option linter.unusedSimpArgs false
open Go.RowKit Go.Proofs.YtebkibohejjkcaaDoor.Q Go.Proofs.YtebkibohejjkcaaDoorW.PrintWords Go.Proofs.YtebkibohejjkcaaDoorW.PrintLast

theorem lower_f (s : ByteArray) (h : s.size ≤ 281474976710656) : octet_Lower.f s = some (lowBA s) := if_pos h
theorem trim_f (s : ByteArray) (h : s.size ≤ 281474976710656) : octet_Trim.f s = some (trimBA s) := if_pos h
theorem low_sz (s : ByteArray) : (lowBA s).size = s.size := by
  unfold lowBA
  rw [strOfNums_size, List.length_map, bytesOf_length]
theorem trim_size (s : ByteArray) : (trimBA s).size ≤ s.size := trim_len s
theorem toList_iff (s t : ByteArray) : s.toList = t.toList ↔ s = t := by
  constructor
  · intro h
    rw [Lib.toList_data, Lib.toList_data] at h
    exact ByteArray.ext (Array.toList_inj.1 h)
  · rintro rfl; rfl
theorem beq_toList (s t : ByteArray) : (s.toList == t.toList) = decide (s = t) := by
  by_cases h : s = t
  · subst h; simp
  · have : ¬ s.toList = t.toList := fun e => h ((toList_iff _ _).1 e)
    simp [h, this]
theorem foldEq_iff (s t : ByteArray) : foldEq s t = true ↔ lowBA s = lowBA t := by
  unfold foldEq
  rw [beq_toList]
  simp
/-- A list of headers at an index. -/
theorem rd_hdr (l : List S24) (i : Nat) (h : i < l.length) : rd_T24 l (i : Int) = l[i] := by simp [rd_T24, List.getD_eq_getElem?_getD, List.getElem?_eq_getElem h]
theorem rd_str (l : List ByteArray) (i : Nat) (h : i < l.length) : rdOf ByteArray.empty l (i : Int) = l[i] := by simp [rdOf, List.getD_eq_getElem?_getD, List.getElem?_eq_getElem h]
end Go.Proofs.YtebkibohejjkcaaDoor.Pl
