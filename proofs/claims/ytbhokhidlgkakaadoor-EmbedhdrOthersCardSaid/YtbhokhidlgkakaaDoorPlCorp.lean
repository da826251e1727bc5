/- The resource policy of a short head. -/
import Derived.Test.YtbhokhidlgkakaaDoorPlHdr
namespace Go.Proofs.YtbhokhidlgkakaaDoor.Pl
set_option linter.unusedVariables false
set_option linter.unusedSimpArgs false
open Go.RowKit Go.Proofs.YtbhokhidlgkakaaDoor.Q Go.Proofs.YtbhokhidlgkakaaDoorW.PrintWords Go.Proofs.YtbhokhidlgkakaaDoorW.PrintLast

theorem corp_f {l : List S28} {n m : Nat} (h : Small l n m) (hn : n ≤ 100000) (hm : m ≤ 100000) : embedhdr_Corp.f l = some (corpOf (joinBA (valsOf l corpName) comSp)) := by
  unfold embedhdr_Corp.f
  rw [combined_f h (by omega) (by omega) corpName (by decide)]
  simp only [Option.bind_some]
  have h1 := join_size (valsOf l corpName) comSp m (fun x hx => vals_small h corpName x hx)
  have h2 := valsOf_len l corpName
  have h3 := h.1
  have h4 : (valsOf l corpName).length * (m + comSp.size) ≤ 100000 * 100002 := Nat.mul_le_mul (by omega) (by show m + 2 ≤ 100002; omega)
  rw [if_pos (by omega)]
theorem corpOf_eq (v : ByteArray) : (if v.toList = ([115, 97, 109, 101, 45, 111, 114, 105, 103, 105, 110] : List UInt8) then some (1 : Int) else if v.toList = ([115, 97, 109, 101, 45, 115, 105, 116, 101] : List UInt8) then some 2 else if v.toList = ([99, 114, 111, 115, 115, 45, 111, 114, 105, 103, 105, 110] : List UInt8) then some 3 else some 0) = some (corpOf v) := by
  have e : ∀ t : ByteArray, (v.toList = t.toList) = (v = t) := fun t => propext (toList_iff v t)
  have e1 : (v.toList = ([115, 97, 109, 101, 45, 111, 114, 105, 103, 105, 110] : List UInt8)) = (v = ⟨#[115, 97, 109, 101, 45, 111, 114, 105, 103, 105, 110]⟩) := by rw [← e]; simp only [Lib.toList_data]
  have e2 : (v.toList = ([115, 97, 109, 101, 45, 115, 105, 116, 101] : List UInt8)) = (v = ⟨#[115, 97, 109, 101, 45, 115, 105, 116, 101]⟩) := by rw [← e]; simp only [Lib.toList_data]
  have e3 : (v.toList = ([99, 114, 111, 115, 115, 45, 111, 114, 105, 103, 105, 110] : List UInt8)) = (v = ⟨#[99, 114, 111, 115, 115, 45, 111, 114, 105, 103, 105, 110]⟩) := by rw [← e]; simp only [Lib.toList_data]
  simp only [e1, e2, e3]
  unfold corpOf
  by_cases h1 : v = ⟨#[115, 97, 109, 101, 45, 111, 114, 105, 103, 105, 110]⟩
  · subst h1; decide
  by_cases h2 : v = ⟨#[115, 97, 109, 101, 45, 115, 105, 116, 101]⟩
  · subst h2; decide
  by_cases h3 : v = ⟨#[99, 114, 111, 115, 115, 45, 111, 114, 105, 103, 105, 110]⟩
  · subst h3; decide
  rw [if_neg h1, if_neg h2, if_neg h3, if_neg h3, if_neg h2, if_neg h1]
theorem ref_corp {l : List S28} {n m : Nat} (h : Small l n m) (hn : n ≤ 100000) (hm : m ≤ 100000) : Evn (fun k => glacisref09_Corp.f k l) (corpOf (joinBA (valsOf l corpName) comSp)) := by
  unfold glacisref09_Corp.f
  refine Evn.bind (ref_combined h (by omega) (by omega) corpName (by decide)) ?_
  refine Evn.ret ?_
  exact corpOf_eq _
end Go.Proofs.YtbhokhidlgkakaaDoor.Pl
