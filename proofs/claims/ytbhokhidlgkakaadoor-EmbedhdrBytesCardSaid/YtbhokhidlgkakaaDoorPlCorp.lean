/- The resource policy of a short head. -/
import Derived.Test.YtbhokhidlgkakaaDoorPlHdr
namespace Go.Proofs.YtbhokhidlgkakaaDoor.Pl
set_option linter.unusedVariables false
set_option linter.unusedSimpArgs false
open Go.RowKit Go.Proofs.YtbhokhidlgkakaaDoor.B Go.Proofs.YtbhokhidlgkakaaDoorW.PrintWords Go.Proofs.YtbhokhidlgkakaaDoorW.PrintLast

theorem corp_f {l : List S28} {n m : Nat} (h : Small l n m) (hn : n ≤ 100000) (hm : m ≤ 100000) : embedhdr_Corp.f l = some (corpOf (joinBA (valsOf l corpName) comSp)) := by
  unfold embedhdr_Corp.f
  rw [combined_f h (by omega) (by omega) corpName (by decide)]
  simp only [Option.bind_some]
  have h1 := join_size (valsOf l corpName) comSp m (fun x hx => vals_small h corpName x hx)
  have h2 := valsOf_len l corpName
  have h3 := h.1
  have h4 : (valsOf l corpName).length * (m + comSp.size) ≤ 100000 * 100002 := Nat.mul_le_mul (by omega) (by show m + 2 ≤ 100002; omega)
  rw [if_pos (by omega)]
end Go.Proofs.YtbhokhidlgkakaaDoor.Pl
