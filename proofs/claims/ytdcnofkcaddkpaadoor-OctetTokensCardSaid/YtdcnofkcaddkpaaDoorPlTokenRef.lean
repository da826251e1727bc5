/- The document's own test of tokens, and whether a byte is among others. -/
import Derived.Test.YtdcnofkcaddkpaaDoorPlToken
namespace Go.Proofs.YtdcnofkcaddkpaaDoor.Pl
set_option linter.unusedVariables false
set_option linter.unusedSimpArgs false
open Go.RowKit Go.Proofs.YtdcnofkcaddkpaaDoor.Q Go.Proofs.YtdcnofkcaddkpaaDoorW.PrintWords Go.Proofs.YtdcnofkcaddkpaaDoorW.PrintLast

theorem rtch_nat : ∀ n : Nat, n < 256 → glacisref01_Tchar.f 20 (n : Int) = some (tch (n : Int)) := by decide +kernel
theorem rtch (s : ByteArray) (i : Int) : Evn (fun k => glacisref01_Tchar.f k (bt s i)) (tch (bt s i)) := by
  obtain ⟨n, h, e⟩ := nat_of_bt s i
  rw [e]
  exact Evn.mono (k := 20) (rtch_nat n h) (fun k h => glacisref01_Tchar.mono _ k _ h)
theorem rtok_l0 (s : ByteArray) (hs : s.size ≤ 281474976710656) : ∀ (d i : Nat), s.size - i = d → i ≤ s.size →
    Evn (fun k => glacisref01_Token.l0 k s i) (tokFrom s d i && s.toList != []) := by
  intro d
  induction d with
  | zero =>
    intro i hd hi
    refine Evn.succ ?_
    simp only [glacisref01_Token.l0]
    exact Evn.iff_neg (by omega) (Evn.ret (by simp [tokFrom]))
  | succ d ih =>
    intro i hd hi
    refine Evn.succ ?_
    simp only [glacisref01_Token.l0]
    refine Evn.iff_pos (by omega) (Evn.iff_pos (by omega) (Evn.bind (rtch s _) ?_))
    rw [wr64 (by omega) (by omega)]
    unfold tokFrom
    cases h : tch (bt s (i : Int)) with
    | true => exact Evn.iff_pos rfl (by simpa using ih (i + 1) (by omega) (by omega))
    | false => exact Evn.iff_neg (by decide) (Evn.ret (by simp))
theorem ref_token (s : ByteArray) (hs : s.size ≤ 281474976710656) : Evn (fun k => glacisref01_Token.f k s) (tokB s) := by
  unfold glacisref01_Token.f tokB
  exact rtok_l0 s hs _ 0 rfl (Nat.zero_le _)
end Go.Proofs.YtdcnofkcaddkpaaDoor.Pl
