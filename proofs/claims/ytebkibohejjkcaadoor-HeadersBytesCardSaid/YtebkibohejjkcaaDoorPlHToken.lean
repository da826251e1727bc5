/- Tokens: a test of all bytes. -/
import Derived.Test.YtebkibohejjkcaaDoorPlLow
namespace Go.Proofs.YtebkibohejjkcaaDoor.Pl
set_option linter.unusedVariables false
set_option linter.unusedSimpArgs false
open Go.RowKit Go.Proofs.YtebkibohejjkcaaDoor.Q Go.Proofs.YtebkibohejjkcaaDoorW.PrintWords Go.Proofs.YtebkibohejjkcaaDoorW.PrintLast

/-- May a token have a byte? -/
def tch (c : Int) : Bool := (octet_tchar.f c).getD false
theorem tch_nat : ∀ n : Nat, n < 256 → octet_tchar.f (n : Int) = some (tch (n : Int)) := by decide +kernel
theorem tch_low_nat : ∀ n : Nat, n < 256 → tch (lowByte (n : Int)) = tch (n : Int) := by decide +kernel
theorem nat_of_bt (s : ByteArray) (i : Int) : ∃ n : Nat, n < 256 ∧ bt s i = (n : Int) := by
  obtain ⟨h0, h1⟩ := bt_range s i
  obtain ⟨n, hn⟩ := Int.eq_ofNat_of_zero_le h0
  exact ⟨n, by omega, hn⟩
theorem tch_f (s : ByteArray) (i : Int) : octet_tchar.f (bt s i) = some (tch (bt s i)) := by
  obtain ⟨n, h, e⟩ := nat_of_bt s i
  rw [e]; exact tch_nat n h
/-- From byte i on: may a token have all of them? -/
def tokFrom (s : ByteArray) : Nat → Nat → Bool
  | 0, _ => true
  | d + 1, i => tch (bt s i) && tokFrom s d (i + 1)
def tokB (s : ByteArray) : Bool := tokFrom s s.size 0 && s.toList != []
theorem tok_l0 (s : ByteArray) (hs : s.size ≤ 281474976710656) : ∀ (d i : Nat), s.size - i = d → i ≤ s.size →
    Evn (fun k => octet_Token.l0 k s s.size i) (tokFrom s d i && s.toList != []) := by
  intro d
  induction d with
  | zero =>
    intro i hd hi
    refine Evn.succ ?_
    simp only [octet_Token.l0]
    exact Evn.iff_neg (by omega) (Evn.ret (by simp [tokFrom]))
  | succ d ih =>
    intro i hd hi
    refine Evn.succ ?_
    simp only [octet_Token.l0]
    refine Evn.iff_pos (by omega) (Evn.iff_pos (by omega) (Evn.iff_pos (by omega) (Evn.bind (Evn.ret (tch_f s _)) ?_)))
    rw [wr64 (by omega) (by omega)]
    unfold tokFrom
    cases h : tch (bt s (i : Int)) with
    | true => exact Evn.iff_pos rfl (by simpa using ih (i + 1) (by omega) (by omega))
    | false => exact Evn.iff_neg (by decide) (Evn.ret (by simp))
theorem token (s : ByteArray) (hs : s.size ≤ 281474976710656) : Evn (fun k => octet_Token.f k s) (tokB s) := by
  unfold octet_Token.f tokB
  exact tok_l0 s hs _ 0 rfl (Nat.zero_le _)
end Go.Proofs.YtebkibohejjkcaaDoor.Pl
