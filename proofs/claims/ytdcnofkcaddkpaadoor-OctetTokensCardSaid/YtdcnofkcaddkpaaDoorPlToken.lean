/- Tokens: both functions come to one test of all bytes. -/
import Derived.Test.YtdcnofkcaddkpaaDoorPlOctet
namespace Go.Proofs.YtdcnofkcaddkpaaDoor.Pl
set_option linter.unusedVariables false
set_option linter.unusedSimpArgs false
open Go.RowKit Go.Proofs.YtdcnofkcaddkpaaDoor.Q Go.Proofs.YtdcnofkcaddkpaaDoorW.PrintWords Go.Proofs.YtdcnofkcaddkpaaDoorW.PrintLast

/-- May a token have a byte? -/
def tch (c : Int) : Bool := (octet_tchar.f c).getD false
theorem tch_nat : ∀ n : Nat, n < 256 → octet_tchar.f (n : Int) = some (tch (n : Int)) := by decide +kernel
theorem tch_low_nat : ∀ n : Nat, n < 256 → tch (lowByte (n : Int)) = tch (n : Int) := by decide +kernel
theorem nat_of_bt (s : ByteArray) (i : Int) : ∃ n : Nat, n < 256 ∧ bt s i = (n : Int) := by
  obtain ⟨h0, h1⟩ := bt_range s i
  obtain ⟨n, hn⟩ := Int.eq_ofNat_of_zero_le h0
  exact ⟨n, by omega, hn⟩
theorem tch_f (s : ByteArray) (i : Int) : octet_tchar.f (bt s i) = some (tch (bt s i)) := by
  obtain ⟨n, h, e⟩ := nat_of_bt s i
  rw [e]; exact tch_nat n h
/-- From byte i on: may a token have all of them? -/
def tokFrom (s : ByteArray) : Nat → Nat → Bool
  | 0, _ => true
  | d + 1, i => tch (bt s i) && tokFrom s d (i + 1)
def tokB (s : ByteArray) : Bool := tokFrom s s.size 0 && s.toList != []
theorem tok_l0 (s : ByteArray) (hs : s.size ≤ 281474976710656) : ∀ (d i : Nat), s.size - i = d → i ≤ s.size →
    Evn (fun k => octet_Token.l0 k s s.size i) (tokFrom s d i && s.toList != []) := by
  intro d
  induction d with
  | zero =>
    intro i hd hi
    refine Evn.succ ?_
    simp only [octet_Token.l0]
    exact Evn.iff_neg (by omega) (Evn.ret (by simp [tokFrom]))
  | succ d ih =>
    intro i hd hi
    refine Evn.succ ?_
    simp only [octet_Token.l0]
    refine Evn.iff_pos (by omega) (Evn.iff_pos (by omega) (Evn.iff_pos (by omega) (Evn.bind (Evn.ret (tch_f s _)) ?_)))
    rw [wr64 (by omega) (by omega)]
    unfold tokFrom
    cases h : tch (bt s (i : Int)) with
    | true => exact Evn.iff_pos rfl (by simpa using ih (i + 1) (by omega) (by omega))
    | false => exact Evn.iff_neg (by decide) (Evn.ret (by simp))
theorem token (s : ByteArray) (hs : s.size ≤ 281474976710656) : Evn (fun k => octet_Token.f k s) (tokB s) := by
  unfold octet_Token.f tokB
  exact tok_l0 s hs _ 0 rfl (Nat.zero_le _)
theorem tokFrom_low (s : ByteArray) : ∀ (d i : Nat), i + d ≤ s.size → tokFrom (lowBA s) d i = tokFrom s d i := by
  intro d
  induction d with
  | zero => intro i _; rfl
  | succ d ih =>
    intro i hi
    unfold tokFrom
    rw [ih (i + 1) (by omega)]
    have e : bt (lowBA s) (i : Int) = lowByte (bt s (i : Int)) := by
      have h1 : i < (bytesOf s).length := by rw [bytesOf_length]; omega
      have h3 := rd_bytesOf s (i : Int)
      simp only [rd, Int.toNat_natCast, List.getD_eq_getElem?_getD, List.getElem?_eq_getElem h1, Option.getD_some] at h3
      have h4 := bt_range s (i : Int)
      have h5 := lowByte_range _ h4.1 h4.2
      rw [bt_nat]
      unfold lowBA
      rw [strOfNums_data, List.getD_eq_getElem?_getD, List.getElem?_map, List.getElem?_map, List.getElem?_eq_getElem h1, h3]
      simp only [Option.map_some, Option.getD_some]
      rw [UInt8.toNat_ofNat']
      omega
    rw [e]
    obtain ⟨n, h, e'⟩ := nat_of_bt s (i : Int)
    rw [e', tch_low_nat n h]
theorem tokB_low (s : ByteArray) : tokB (lowBA s) = tokB s := by
  unfold tokB
  rw [low_size, tokFrom_low s _ 0 (by omega)]
  congr 1
  rw [Bool.eq_iff_iff]
  simp only [bne_iff_ne, ne_eq, toList_nil, low_size]
end Go.Proofs.YtdcnofkcaddkpaaDoor.Pl
