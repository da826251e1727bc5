/- Numbers: both functions come to one reading of digits. -/
import Derived.Test.YtdcnofkcaddkpaaDoorPlParts
namespace Go.Proofs.YtdcnofkcaddkpaaDoor.Pl
set_option linter.unusedVariables false
set_option linter.unusedSimpArgs false
open Go.RowKit Go.Proofs.YtdcnofkcaddkpaaDoor.Q Go.Proofs.YtdcnofkcaddkpaaDoorW.PrintWords Go.Proofs.YtdcnofkcaddkpaaDoorW.PrintLast

/-- From byte i on, d bytes, the number so far being n. -/
def numFrom (s : ByteArray) (most : Int) : Nat → Nat → Int → Int × Bool
  | 0, _, n => (n, true)
  | d + 1, i, n => if bt s i - 48 < 0 ∨ bt s i - 48 > 9 ∨ bt s i - 48 > most ∨ n > (most - (bt s i - 48)) / 10 then (0, false) else numFrom s most d (i + 1) (10 * n + (bt s i - 48))
def numB (s : ByteArray) (most : Int) : Int × Bool :=
  if s.size = 0 ∨ most < 0 ∨ (bt s 0 = 48 ∧ 1 < s.size) then (0, false) else numFrom s most s.size 0 0
theorem num_l0 (s : ByteArray) (hs : s.size ≤ 281474976710656) (most : Int) (hm : 0 ≤ most ∧ most ≤ 9223372036854775807) : ∀ (d i : Nat) (n : Int), s.size - i = d → i ≤ s.size → 0 ≤ n → n ≤ most →
    Evn (fun k => octet_Number.l0 k s most n s.size i) (numFrom s most d i n) := by
  intro d
  induction d with
  | zero =>
    intro i n hd hi h0 h1
    refine Evn.succ ?_
    simp only [octet_Number.l0]
    exact Evn.iff_neg (by omega) (Evn.some _)
  | succ d ih =>
    intro i n hd hi h0 h1
    obtain ⟨b0, b1⟩ := bt_range s (i : Int)
    refine Evn.succ ?_
    simp only [octet_Number.l0]
    unfold numFrom
    generalize bt s (i : Int) = b at *
    rw [wr64 (x := b) (by omega) (by omega), wr64 (x := b - 48) (by omega) (by omega)]
    refine Evn.iff_pos (by omega) (Evn.iff_pos (by omega) (Evn.iff_pos (by omega) ?_))
    by_cases c1 : b - 48 < 0
    · rw [if_pos (by omega)]; exact Evn.iff_pos c1 (Evn.some _)
    refine Evn.iff_neg c1 ?_
    by_cases c2 : b - 48 > 9
    · rw [if_pos (by omega)]; exact Evn.iff_pos c2 (Evn.some _)
    refine Evn.iff_neg c2 ?_
    by_cases c3 : b - 48 > most
    · rw [if_pos (by omega)]; exact Evn.iff_pos c3 (Evn.some _)
    refine Evn.iff_neg c3 ?_
    have e : Int.tdiv (most - (b - 48)) 10 = (most - (b - 48)) / 10 := Int.tdiv_eq_ediv_of_nonneg (by omega)
    rw [wr64 (x := most - (b - 48)) (by omega) (by omega), e, wr64 (x := (most - (b - 48)) / 10) (by omega) (by omega)]
    by_cases c4 : n > (most - (b - 48)) / 10
    · rw [if_pos (by omega)]; exact Evn.iff_pos c4 (Evn.some _)
    rw [if_neg (by omega)]
    refine Evn.iff_neg c4 ?_
    rw [wr64 (x := 10 * n) (by omega) (by omega), wr64 (by omega) (by omega), wr64 (by omega) (by omega)]
    exact ih (i + 1) (10 * n + (b - 48)) (by omega) (by omega) (by omega) (by omega)
theorem number (s : ByteArray) (hs : s.size ≤ 281474976710656) (most : Int) (hm : -9223372036854775808 ≤ most ∧ most ≤ 9223372036854775807) : Evn (fun k => octet_Number.f k s most) (numB s most) := by
  unfold octet_Number.f numB
  have hj : ∀ b, Evn (fun k => octet_Number.j0 k s most b) (if b = true then (0, false) else (numFrom s most s.size 0 0)) ∨ most < 0 := by
    intro b
    rcases (by omega : most < 0 ∨ 0 ≤ most) with h | h
    · exact .inr h
    · refine .inl (Evn.succ ?_)
      simp only [octet_Number.j0]
      cases b with
      | true => exact Evn.iff_pos (by simp) (Evn.some _)
      | false => exact Evn.iff_neg (by decide) (num_l0 s hs most ⟨h, hm.2⟩ _ 0 0 rfl (Nat.zero_le _) (Int.le_refl _) h)
  have ht : Evn (fun k => octet_Number.j0 k s most true) (0, false) := by
    refine Evn.succ ?_
    simp only [octet_Number.j0]
    exact Evn.iff_pos (by simp) (Evn.some _)
  have hd : Evn (fun k => octet_Number.j0 k s most (decide (most < 0))) (if most < 0 then (0, false) else numFrom s most s.size 0 0) := by
    rcases hj (decide (most < 0)) with h | h
    · simpa using h
    · rw [if_pos h]; simpa [h] using ht
  by_cases h1 : s.toList = []
  · rw [if_pos (.inl ((toList_nil s).1 h1))]
    exact Evn.iff_pos h1 ht
  have h1' : ¬ s.size = 0 := fun h => h1 ((toList_nil s).2 h)
  refine Evn.iff_neg h1 ?_
  by_cases h2 : s.toList = [48]
  · have hz : s.size = 1 := by rw [Lib.toList_data] at h2; rw [← data_length, h2]; rfl
    have e : (s.size = 0 ∨ most < 0 ∨ bt s 0 = 48 ∧ 1 < s.size) ↔ most < 0 := by omega
    simp only [e]
    exact Evn.iff_pos h2 hd
  refine Evn.iff_neg h2 (Evn.iff_pos (by omega) ?_)
  by_cases h3 : bt s 0 = 48
  · have hz : 1 < s.size := by
      rcases Nat.lt_or_ge 1 s.size with h | h
      · exact h
      · exfalso
        have hz1 : s.size = 1 := by omega
        obtain ⟨c, hc, hb⟩ := bt_dl s 0 (by omega)
        rw [show ((0 : Nat) : Int) = 0 from rfl] at hb
        rw [h3] at hb
        have hc48 : c = 48 := by
          have : c.toNat = 48 := by omega
          exact UInt8.toNat_inj.1 this
        have hl := dl_len s
        rw [hz1] at hl
        match hd : dl s, hl with
        | [x], _ =>
          rw [hd] at hc
          simp at hc
          apply h2
          rw [Lib.toList_data]
          show dl s = [48]
          rw [hd, hc, hc48]
    rw [if_pos (by omega)]
    exact Evn.iff_pos h3 ht
  · have e : (s.size = 0 ∨ most < 0 ∨ bt s 0 = 48 ∧ 1 < s.size) ↔ most < 0 := by omega
    simp only [e]
    exact Evn.iff_neg h3 hd
end Go.Proofs.YtdcnofkcaddkpaaDoor.Pl
