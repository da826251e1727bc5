/- The document's number comes to the same reading. -/
import Derived.Test.YtdcnofkcaddkpaaDoorPlNumber
namespace Go.Proofs.YtdcnofkcaddkpaaDoor.Pl
set_option linter.unusedVariables false
set_option linter.unusedSimpArgs false
open Go.RowKit Go.Proofs.YtdcnofkcaddkpaaDoor.Q Go.Proofs.YtdcnofkcaddkpaaDoorW.PrintWords Go.Proofs.YtdcnofkcaddkpaaDoorW.PrintLast

theorem digit_f (c : Int) : glacisref01_Digit.f c = some (decide (48 ≤ c ∧ c ≤ 57)) := by
  unfold glacisref01_Digit.f
  by_cases h : c ≥ 48
  · rw [if_pos h]; congr 1; rw [decide_eq_decide]; omega
  · rw [if_neg h]; congr 1; symm; rw [decide_eq_false_iff_not]; omega
theorem rnum_l0 (s : ByteArray) (hs : s.size ≤ 281474976710656) (most : Int) (hm : 0 ≤ most ∧ most ≤ 9223372036854775807) : ∀ (d i : Nat) (n : Int), s.size - i = d → i ≤ s.size → 0 ≤ n → n ≤ most →
    Evn (fun k => glacisref01_Number.l0 k s most n i) (numFrom s most d i n) := by
  intro d
  induction d with
  | zero =>
    intro i n hd hi h0 h1
    refine Evn.succ ?_
    simp only [glacisref01_Number.l0]
    exact Evn.iff_neg (by omega) (Evn.some _)
  | succ d ih =>
    intro i n hd hi h0 h1
    obtain ⟨b0, b1⟩ := bt_range s (i : Int)
    refine Evn.succ ?_
    simp only [glacisref01_Number.l0]
    unfold numFrom
    generalize bt s (i : Int) = b at *
    refine Evn.iff_pos (by omega) (Evn.iff_pos (by omega) (Evn.bind (Evn.ret (digit_f b)) ?_))
    by_cases c1 : 48 ≤ b ∧ b ≤ 57
    · rw [show decide (48 ≤ b ∧ b ≤ 57) = true from decide_eq_true c1]
      have em : (b - 48) % 256 = b - 48 := by omega
      rw [em]
      refine Evn.iff_pos rfl ?_
      rw [wr64 (x := most - (b - 48)) (by omega) (by omega)]
      by_cases c3 : b - 48 > most
      · rw [if_pos (by omega)]
        by_cases c4 : n > wrap64 (Int.tdiv (most - (b - 48)) 10)
        · exact Evn.iff_pos c4 (Evn.some _)
        · exact Evn.iff_neg c4 (Evn.iff_pos c3 (Evn.some _))
      have e : Int.tdiv (most - (b - 48)) 10 = (most - (b - 48)) / 10 := Int.tdiv_eq_ediv_of_nonneg (by omega)
      rw [e, wr64 (x := (most - (b - 48)) / 10) (by omega) (by omega)]
      by_cases c4 : n > (most - (b - 48)) / 10
      · rw [if_pos (by omega)]; exact Evn.iff_pos c4 (Evn.some _)
      rw [if_neg (by omega)]
      refine Evn.iff_neg c4 (Evn.iff_neg c3 ?_)
      rw [wr64 (x := 10 * n) (by omega) (by omega), wr64 (by omega) (by omega), wr64 (by omega) (by omega)]
      exact ih (i + 1) (10 * n + (b - 48)) (by omega) (by omega) (by omega) (by omega)
    · rw [show decide (48 ≤ b ∧ b ≤ 57) = false from decide_eq_false c1, if_pos (by omega)]
      exact Evn.iff_neg (by decide) (Evn.some _)
theorem ref_number (s : ByteArray) (hs : s.size ≤ 281474976710656) (most : Int) (hm : -9223372036854775808 ≤ most ∧ most ≤ 9223372036854775807) : Evn (fun k => glacisref01_Number.f k s most) (numB s most) := by
  unfold glacisref01_Number.f numB
  have ht : Evn (fun k => glacisref01_Number.j0 k s most true) (0, false) := by
    refine Evn.succ ?_
    simp only [glacisref01_Number.j0]
    exact Evn.iff_pos (by simp) (Evn.some _)
  have hf : 0 ≤ most → Evn (fun k => glacisref01_Number.j0 k s most false) (numFrom s most s.size 0 0) := by
    intro h
    refine Evn.succ ?_
    simp only [glacisref01_Number.j0]
    exact Evn.iff_neg (by decide) (rnum_l0 s hs most ⟨h, hm.2⟩ _ 0 0 rfl (Nat.zero_le _) (Int.le_refl _) h)
  by_cases h1 : s.toList = []
  · rw [if_pos (.inl ((toList_nil s).1 h1))]
    exact Evn.iff_pos h1 ht
  have h1' : ¬ s.size = 0 := fun h => h1 ((toList_nil s).2 h)
  refine Evn.iff_neg h1 ?_
  by_cases h2 : most < 0
  · rw [if_pos (by omega)]
    exact Evn.iff_pos h2 ht
  refine Evn.iff_neg h2 (Evn.iff_pos (by omega) ?_)
  by_cases h3 : bt s 0 = 48
  · by_cases h4 : 1 < s.size
    · rw [if_pos (by omega)]
      have e : decide ((s.size : Int) > 1) = true := decide_eq_true (by omega)
      rw [e]
      exact Evn.iff_pos h3 ht
    · rw [if_neg (by omega)]
      have e : decide ((s.size : Int) > 1) = false := decide_eq_false (by omega)
      rw [e]
      exact Evn.iff_pos h3 (hf (by omega))
  · rw [if_neg (by omega)]
    exact Evn.iff_neg h3 (hf (by omega))
end Go.Proofs.YtdcnofkcaddkpaaDoor.Pl
