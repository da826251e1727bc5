/- Is a byte among others? -/
import Derived.Test.YtebkibohejjkcaaDoorPlHSplit
namespace Go.Proofs.YtebkibohejjkcaaDoor.Pl
set_option linter.unusedVariables false
set_option linter.unusedSimpArgs false
open Go.RowKit Go.Proofs.YtebkibohejjkcaaDoor.Q Go.Proofs.YtebkibohejjkcaaDoorW.PrintWords Go.Proofs.YtebkibohejjkcaaDoorW.PrintLast

def inB (c : Int) (l : List UInt8) : Bool := l.any (fun b => (b.toNat : Int) == c)
theorem in_l0 (c : Int) (s : ByteArray) (hs : s.size ≤ 281474976710656) : ∀ (d i : Nat), s.size - i = d → i ≤ s.size →
    Evn (fun k => glacisref01_In.l0 k c s i) (inB c ((dl s).drop i)) := by
  intro d
  induction d with
  | zero =>
    intro i hd hi
    refine Evn.succ ?_
    simp only [glacisref01_In.l0]
    refine Evn.iff_neg (by omega) (Evn.ret ?_)
    rw [List.drop_eq_nil_of_le (by rw [dl_len]; omega)]
    rfl
  | succ d ih =>
    intro i hd hi
    obtain ⟨b, hb, hbt⟩ := bt_dl s i (by omega)
    have hl : i < (dl s).length := by rw [dl_len]; omega
    rw [List.getElem?_eq_getElem hl] at hb
    have hb' := Option.some.inj hb
    refine Evn.succ ?_
    simp only [glacisref01_In.l0]
    refine Evn.iff_pos (by omega) (Evn.iff_pos (by omega) ?_)
    rw [wr64 (by omega) (by omega), hbt, List.drop_eq_getElem_cons hl, hb']
    by_cases h : (b.toNat : Int) = c
    · refine Evn.iff_pos h (Evn.ret ?_)
      simp [inB, h]
    · refine Evn.iff_neg h ?_
      have := ih (i + 1) (by omega) (by omega)
      have e : inB c (b :: (dl s).drop (i + 1)) = inB c ((dl s).drop (i + 1)) := by simp [inB, h]
      rw [e]
      exact this
theorem in_f (c : Int) (s : ByteArray) (hs : s.size ≤ 281474976710656) : Evn (fun k => glacisref01_In.f k c s) (inB c (dl s)) := by
  unfold glacisref01_In.f
  exact in_l0 c s hs _ 0 rfl (Nat.zero_le _)
theorem inB_false (c : Int) (l : List UInt8) (h : ∀ b, b ∈ l → ((b.toNat : Int) == c) = false) : inB c l = false := by
  unfold inB
  rw [List.any_eq_false]
  intro b hb
  simp [h b hb]
end Go.Proofs.YtebkibohejjkcaaDoor.Pl
