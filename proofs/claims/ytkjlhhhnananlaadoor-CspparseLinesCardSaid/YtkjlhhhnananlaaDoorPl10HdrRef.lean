/- Heads: what the statements let in, and the document's answers. -/
import Derived.Test.YtkjlhhhnananlaaDoorPl10Hdr
import Derived.Test.YtkjlhhhnananlaaDoorPl10LowRef
namespace Go.Proofs.YtkjlhhhnananlaaDoor.Pl
set_option linter.unusedVariables false
set_option linter.unusedSimpArgs false
open Go.RowKit Go.Proofs.YtkjlhhhnananlaaDoor.Q Go.Proofs.YtkjlhhhnananlaaDoorW.PrintWords Go.Proofs.YtkjlhhhnananlaaDoorW.PrintLast

def fewP (h : S38) : Bool := decide (h.f0.size ≤ 200) && decide (h.f1.size ≤ 4000)
def fewB (l : List S38) : Bool := decide (l.length ≤ 100) && l.all fewP
theorem few_l0 (l : List S38) (hl : l.length ≤ 100) : ∀ (d i : Nat), l.length - i = d → i ≤ l.length → Evn (fun k => glacislaw08_Few.l0 k l (i : Int)) ((l.drop i).all fewP) := by
  intro d
  induction d with
  | zero =>
    intro i hd hi
    obtain rfl : i = l.length := by omega
    refine Evn.succ ?_
    simp only [glacislaw08_Few.l0]
    refine Evn.iff_neg (by omega) ?_
    rw [List.drop_length]
    exact Evn.some _
  | succ d ih =>
    intro i hd hi
    have hlt : i < l.length := by omega
    refine Evn.succ ?_
    simp only [glacislaw08_Few.l0]
    refine Evn.iff_pos (by omega) (Evn.iff_pos (by omega) ?_)
    rw [rd_hdr l i hlt, List.drop_eq_getElem_cons hlt, List.all_cons]
    generalize l[i] = h
    unfold fewP
    by_cases h0 : h.f0.size ≤ 200
    · refine Evn.iff_neg (by omega) ?_
      by_cases h1 : h.f1.size ≤ 4000
      · refine Evn.iff_neg (by omega) ?_
        rw [wr64 (by omega) (by omega), show ((i : Int) + 1) = ((i + 1 : Nat) : Int) by omega]
        simp only [h0, h1, decide_true, Bool.and_true, Bool.true_and]
        exact ih (i + 1) (by omega) (by omega)
      · refine Evn.iff_pos (by omega) ?_
        simp only [h0, h1, decide_true, decide_false, Bool.and_false, Bool.false_and]
        exact Evn.some _
    · refine Evn.iff_pos (by omega) ?_
      simp only [h0, decide_false, Bool.false_and]
      exact Evn.some _
theorem few (l : List S38) : Evn (fun k => glacislaw08_Few.f k l) (fewB l) := by
  unfold glacislaw08_Few.f fewB
  by_cases h : l.length ≤ 100
  · refine Evn.iff_neg (by omega) ?_
    simp only [h, decide_true, Bool.true_and]
    exact few_l0 l h _ 0 rfl (by omega)
  · refine Evn.iff_pos (by omega) ?_
    simp only [h, decide_false, Bool.false_and]
    exact Evn.some _
theorem small_few {l : List S38} (h : fewB l = true) : Small l 100 4000 := by
  unfold fewB at h
  simp only [Bool.and_eq_true, decide_eq_true_eq, List.all_eq_true] at h
  refine ⟨h.1, fun x hx => ?_⟩
  have := h.2 x hx
  unfold fewP at this
  simp only [Bool.and_eq_true, decide_eq_true_eq] at this
  exact ⟨by omega, this.2⟩
theorem ref_values_l0 (l : List S38) {n m : Nat} (h : Small l n m) (hn : n ≤ 4398046511000) (hm : m ≤ 281474976710656) (name : ByteArray) (hz : name.size ≤ 281474976710656) : ∀ (d i : Nat), l.length - i = d → i ≤ l.length →
    Evn (fun k => glacisref07_Values.l0 k l name (valsOf (l.take i) name) (i : Int)) (valsOf l name) := by
  intro d
  have hll := h.1
  induction d with
  | zero =>
    intro i hd hi
    obtain rfl : i = l.length := by omega
    refine Evn.succ ?_
    simp only [glacisref07_Values.l0]
    refine Evn.iff_neg (by omega) ?_
    rw [List.take_length]
    exact Evn.some _
  | succ d ih =>
    intro i hd hi
    have hlt : i < l.length := by omega
    have hih := ih (i + 1) (by omega) (by omega)
    rw [List.take_succ_eq_append_getElem hlt, valsOf_snoc] at hih
    refine Evn.succ ?_
    simp only [glacisref07_Values.l0]
    refine Evn.iff_pos (by omega) (Evn.iff_pos (by omega) ?_)
    rw [rd_hdr l i hlt]
    obtain ⟨h0, h1⟩ := h.2 l[i] (List.getElem_mem hlt)
    generalize l[i] = x at *
    rw [ref_fold _ _ h0 hz]
    simp only [Option.bind_some]
    by_cases hf : foldEq x.f0 name = true
    · refine Evn.iff_pos hf (Evn.bind (ref_trim x.f1 (by omega)) ?_)
      rw [if_pos hf] at hih
      have hvl := valsOf_len (l.take i) name
      rw [List.length_take] at hvl
      refine Evn.iff_pos (by omega) ?_
      rw [wr64 (by omega) (by omega), show ((i : Int) + 1) = ((i + 1 : Nat) : Int) by omega]
      exact hih
    · refine Evn.iff_neg hf ?_
      rw [if_neg hf, List.append_nil] at hih
      rw [wr64 (by omega) (by omega), show ((i : Int) + 1) = ((i + 1 : Nat) : Int) by omega]
      exact hih
theorem ref_values {l : List S38} {n m : Nat} (h : Small l n m) (hn : n ≤ 4398046511000) (hm : m ≤ 281474976710656) (name : ByteArray) (hz : name.size ≤ 281474976710656) : Evn (fun k => glacisref07_Values.f k l name) (valsOf l name) := by
  unfold glacisref07_Values.f
  exact ref_values_l0 l h hn hm name hz _ 0 rfl (by omega)
end Go.Proofs.YtkjlhhhnananlaaDoor.Pl
