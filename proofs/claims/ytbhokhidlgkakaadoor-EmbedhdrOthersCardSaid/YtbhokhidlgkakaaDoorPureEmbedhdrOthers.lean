/- Lines of other names change neither, and the names' letters may be great or small: over the printed functions. -/
import Derived.Test.YtbhokhidlgkakaaDoorPlTurn
namespace Go.Proofs.YtbhokhidlgkakaaDoor.Pure
set_option linter.unusedVariables false
set_option linter.unusedSimpArgs false
open Go.RowKit Go.Proofs.YtbhokhidlgkakaaDoor.Q Go.Proofs.YtbhokhidlgkakaaDoor.Pl Go.Proofs.YtbhokhidlgkakaaDoorW.PrintWords Go.Proofs.YtbhokhidlgkakaaDoorW.PrintLast
def lowHdrs (n v : ByteArray) (l : List S28) : List S28 := l.flatMap (fun x => [⟨n, v⟩, ⟨lowBA x.f0, x.f1⟩])
theorem lowHdrs_snoc (n v : ByteArray) (l : List S28) (x : S28) : lowHdrs n v (l ++ [x]) = lowHdrs n v l ++ [⟨n, v⟩, ⟨lowBA x.f0, x.f1⟩] := by
  unfold lowHdrs
  rw [List.flatMap_append]
  simp
theorem lowHdrs_len (n v : ByteArray) (l : List S28) : (lowHdrs n v l).length = 2 * l.length := by
  induction l with
  | nil => rfl
  | cons x l ih =>
    show ([_, _] ++ lowHdrs n v l).length = _
    rw [List.length_append, ih, List.length_cons]
    simp only [List.length_cons, List.length_nil]
    omega
theorem valsOf_lowHdrs (n v name : ByteArray) (hn : foldEq n name = false) (l : List S28) : valsOf (lowHdrs n v l) name = valsOf l name := by
  induction l with
  | nil => rfl
  | cons x l ih =>
    have e : lowHdrs n v (x :: l) = [⟨n, v⟩] ++ ([⟨lowBA x.f0, x.f1⟩] ++ lowHdrs n v l) := rfl
    have e2 : x :: l = [x] ++ l := rfl
    rw [e, valsOf_append, valsOf_append, ih, e2, valsOf_append]
    have h1 : valsOf [(⟨n, v⟩ : S28)] name = [] := by
      unfold valsOf
      rw [List.filter_cons_of_neg (by simp [hn])]
      rfl
    have h2 : valsOf [(⟨lowBA x.f0, x.f1⟩ : S28)] name = valsOf [x] name := by
      unfold valsOf
      simp only [List.filter_cons, List.filter_nil, foldEq_low]
      split <;> rfl
    rw [h1, h2, List.nil_append]
theorem small_low {l : List S28} {n v : ByteArray} (h : Small l 90 4000) (hn : n.size ≤ 200) (hv : v.size ≤ 4000) : Small (lowHdrs n v l) 180 4000 := by
  refine ⟨by rw [lowHdrs_len]; have := h.1; omega, fun x hx => ?_⟩
  unfold lowHdrs at hx
  obtain ⟨y, hy, hx⟩ := List.mem_flatMap.1 hx
  obtain ⟨h0, h1⟩ := h.2 y hy
  rcases List.mem_cons.1 hx with rfl | hx
  · exact ⟨by show n.size ≤ _; omega, hv⟩
  · rw [List.mem_singleton] at hx
    subst hx
    exact ⟨by show (lowBA y.f0).size ≤ _; rw [low_sz]; exact h0, h1⟩
theorem others_l0 (l : List S28) (n v : ByteArray) (hs : Small l 90 4000) (hn : n.size ≤ 200) (hv : v.size ≤ 4000) (hc : foldEq n corpName = false) (hx : foldEq n xfoName = false) : ∀ (d i : Nat), l.length - i = d → i ≤ l.length →
    Evn (fun k => glacislaw09_EmbedhdrOthers.l0 k l true (lowHdrs n v (l.take i)) (i : Int) n v) true := by
  intro d
  have hll := hs.1
  induction d with
  | zero =>
    intro i hd hi
    obtain rfl : i = l.length := by omega
    rw [List.take_length]
    refine Evn.succ ?_
    simp only [glacislaw09_EmbedhdrOthers.l0]
    refine Evn.iff_neg (by omega) ?_
    by_cases h : ((lowHdrs n v l).length : Int) > 100
    · exact Evn.iff_pos h (Evn.some _)
    · refine Evn.iff_neg h ?_
      have hs2 := small_low hs hn hv
      have c1 := corp_f hs (by omega) (by omega)
      have c2 := corp_f hs2 (by omega) (by omega)
      have x1 := xfo_f hs (by omega) (by omega)
      have x2 := xfo_f hs2 (by omega) (by omega)
      rw [valsOf_lowHdrs n v _ hc] at c2
      unfold partsOf at x1 x2
      rw [valsOf_lowHdrs n v _ hx] at x2
      rw [c1, c2, x1, x2]
      refine Evn.ret ?_
      simp
  | succ d ih =>
    intro i hd hi
    have hlt : i < l.length := by omega
    have hih := ih (i + 1) (by omega) (by omega)
    rw [List.take_succ_eq_append_getElem hlt, lowHdrs_snoc] at hih
    have hlen := lowHdrs_len n v (l.take i)
    rw [List.length_take] at hlen
    refine Evn.succ ?_
    simp only [glacislaw09_EmbedhdrOthers.l0]
    refine Evn.iff_pos (by omega) (Evn.iff_pos (by omega) ?_)
    rw [rd_hdr l i hlt]
    obtain ⟨h0, h1⟩ := hs.2 l[i] (List.getElem_mem hlt)
    generalize l[i] = x at *
    rw [lower_f x.f0 h0]
    simp only [Option.bind_some]
    refine Evn.iff_pos (by simp only [List.length_cons, List.length_nil]; omega) ?_
    rw [wr64 (by omega) (by omega), show ((i : Int) + 1) = ((i + 1 : Nat) : Int) by omega]
    exact hih
theorem name_ne {n name : ByteArray} (h : ¬ lowBA n = name) (hn : lowBA name = name) : foldEq n name = false := by
  rw [Bool.eq_false_iff]
  intro e
  rw [foldEq_iff, hn] at e
  exact h e
theorem EmbedhdrOthers : ∀ (a0 : List S28) (a1_0 a1_1 : ByteArray), a0.length * 32 ≤ 140737488351232 → (∀ x ∈ a0, x.f0.size ≤ 140737488351232 ∧ x.f1.size ≤ 140737488351232) → a1_0.size ≤ 140737488351232 → a1_1.size ≤ 140737488351232 → ∃ k, glacislaw09_EmbedhdrOthers.f k a0 a1_0 a1_1 = some true := by
  intro l n v hl _ hn hv
  refine Evn.ex (g := fun k => glacislaw09_EmbedhdrOthers.f k l n v) ?_
  unfold glacislaw09_EmbedhdrOthers.f
  refine Evn.bind awake09 ?_
  simp only [Option.bind_some]
  refine Evn.iff_pos (by simp only [List.length_nil]; omega) ?_
  refine Evn.iff_pos (by simp only [List.length_append, List.length_nil, List.length_cons]; omega) ?_
  rw [List.nil_append]
  refine Evn.bind (few (l ++ [⟨n, v⟩])) ?_
  rw [lower_f n (by omega)]
  simp only [Option.bind_some]
  have out : Evn (fun k => glacislaw09_EmbedhdrOthers.j0 k l true true n v) true := by
    refine Evn.succ ?_
    simp only [glacislaw09_EmbedhdrOthers.j0]
    exact Evn.iff_pos (by simp) (Evn.some _)
  by_cases hf : fewB (l ++ [⟨n, v⟩]) = true
  · refine Evn.iff_pos hf ?_
    have hs := small_few hf
    by_cases h90 : l.length ≤ 90
    · refine Evn.iff_neg (by omega) ?_
      by_cases hx : lowBA n = xfoName
      · refine Evn.iff_pos ?_ out
        rw [hx, Lib.toList_data]
        rfl
      · refine Evn.iff_neg (fun e => hx ((toList_iff _ xfoName).1 (e.trans (by rw [Lib.toList_data]; rfl)))) ?_
        have ec : ([99, 114, 111, 115, 115, 45, 111, 114, 105, 103, 105, 110, 45, 114, 101, 115, 111, 117, 114, 99, 101, 45, 112, 111, 108, 105, 99, 121] : List UInt8) = corpName.toList := by rw [Lib.toList_data]; rfl
        rw [ec]
        by_cases hc : lowBA n = corpName
        · have e : ((lowBA n).toList == corpName.toList) = true := by rw [hc]; simp
          show Evn (fun k => glacislaw09_EmbedhdrOthers.j0 k l true ((lowBA n).toList == corpName.toList) n v) true
          rw [e]
          exact out
        · have e : ((lowBA n).toList == corpName.toList) = false := by rw [beq_toList]; simpa using hc
          show Evn (fun k => glacislaw09_EmbedhdrOthers.j0 k l true ((lowBA n).toList == corpName.toList) n v) true
          rw [e]
          refine Evn.succ ?_
          simp only [glacislaw09_EmbedhdrOthers.j0]
          refine Evn.iff_neg (by simp) ?_
          have hn2 : n.size ≤ 200 ∧ v.size ≤ 4000 := by
            unfold fewB at hf
            simp only [Bool.and_eq_true, List.all_eq_true] at hf
            have := hf.2 ⟨n, v⟩ (by simp)
            unfold fewP at this
            simpa using this
          exact others_l0 l n v ⟨h90, fun x hx => hs.2 x (List.mem_append_left _ hx)⟩ hn2.1 hn2.2 (name_ne hc (by kernel_rfl)) (name_ne hx (by kernel_rfl)) _ 0 rfl (by omega)
    · exact Evn.iff_pos (by omega) out
  · exact Evn.iff_neg hf out
end Go.Proofs.YtbhokhidlgkakaaDoor.Pure
