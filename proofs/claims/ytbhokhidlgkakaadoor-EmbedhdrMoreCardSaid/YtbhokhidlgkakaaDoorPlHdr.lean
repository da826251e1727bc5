/- Heads: few and short lines; a name's values; all of them together. -/
import Derived.Test.YtbhokhidlgkakaaDoorPlLow
namespace Go.Proofs.YtbhokhidlgkakaaDoor.Pl
set_option linter.unusedVariables false
set_option linter.unusedSimpArgs false
open Go.RowKit Go.Proofs.YtbhokhidlgkakaaDoor.Q Go.Proofs.YtbhokhidlgkakaaDoorW.PrintWords Go.Proofs.YtbhokhidlgkakaaDoorW.PrintLast

def fewP (h : S28) : Bool := decide (h.f0.size ≤ 200) && decide (h.f1.size ≤ 4000)
def fewB (l : List S28) : Bool := decide (l.length ≤ 100) && l.all fewP
theorem few_l0 (l : List S28) (hl : l.length ≤ 100) : ∀ (d i : Nat), l.length - i = d → i ≤ l.length → Evn (fun k => glacislaw08_Few.l0 k l (i : Int)) ((l.drop i).all fewP) := by
  intro d
  induction d with
  | zero =>
    intro i hd hi
    obtain rfl : i = l.length := by omega
    refine Evn.succ ?_
    simp only [glacislaw08_Few.l0]
    refine Evn.iff_neg (by omega) ?_
    rw [List.drop_length]
    exact Evn.some _
  | succ d ih =>
    intro i hd hi
    have hlt : i < l.length := by omega
    refine Evn.succ ?_
    simp only [glacislaw08_Few.l0]
    refine Evn.iff_pos (by omega) (Evn.iff_pos (by omega) ?_)
    rw [rd_hdr l i hlt, List.drop_eq_getElem_cons hlt, List.all_cons]
    generalize l[i] = h
    unfold fewP
    by_cases h0 : h.f0.size ≤ 200
    · refine Evn.iff_neg (by omega) ?_
      by_cases h1 : h.f1.size ≤ 4000
      · refine Evn.iff_neg (by omega) ?_
        rw [wr64 (by omega) (by omega), show ((i : Int) + 1) = ((i + 1 : Nat) : Int) by omega]
        simp only [h0, h1, decide_true, Bool.and_true, Bool.true_and]
        exact ih (i + 1) (by omega) (by omega)
      · refine Evn.iff_pos (by omega) ?_
        simp only [h0, h1, decide_true, decide_false, Bool.and_false, Bool.false_and]
        exact Evn.some _
    · refine Evn.iff_pos (by omega) ?_
      simp only [h0, decide_false, Bool.false_and]
      exact Evn.some _
theorem few (l : List S28) : Evn (fun k => glacislaw08_Few.f k l) (fewB l) := by
  unfold glacislaw08_Few.f fewB
  by_cases h : l.length ≤ 100
  · refine Evn.iff_neg (by omega) ?_
    simp only [h, decide_true, Bool.true_and]
    exact few_l0 l h _ 0 rfl (by omega)
  · refine Evn.iff_pos (by omega) ?_
    simp only [h, decide_false, Bool.false_and]
    exact Evn.some _
/-- A head that both answers can bear: at most so many lines, of at most so many bytes. -/
def Small (l : List S28) (n m : Nat) : Prop := l.length ≤ n ∧ ∀ h ∈ l, h.f0.size ≤ 281474976710656 ∧ h.f1.size ≤ m
theorem small_few {l : List S28} (h : fewB l = true) : Small l 100 4000 := by
  unfold fewB at h
  simp only [Bool.and_eq_true, decide_eq_true_eq, List.all_eq_true] at h
  refine ⟨h.1, fun x hx => ?_⟩
  have := h.2 x hx
  unfold fewP at this
  simp only [Bool.and_eq_true, decide_eq_true_eq] at this
  exact ⟨by omega, this.2⟩
theorem hdrsB_small {l : List S28} {n m : Nat} (h : Small l n m) (hn : n ≤ 4398046511000) (hm : m ≤ 281474976710656) (name : ByteArray) (hz : name.size ≤ 281474976710656) : hdrsB l name = true := by
  unfold hdrsB
  simp only [Bool.and_eq_true, decide_eq_true_eq, List.all_eq_true]
  refine ⟨⟨hz, Nat.le_trans h.1 hn⟩, fun x hx => ⟨(h.2 x hx).1, Nat.le_trans (h.2 x hx).2 hm⟩⟩
theorem hdrsC_small {l : List S28} {n m : Nat} (h : Small l n m) (hb : (m + 1) * n ≤ 4398046511000) : hdrsC l = true := by
  unfold hdrsC
  simp only [decide_eq_true_eq, List.all_eq_true]
  intro x hx
  exact Nat.le_trans (Nat.mul_le_mul (by have := (h.2 x hx).2; omega) h.1) hb
theorem vals_mem {l : List S28} {name v : ByteArray} (h : v ∈ valsOf l name) : ∃ x ∈ l, v = trimBA x.f1 := by
  unfold valsOf at h
  obtain ⟨x, hx, rfl⟩ := List.mem_map.1 h
  exact ⟨x, (List.mem_filter.1 hx).1, rfl⟩
theorem vals_small {l : List S28} {n m : Nat} (h : Small l n m) (name v : ByteArray) (hv : v ∈ valsOf l name) : v.size ≤ m := by
  obtain ⟨x, hx, rfl⟩ := vals_mem hv
  exact Nat.le_trans (trim_size _) (h.2 x hx).2
theorem values_f {l : List S28} {n m : Nat} (h : Small l n m) (hn : n ≤ 4398046511000) (hm : m ≤ 281474976710656) (name : ByteArray) (hz : name.size ≤ 281474976710656) : headers_Values.f l name = some (valsOf l name) := if_pos (hdrsB_small h hn hm name hz)
theorem ref_values_l0 (l : List S28) {n m : Nat} (h : Small l n m) (hn : n ≤ 4398046511000) (hm : m ≤ 281474976710656) (name : ByteArray) (hz : name.size ≤ 281474976710656) : ∀ (d i : Nat), l.length - i = d → i ≤ l.length →
    Evn (fun k => glacisref07_Values.l0 k l name (valsOf (l.take i) name) (i : Int)) (valsOf l name) := by
  intro d
  have hll := h.1
  induction d with
  | zero =>
    intro i hd hi
    obtain rfl : i = l.length := by omega
    refine Evn.succ ?_
    simp only [glacisref07_Values.l0]
    refine Evn.iff_neg (by omega) ?_
    rw [List.take_length]
    exact Evn.some _
  | succ d ih =>
    intro i hd hi
    have hlt : i < l.length := by omega
    have hih := ih (i + 1) (by omega) (by omega)
    rw [List.take_succ_eq_append_getElem hlt, valsOf_snoc] at hih
    refine Evn.succ ?_
    simp only [glacisref07_Values.l0]
    refine Evn.iff_pos (by omega) (Evn.iff_pos (by omega) ?_)
    rw [rd_hdr l i hlt]
    obtain ⟨h0, h1⟩ := h.2 l[i] (List.getElem_mem hlt)
    generalize l[i] = x at *
    rw [ref_fold _ _ h0 hz]
    simp only [Option.bind_some]
    by_cases hf : foldEq x.f0 name = true
    · refine Evn.iff_pos hf (Evn.bind (ref_trim x.f1 (by omega)) ?_)
      rw [if_pos hf] at hih
      have hvl := valsOf_len (l.take i) name
      rw [List.length_take] at hvl
      refine Evn.iff_pos (by omega) ?_
      rw [wr64 (by omega) (by omega), show ((i : Int) + 1) = ((i + 1 : Nat) : Int) by omega]
      exact hih
    · refine Evn.iff_neg hf ?_
      rw [if_neg hf, List.append_nil] at hih
      rw [wr64 (by omega) (by omega), show ((i : Int) + 1) = ((i + 1 : Nat) : Int) by omega]
      exact hih
theorem ref_values {l : List S28} {n m : Nat} (h : Small l n m) (hn : n ≤ 4398046511000) (hm : m ≤ 281474976710656) (name : ByteArray) (hz : name.size ≤ 281474976710656) : Evn (fun k => glacisref07_Values.f k l name) (valsOf l name) := by
  unfold glacisref07_Values.f
  exact ref_values_l0 l h hn hm name hz _ 0 rfl (by omega)
theorem inter_cons (sep a b : List UInt8) (l : List (List UInt8)) : sep.intercalate (a :: b :: l) = a ++ sep ++ sep.intercalate (b :: l) := by
  simp [List.intercalate, List.intersperse]
theorem inter_one (sep a : List UInt8) : sep.intercalate [a] = a := by
  simp [List.intercalate, List.intersperse]
theorem inter_snoc (sep x : List UInt8) : ∀ l : List (List UInt8), l ≠ [] → sep.intercalate (l ++ [x]) = sep.intercalate l ++ sep ++ x
  | [], h => absurd rfl h
  | [a], _ => by
    show sep.intercalate [a, x] = _
    rw [inter_cons, inter_one, inter_one]
  | a :: b :: l, _ => by
    show sep.intercalate (a :: b :: (l ++ [x])) = _
    rw [inter_cons, inter_cons]
    have := inter_snoc sep x (b :: l) (by simp)
    rw [List.cons_append] at this
    rw [this]
    simp
theorem ba_append (s t : ByteArray) : (s ++ t).data.toList = s.data.toList ++ t.data.toList := by simp
theorem join_nil (sep : ByteArray) : joinBA [] sep = ⟨#[]⟩ := rfl
theorem join_snoc (l : List ByteArray) (x sep : ByteArray) : joinBA (l ++ [x]) sep = if l = [] then x else (joinBA l sep ++ sep) ++ x := by
  apply ByteArray.ext
  apply Array.toList_inj.1
  split
  · rename_i h
    subst h
    unfold joinBA Lib.join
    simp only [List.nil_append, List.map_cons, List.map_nil]
    rw [inter_one]
  · rename_i h
    rw [ba_append, ba_append]
    unfold joinBA Lib.join
    simp only [List.map_append, List.map_cons, List.map_nil]
    rw [inter_snoc _ _ _ (by simpa using h)]
theorem join_size (l : List ByteArray) (sep : ByteArray) (m : Nat) (h : ∀ x ∈ l, x.size ≤ m) : (joinBA l sep).size ≤ l.length * (m + sep.size) := by
  suffices hh : ∀ r : List ByteArray, (∀ x ∈ r, x.size ≤ m) → (joinBA r.reverse sep).size ≤ r.length * (m + sep.size) by
    have := hh l.reverse (by simpa using h)
    rwa [List.reverse_reverse, List.length_reverse] at this
  intro r
  induction r with
  | nil => intro _; exact Nat.zero_le _
  | cons x r ih =>
    intro hr
    have h1 := ih (fun y hy => hr y (List.mem_cons_of_mem _ hy))
    have h2 := hr x List.mem_cons_self
    rw [List.reverse_cons, join_snoc, List.length_cons, Nat.succ_mul]
    split
    · omega
    · simp only [ByteArray.size_append]
      omega
def comSp : ByteArray := ⟨#[44, 32]⟩
theorem combined_f {l : List S28} {n m : Nat} (h : Small l n m) (hn : n ≤ 1000000) (hm : m ≤ 1000000) (name : ByteArray) (hz : name.size ≤ 281474976710656) :
    headers_Combined.f l name = some (joinBA (valsOf l name) comSp, decide (((valsOf l name).length : Int) > 0)) := by
  unfold headers_Combined.f
  rw [values_f h (by omega) (by omega) name hz]
  simp only [Option.bind_some]
  have h1 := join_size (valsOf l name) comSp m (fun x hx => vals_small h name x hx)
  have h2 := valsOf_len l name
  have h3 := h.1
  have h4 : (valsOf l name).length * (m + comSp.size) ≤ 1000000 * 1000002 := Nat.mul_le_mul (by omega) (by show m + 2 ≤ 1000002; omega)
  have h5 : strings_Join.f (valsOf l name) (⟨#[44, 32]⟩ : ByteArray) = some (joinBA (valsOf l name) comSp) := if_pos ⟨by show (joinBA (valsOf l name) comSp).size ≤ 140737488355328; omega, by omega⟩
  rw [h5]
  rfl
theorem ref_combined_l0 (vs : List ByteArray) (m : Nat) (hv : ∀ v ∈ vs, v.size ≤ m) (hm : m ≤ 1000000) (hl : vs.length ≤ 1000000) : ∀ (d i : Nat), vs.length - i = d → i ≤ vs.length →
    Evn (fun k => glacisref07_Combined.l0 k vs (joinBA (vs.take i) comSp) (i : Int)) (joinBA vs comSp, decide ((vs.length : Int) > 0)) := by
  intro d
  induction d with
  | zero =>
    intro i hd hi
    obtain rfl : i = vs.length := by omega
    refine Evn.succ ?_
    simp only [glacisref07_Combined.l0]
    refine Evn.iff_neg (by omega) ?_
    rw [List.take_length]
    exact Evn.some _
  | succ d ih =>
    intro i hd hi
    have hlt : i < vs.length := by omega
    have hih := ih (i + 1) (by omega) (by omega)
    rw [List.take_succ_eq_append_getElem hlt, join_snoc] at hih
    have h1 := join_size (vs.take i) comSp m (fun x hx => hv x (List.mem_of_mem_take hx))
    have h2 := hv vs[i] (List.getElem_mem hlt)
    have h4 : (vs.take i).length * (m + comSp.size) ≤ 1000000 * 1000002 := Nat.mul_le_mul (by rw [List.length_take]; omega) (by show m + 2 ≤ 1000002; omega)
    refine Evn.succ ?_
    simp only [glacisref07_Combined.l0]
    refine Evn.iff_pos (by omega) ?_
    rw [rd_str vs i hlt]
    generalize hx : vs[i] = x at *
    clear hx
    by_cases h0 : i = 0
    · subst h0
      rw [if_pos (by simp)] at hih
      refine Evn.iff_neg (by omega) (Evn.iff_pos (by omega) (Evn.iff_pos (by have e0 : (joinBA (vs.take 0) comSp).size = 0 := rfl; omega) ?_))
      rw [wr64 (by omega) (by omega), show (((0 : Nat) : Int) + 1) = ((0 + 1 : Nat) : Int) by omega]
      have e : joinBA (vs.take 0) comSp ++ x = x := by
        apply ByteArray.ext
        apply Array.toList_inj.1
        rw [ba_append]
        rfl
      rw [e]
      exact hih
    · have hne : vs.take i ≠ [] := by
        intro e
        have : (vs.take i).length = 0 := by rw [e]; rfl
        rw [List.length_take] at this
        omega
      rw [if_neg hne] at hih
      have e2 : (joinBA (vs.take i) comSp ++ (⟨#[44, 32]⟩ : ByteArray)).size = (joinBA (vs.take i) comSp).size + 2 := by rw [ByteArray.size_append]; rfl
      refine Evn.iff_pos (by omega) (Evn.iff_pos (by omega) (Evn.iff_pos (by omega) (Evn.iff_pos (by omega) ?_)))
      rw [wr64 (by omega) (by omega), show ((i : Int) + 1) = ((i + 1 : Nat) : Int) by omega]
      exact hih
theorem ref_combined {l : List S28} {n m : Nat} (h : Small l n m) (hn : n ≤ 1000000) (hm : m ≤ 1000000) (name : ByteArray) (hz : name.size ≤ 281474976710656) :
    Evn (fun k => glacisref07_Combined.f k l name) (joinBA (valsOf l name) comSp, decide (((valsOf l name).length : Int) > 0)) := by
  unfold glacisref07_Combined.f
  refine Evn.bind (ref_values h (by omega) (by omega) name hz) ?_
  have h2 := valsOf_len l name
  have h3 := h.1
  exact ref_combined_l0 _ m (fun x hx => vals_small h name x hx) hm (by omega) _ 0 rfl (by omega)
end Go.Proofs.YtbhokhidlgkakaaDoor.Pl
