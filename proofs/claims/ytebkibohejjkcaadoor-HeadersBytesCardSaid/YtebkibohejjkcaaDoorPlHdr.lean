/- Heads of few and short lines; a name's values; all of them together. -/
import Derived.Test.YtebkibohejjkcaaDoorPlLow
namespace Go.Proofs.YtebkibohejjkcaaDoor.Pl
set_option linter.unusedVariables false
set_option linter.unusedSimpArgs false
open Go.RowKit Go.Proofs.YtebkibohejjkcaaDoor.Q Go.Proofs.YtebkibohejjkcaaDoorW.PrintWords Go.Proofs.YtebkibohejjkcaaDoorW.PrintLast

/-- A head that both answers can bear: at most so many lines, of at most so many bytes. -/
def Small (l : List S24) (n m : Nat) : Prop := l.length ≤ n ∧ ∀ h ∈ l, h.f0.size ≤ 281474976710656 ∧ h.f1.size ≤ m
theorem hdrsB_small {l : List S24} {n m : Nat} (h : Small l n m) (hn : n ≤ 4398046511000) (hm : m ≤ 281474976710656) (name : ByteArray) (hz : name.size ≤ 281474976710656) : hdrsB l name = true := by
  unfold hdrsB
  simp only [Bool.and_eq_true, decide_eq_true_eq, List.all_eq_true]
  refine ⟨⟨hz, Nat.le_trans h.1 hn⟩, fun x hx => ⟨(h.2 x hx).1, Nat.le_trans (h.2 x hx).2 hm⟩⟩
theorem hdrsC_small {l : List S24} {n m : Nat} (h : Small l n m) (hb : (m + 1) * n ≤ 4398046511000) : hdrsC l = true := by
  unfold hdrsC
  simp only [decide_eq_true_eq, List.all_eq_true]
  intro x hx
  exact Nat.le_trans (Nat.mul_le_mul (by have := (h.2 x hx).2; omega) h.1) hb
theorem vals_mem {l : List S24} {name v : ByteArray} (h : v ∈ valsOf l name) : ∃ x ∈ l, v = trimBA x.f1 := by
  unfold valsOf at h
  obtain ⟨x, hx, rfl⟩ := List.mem_map.1 h
  exact ⟨x, (List.mem_filter.1 hx).1, rfl⟩
theorem vals_small {l : List S24} {n m : Nat} (h : Small l n m) (name v : ByteArray) (hv : v ∈ valsOf l name) : v.size ≤ m := by
  obtain ⟨x, hx, rfl⟩ := vals_mem hv
  exact Nat.le_trans (trim_size _) (h.2 x hx).2
theorem values_f {l : List S24} {n m : Nat} (h : Small l n m) (hn : n ≤ 4398046511000) (hm : m ≤ 281474976710656) (name : ByteArray) (hz : name.size ≤ 281474976710656) : headers_Values.f l name = some (valsOf l name) := if_pos (hdrsB_small h hn hm name hz)
theorem inter_cons (sep a b : List UInt8) (l : List (List UInt8)) : sep.intercalate (a :: b :: l) = a ++ sep ++ sep.intercalate (b :: l) := by
  simp [List.intercalate, List.intersperse]
theorem inter_one (sep a : List UInt8) : sep.intercalate [a] = a := by
  simp [List.intercalate, List.intersperse]
theorem inter_snoc (sep x : List UInt8) : ∀ l : List (List UInt8), l ≠ [] → sep.intercalate (l ++ [x]) = sep.intercalate l ++ sep ++ x
  | [], h => absurd rfl h
  | [a], _ => by
    show sep.intercalate [a, x] = _
    rw [inter_cons, inter_one, inter_one]
  | a :: b :: l, _ => by
    show sep.intercalate (a :: b :: (l ++ [x])) = _
    rw [inter_cons, inter_cons]
    have := inter_snoc sep x (b :: l) (by simp)
    rw [List.cons_append] at this
    rw [this]
    simp
theorem ba_append (s t : ByteArray) : (s ++ t).data.toList = s.data.toList ++ t.data.toList := by simp
theorem join_nil (sep : ByteArray) : joinBA [] sep = ⟨#[]⟩ := rfl
theorem join_snoc (l : List ByteArray) (x sep : ByteArray) : joinBA (l ++ [x]) sep = if l = [] then x else (joinBA l sep ++ sep) ++ x := by
  apply ByteArray.ext
  apply Array.toList_inj.1
  split
  · rename_i h
    subst h
    unfold joinBA Lib.join
    simp only [List.nil_append, List.map_cons, List.map_nil]
    rw [inter_one]
  · rename_i h
    rw [ba_append, ba_append]
    unfold joinBA Lib.join
    simp only [List.map_append, List.map_cons, List.map_nil]
    rw [inter_snoc _ _ _ (by simpa using h)]
theorem join_size (l : List ByteArray) (sep : ByteArray) (m : Nat) (h : ∀ x ∈ l, x.size ≤ m) : (joinBA l sep).size ≤ l.length * (m + sep.size) := by
  suffices hh : ∀ r : List ByteArray, (∀ x ∈ r, x.size ≤ m) → (joinBA r.reverse sep).size ≤ r.length * (m + sep.size) by
    have := hh l.reverse (by simpa using h)
    rwa [List.reverse_reverse, List.length_reverse] at this
  intro r
  induction r with
  | nil => intro _; exact Nat.zero_le _
  | cons x r ih =>
    intro hr
    have h1 := ih (fun y hy => hr y (List.mem_cons_of_mem _ hy))
    have h2 := hr x List.mem_cons_self
    rw [List.reverse_cons, join_snoc, List.length_cons, Nat.succ_mul]
    split
    · omega
    · simp only [ByteArray.size_append]
      omega
def comSp : ByteArray := ⟨#[44, 32]⟩
theorem combined_f {l : List S24} {n m : Nat} (h : Small l n m) (hn : n ≤ 1000000) (hm : m ≤ 1000000) (name : ByteArray) (hz : name.size ≤ 281474976710656) :
    headers_Combined.f l name = some (joinBA (valsOf l name) comSp, decide (((valsOf l name).length : Int) > 0)) := by
  unfold headers_Combined.f
  rw [values_f h (by omega) (by omega) name hz]
  simp only [Option.bind_some]
  have h1 := join_size (valsOf l name) comSp m (fun x hx => vals_small h name x hx)
  have h2 := valsOf_len l name
  have h3 := h.1
  have h4 : (valsOf l name).length * (m + comSp.size) ≤ 1000000 * 1000002 := Nat.mul_le_mul (by omega) (by show m + 2 ≤ 1000002; omega)
  have h5 : strings_Join.f (valsOf l name) (⟨#[44, 32]⟩ : ByteArray) = some (joinBA (valsOf l name) comSp) := if_pos ⟨by show (joinBA (valsOf l name) comSp).size ≤ 140737488355328; omega, by omega⟩
  rw [h5]
  rfl
end Go.Proofs.YtebkibohejjkcaaDoor.Pl
