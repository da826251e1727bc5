/- Lists of texts held against each other. -/
import Derived.Test.YtebkibohejjkcaaDoorPlLow
namespace Go.Proofs.YtebkibohejjkcaaDoor.Pl
set_option linter.unusedVariables false
set_option linter.unusedSimpArgs false
open Go.RowKit Go.Proofs.YtebkibohejjkcaaDoor.Q Go.Proofs.YtebkibohejjkcaaDoorW.PrintWords Go.Proofs.YtebkibohejjkcaaDoorW.PrintLast

theorem ba_ext {s t : ByteArray} (h : s.data.toList = t.data.toList) : s = t := by
  obtain ⟨⟨s⟩⟩ := s
  obtain ⟨⟨t⟩⟩ := t
  simp at h
  subst h
  rfl
theorem toList_nil (s : ByteArray) : s.toList = [] ↔ s.size = 0 := by
  rw [Lib.toList_data, ← List.length_eq_zero_iff, data_length]
theorem toList_isEmpty (s : ByteArray) : s.toList.isEmpty = decide (s.size = 0) := by
  rw [Bool.eq_iff_iff, List.isEmpty_iff, toList_nil]; simp
def textsEq (a b : List ByteArray) : Bool := a.map (fun s => s.data.toList) == b.map (fun s => s.data.toList)
theorem map_data_inj : ∀ {a b : List ByteArray}, a.map (fun s => s.data.toList) = b.map (fun s => s.data.toList) → a = b
  | [], [], _ => rfl
  | [], _ :: _, h => by simp at h
  | _ :: _, [], h => by simp at h
  | x :: a, y :: b, h => by
    simp only [List.map_cons, List.cons.injEq] at h
    rw [ba_ext h.1, map_data_inj h.2]
theorem textsEq_iff (a b : List ByteArray) : textsEq a b = true ↔ a = b := by
  unfold textsEq
  rw [beq_iff_eq]
  exact ⟨map_data_inj, fun h => by rw [h]⟩
theorem textsEq_refl (a : List ByteArray) : textsEq a a = true := (textsEq_iff a a).2 rfl
theorem texts_l0 (a b : List ByteArray) (hl : a.length = b.length) (ha : a.length ≤ 4611686018427387904) : ∀ (d i : Nat), a.length - i = d → i ≤ a.length →
    Evn (fun k => glacisref01_Texts.l0 k a b i) (textsEq (a.drop i) (b.drop i)) := by
  intro d
  induction d with
  | zero =>
    intro i hd hi
    refine Evn.succ ?_
    simp only [glacisref01_Texts.l0]
    refine Evn.iff_neg (by omega) (Evn.ret ?_)
    rw [List.drop_eq_nil_of_le (by omega), List.drop_eq_nil_of_le (by omega), textsEq_refl]
  | succ d ih =>
    intro i hd hi
    refine Evn.succ ?_
    simp only [glacisref01_Texts.l0]
    have h1 : i < a.length := by omega
    have h2 : i < b.length := by omega
    have e1 : rdOf ByteArray.empty a (i : Int) = a[i] := by simp [rdOf, List.getD_eq_getElem?_getD, List.getElem?_eq_getElem h1]
    have e2 : rdOf ByteArray.empty b (i : Int) = b[i] := by simp [rdOf, List.getD_eq_getElem?_getD, List.getElem?_eq_getElem h2]
    rw [e1, e2, wr64 (by omega) (by omega)]
    refine Evn.iff_pos (by omega) (Evn.iff_pos (by omega) (Evn.iff_pos (by omega) ?_))
    rw [List.drop_eq_getElem_cons h1, List.drop_eq_getElem_cons h2]
    by_cases he : a[i] = b[i]
    · have := ih (i + 1) (by omega) (by omega)
      refine Evn.iff_pos ((toList_iff _ _).2 he) ?_
      rw [he]
      have e : textsEq (b[i] :: a.drop (i + 1)) (b[i] :: b.drop (i + 1)) = textsEq (a.drop (i + 1)) (b.drop (i + 1)) := by rw [Bool.eq_iff_iff, textsEq_iff, textsEq_iff]; simp only [List.cons.injEq, true_and]
      rw [e]
      exact this
    · refine Evn.iff_neg (fun h => he ((toList_iff _ _).1 h)) (Evn.ret ?_)
      congr 1
      symm
      rw [Bool.eq_false_iff]
      intro h
      rw [textsEq_iff] at h
      injection h with h _
      exact he h
theorem texts (a b : List ByteArray) (ha : a.length ≤ 4611686018427387904) : Evn (fun k => glacisref01_Texts.f k a b) (textsEq a b) := by
  unfold glacisref01_Texts.f
  by_cases h : a.length = b.length
  · exact Evn.iff_pos (by omega) (texts_l0 a b h ha _ 0 rfl (Nat.zero_le _))
  · refine Evn.iff_neg (by omega) (Evn.ret ?_)
    congr 1
    symm
    rw [Bool.eq_false_iff]
    intro h'
    rw [textsEq_iff] at h'
    exact h (by rw [h'])
theorem keepParts_true (l : List ByteArray) : keepParts true l = l := by
  unfold keepParts
  rw [List.filter_eq_self]
  intro x _
  simp [keepPart]
theorem cutSt_succ (p : Int → Bool) (s : ByteArray) (i : Nat) : cutSt p s (i + 1) = if p (bt s i) = true then ((cutSt p s i).1 ++ [s.extract (cutSt p s i).2 i], i + 1) else cutSt p s i := rfl
end Go.Proofs.YtebkibohejjkcaaDoor.Pl
