/- Parts, words and texts held against each other: the document's own functions come to what the program's give. -/
import Derived.Test.YtkjlhhhnananlaaDoorPlTrim
namespace Go.Proofs.YtkjlhhhnananlaaDoor.Pl
set_option linter.unusedVariables false
set_option linter.unusedSimpArgs false
open Go.RowKit Go.Proofs.YtkjlhhhnananlaaDoor.Q Go.Proofs.YtkjlhhhnananlaaDoorW.PrintWords Go.Proofs.YtkjlhhhnananlaaDoorW.PrintLast

theorem ba_ext {s t : ByteArray} (h : s.data.toList = t.data.toList) : s = t := by
  obtain ⟨⟨s⟩⟩ := s
  obtain ⟨⟨t⟩⟩ := t
  simp at h
  subst h
  rfl
theorem toList_iff (s t : ByteArray) : s.toList = t.toList ↔ s = t := by
  rw [Lib.toList_data, Lib.toList_data]
  exact ⟨ba_ext, fun h => by rw [h]⟩
theorem toList_nil (s : ByteArray) : s.toList = [] ↔ s.size = 0 := by
  rw [Lib.toList_data, ← List.length_eq_zero_iff, data_length]
theorem toList_isEmpty (s : ByteArray) : s.toList.isEmpty = decide (s.size = 0) := by
  rw [Bool.eq_iff_iff, List.isEmpty_iff, toList_nil]; simp
def textsEq (a b : List ByteArray) : Bool := a.map (fun s => s.data.toList) == b.map (fun s => s.data.toList)
theorem map_data_inj : ∀ {a b : List ByteArray}, a.map (fun s => s.data.toList) = b.map (fun s => s.data.toList) → a = b
  | [], [], _ => rfl
  | [], _ :: _, h => by simp at h
  | _ :: _, [], h => by simp at h
  | x :: a, y :: b, h => by
    simp only [List.map_cons, List.cons.injEq] at h
    rw [ba_ext h.1, map_data_inj h.2]
theorem textsEq_iff (a b : List ByteArray) : textsEq a b = true ↔ a = b := by
  unfold textsEq
  rw [beq_iff_eq]
  exact ⟨map_data_inj, fun h => by rw [h]⟩
theorem textsEq_refl (a : List ByteArray) : textsEq a a = true := (textsEq_iff a a).2 rfl
theorem texts_l0 (a b : List ByteArray) (hl : a.length = b.length) (ha : a.length ≤ 4611686018427387904) : ∀ (d i : Nat), a.length - i = d → i ≤ a.length →
    Evn (fun k => glacisref01_Texts.l0 k a b i) (textsEq (a.drop i) (b.drop i)) := by
  intro d
  induction d with
  | zero =>
    intro i hd hi
    refine Evn.succ ?_
    simp only [glacisref01_Texts.l0]
    refine Evn.iff_neg (by omega) (Evn.ret ?_)
    rw [List.drop_eq_nil_of_le (by omega), List.drop_eq_nil_of_le (by omega), textsEq_refl]
  | succ d ih =>
    intro i hd hi
    refine Evn.succ ?_
    simp only [glacisref01_Texts.l0]
    have h1 : i < a.length := by omega
    have h2 : i < b.length := by omega
    have e1 : rdOf ByteArray.empty a (i : Int) = a[i] := by simp [rdOf, List.getD_eq_getElem?_getD, List.getElem?_eq_getElem h1]
    have e2 : rdOf ByteArray.empty b (i : Int) = b[i] := by simp [rdOf, List.getD_eq_getElem?_getD, List.getElem?_eq_getElem h2]
    rw [e1, e2, wr64 (by omega) (by omega)]
    refine Evn.iff_pos (by omega) (Evn.iff_pos (by omega) (Evn.iff_pos (by omega) ?_))
    rw [List.drop_eq_getElem_cons h1, List.drop_eq_getElem_cons h2]
    by_cases he : a[i] = b[i]
    · have := ih (i + 1) (by omega) (by omega)
      refine Evn.iff_pos ((toList_iff _ _).2 he) ?_
      rw [he]
      have e : textsEq (b[i] :: a.drop (i + 1)) (b[i] :: b.drop (i + 1)) = textsEq (a.drop (i + 1)) (b.drop (i + 1)) := by rw [Bool.eq_iff_iff, textsEq_iff, textsEq_iff]; simp only [List.cons.injEq, true_and]
      rw [e]
      exact this
    · refine Evn.iff_neg (fun h => he ((toList_iff _ _).1 h)) (Evn.ret ?_)
      congr 1
      symm
      rw [Bool.eq_false_iff]
      intro h
      rw [textsEq_iff] at h
      injection h with h _
      exact he h
theorem texts (a b : List ByteArray) (ha : a.length ≤ 4611686018427387904) : Evn (fun k => glacisref01_Texts.f k a b) (textsEq a b) := by
  unfold glacisref01_Texts.f
  by_cases h : a.length = b.length
  · exact Evn.iff_pos (by omega) (texts_l0 a b h ha _ 0 rfl (Nat.zero_le _))
  · refine Evn.iff_neg (by omega) (Evn.ret ?_)
    congr 1
    symm
    rw [Bool.eq_false_iff]
    intro h'
    rw [textsEq_iff] at h'
    exact h (by rw [h'])
theorem keepParts_true (l : List ByteArray) : keepParts true l = l := by
  unfold keepParts
  rw [List.filter_eq_self]
  intro x _
  simp [keepPart]
theorem cutSt_succ (p : Int → Bool) (s : ByteArray) (i : Nat) : cutSt p s (i + 1) = if p (bt s i) = true then ((cutSt p s i).1 ++ [s.extract (cutSt p s i).2 i], i + 1) else cutSt p s i := rfl
theorem ref_split_l0 (s : ByteArray) (hs : s.size ≤ 8796093022200) (by_ : Int) : ∀ (d i : Nat), s.size - i = d → i ≤ s.size →
    Evn (fun k => glacisref01_Split.l0 k s by_ (cutSt (fun c => c == by_) s i).1 (cutSt (fun c => c == by_) s i).2 i) ((cutSt (fun c => c == by_) s s.size).1 ++ [s.extract (cutSt (fun c => c == by_) s s.size).2 s.size]) := by
  intro d
  induction d with
  | zero =>
    intro i hd hi
    obtain rfl : i = s.size := by omega
    have h1 := cutSt_le (fun c => c == by_) s s.size
    have h2 := cutSt_len (fun c => c == by_) s s.size
    refine Evn.succ ?_
    simp only [glacisref01_Split.l0]
    refine Evn.iff_pos (by omega) (Evn.iff_pos (by simp) (Evn.iff_pos (by omega) (Evn.iff_pos (by omega) (Evn.iff_pos (by omega) (Evn.succ ?_)))))
    simp only [glacisref01_Split.l0]
    rw [wr64 (by omega) (by omega)]
    exact Evn.iff_neg (by omega) (Evn.some _)
  | succ d ih =>
    intro i hd hi
    have h1 := cutSt_le (fun c => c == by_) s i
    have h2 := cutSt_len (fun c => c == by_) s i
    have hn := ih (i + 1) (by omega) (by omega)
    refine Evn.succ ?_
    simp only [glacisref01_Split.l0]
    refine Evn.iff_pos (by omega) (Evn.iff_neg (by omega) (Evn.iff_pos (by omega) (Evn.iff_pos (by omega) ?_)))
    rw [wr64 (by omega) (by omega)]
    rw [cutSt_succ] at hn
    by_cases hb : bt s (i : Int) = by_
    · rw [if_pos (by simpa using hb)] at hn
      exact Evn.iff_pos hb (Evn.iff_pos (by omega) (Evn.iff_pos (by omega) (Evn.iff_pos (by omega) hn)))
    · rw [if_neg (by simpa using hb)] at hn
      exact Evn.iff_neg hb hn
theorem ref_split (s : ByteArray) (by_ : Int) (hs : s.size ≤ 8796093022200) : Evn (fun k => glacisref01_Split.f k s by_) (cutOf (fun c => c == by_) true s) := by
  unfold glacisref01_Split.f cutOf
  rw [keepParts_true]
  exact ref_split_l0 s hs by_ _ 0 rfl (Nat.zero_le _)
theorem blank_blk : ∀ n : Nat, n < 256 → blankB (n : Int) = blk (n : Int) := by decide +kernel
theorem blankB_bt (s : ByteArray) (i : Int) : blankB (bt s i) = blk (bt s i) := by
  obtain ⟨h0, h1⟩ := bt_range s i
  obtain ⟨n, hn⟩ := Int.eq_ofNat_of_zero_le h0
  rw [hn]
  exact blank_blk n (by omega)
theorem keep_ext (s : ByteArray) (a b : Nat) (hb : b ≤ s.size) : keepPart false (s.extract a b) = decide (a < b) := by
  unfold keepPart
  rw [toList_isEmpty, ByteArray.size_extract]
  by_cases h : a < b
  · simp [h]; omega
  · simp [h]; omega
theorem ref_words_l0 (s : ByteArray) (hs : s.size ≤ 8796093022200) : ∀ (d i : Nat), s.size - i = d → i ≤ s.size →
    Evn (fun k => glacisref01_Words.l0 k s (keepParts false (cutSt blankB s i).1) (cutSt blankB s i).2 i) (keepParts false ((cutSt blankB s s.size).1 ++ [s.extract (cutSt blankB s s.size).2 s.size])) := by
  have shut : ∀ (i from_ : Nat) (ps : List ByteArray) (R : List ByteArray), i ≤ s.size → from_ ≤ i → ps.length ≤ i →
      Evn (fun k => glacisref01_Words.l0 k s (keepParts false (ps ++ [s.extract from_ i])) ((i + 1 : Nat) : Int) ((i + 1 : Nat) : Int)) R →
      Evn (fun k => glacisref01_Words.j1 k s (keepParts false ps) from_ i true) R := by
    intro i from_ ps R hi hf hp h
    have hk := keepParts_len false ps
    refine Evn.succ ?_
    simp only [glacisref01_Words.j1]
    refine Evn.iff_pos (by simp) ?_
    rw [wr64 (by omega) (by omega)]
    rw [keepParts_snoc, keep_ext s from_ i hi] at h
    by_cases hlt : from_ < i
    · simp only [hlt, decide_true, if_true] at h
      exact Evn.iff_pos (by omega) (Evn.iff_pos (by omega) (Evn.iff_pos (by omega) (Evn.iff_pos (by omega) (Evn.iff_pos (by omega) h))))
    · simp only [hlt, decide_false, Bool.false_eq_true, if_false, List.append_nil] at h
      exact Evn.iff_neg (by omega) h
  intro d
  induction d with
  | zero =>
    intro i hd hi
    obtain rfl : i = s.size := by omega
    have h1 := cutSt_le blankB s s.size
    have h2 := cutSt_len blankB s s.size
    refine Evn.succ ?_
    simp only [glacisref01_Words.l0]
    refine Evn.iff_pos (by omega) (Evn.iff_pos (by simp) (shut _ _ _ _ (Nat.le_refl _) h1 h2 (Evn.succ ?_)))
    simp only [glacisref01_Words.l0]
    exact Evn.iff_neg (by omega) (Evn.some _)
  | succ d ih =>
    intro i hd hi
    have h1 := cutSt_le blankB s i
    have h2 := cutSt_len blankB s i
    have hn := ih (i + 1) (by omega) (by omega)
    refine Evn.succ ?_
    simp only [glacisref01_Words.l0]
    refine Evn.iff_pos (by omega) (Evn.iff_neg (by omega) (Evn.iff_pos (by omega) (Evn.iff_pos (by omega) (Evn.bind (Evn.ret (blank_f _)) ?_))))
    rw [cutSt_succ] at hn
    rw [blankB_bt] at hn
    by_cases hb : blk (bt s (i : Int)) = true
    · rw [if_pos hb] at hn
      rw [hb]
      exact shut i _ _ _ (by omega) h1 h2 hn
    · rw [if_neg hb] at hn
      simp only [Bool.not_eq_true] at hb
      rw [hb]
      refine Evn.succ ?_
      simp only [glacisref01_Words.j1]
      rw [wr64 (by omega) (by omega)]
      exact Evn.iff_neg (by decide) hn
theorem ref_words (s : ByteArray) (hs : s.size ≤ 8796093022200) : Evn (fun k => glacisref01_Words.f k s) (cutOf blankB false s) := by
  unfold glacisref01_Words.f cutOf
  exact ref_words_l0 s hs _ 0 rfl (Nat.zero_le _)
theorem cutOf_len (p : Int → Bool) (e : Bool) (s : ByteArray) : (cutOf p e s).length ≤ s.size + 1 := by
  unfold cutOf
  have h1 := keepParts_len e ((cutSt p s s.size).1 ++ [s.extract (cutSt p s s.size).2 s.size])
  have h2 := cutSt_len p s s.size
  simp only [List.length_append, List.length_singleton] at h1
  omega
end Go.Proofs.YtkjlhhhnananlaaDoor.Pl
