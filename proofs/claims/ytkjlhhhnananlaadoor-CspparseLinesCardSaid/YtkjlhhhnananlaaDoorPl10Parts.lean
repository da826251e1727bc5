/- Parts of a text as lists of bytes. -/
import Derived.Test.YtkjlhhhnananlaaDoorPl10Low
namespace Go.Proofs.YtkjlhhhnananlaaDoor.Pl
set_option linter.unusedVariables false
set_option linter.unusedSimpArgs false
open Go.RowKit Go.Proofs.YtkjlhhhnananlaaDoor.Q Go.Proofs.YtkjlhhhnananlaaDoorW.PrintWords Go.Proofs.YtkjlhhhnananlaaDoorW.PrintLast

def consHead (c : UInt8) : List (List UInt8) → List (List UInt8)
  | [] => [[c]]
  | x :: xs => (c :: x) :: xs
def splitL (q : UInt8 → Bool) : List UInt8 → List (List UInt8)
  | [] => [[]]
  | c :: l => if q c = true then [] :: splitL q l else consHead c (splitL q l)
theorem splitL_ne (q : UInt8 → Bool) (l : List UInt8) : splitL q l ≠ [] := by
  cases l with
  | nil => simp [splitL]
  | cons c l =>
    unfold splitL
    split
    · simp
    · cases splitL q l <;> simp [consHead]
theorem splitL_snoc (q : UInt8 → Bool) (c : UInt8) : ∀ (l : List UInt8) (ps : List (List UInt8)) (x : List UInt8), splitL q l = ps ++ [x] →
    splitL q (l ++ [c]) = if q c = true then ps ++ [x] ++ [[]] else ps ++ [x ++ [c]]
  | [], ps, x, h => by
    have h1 : ps = [] ∧ x = [] := by
      cases ps with
      | nil => simp [splitL] at h; exact ⟨rfl, h⟩
      | cons y ys => cases ys <;> simp [splitL] at h
    obtain ⟨rfl, rfl⟩ := h1
    simp [splitL, consHead]
  | d :: l, ps, x, h => by
    simp only [List.cons_append, splitL]
    simp only [splitL] at h
    by_cases hd : q d = true
    · rw [if_pos hd] at h ⊢
      cases ps with
      | nil => simp at h; exact absurd h.2 (splitL_ne q l)
      | cons y ys =>
        simp only [List.cons_append, List.cons.injEq] at h
        obtain ⟨rfl, h⟩ := h
        rw [splitL_snoc q c l ys x h]
        split <;> simp
    · rw [if_neg hd] at h ⊢
      cases hs : splitL q l with
      | nil => exact absurd hs (splitL_ne q l)
      | cons y ys =>
        rw [hs] at h
        simp only [consHead] at h
        cases ps with
        | nil =>
          simp only [List.nil_append, List.cons.injEq] at h
          obtain ⟨rfl, rfl⟩ := h
          rw [splitL_snoc q c l [] y (by rw [hs]; rfl)]
          split <;> simp [consHead]
        | cons z zs =>
          simp only [List.cons_append, List.cons.injEq] at h
          obtain ⟨rfl, rfl⟩ := h
          rw [splitL_snoc q c l (y :: zs) x (by rw [hs]; rfl)]
          split <;> simp [consHead]
def dl (s : ByteArray) : List UInt8 := s.data.toList
theorem dl_inj {s t : ByteArray} (h : dl s = dl t) : s = t := ba_ext h
theorem dl_len (s : ByteArray) : (dl s).length = s.size := data_length s
theorem bt_dl (s : ByteArray) (i : Nat) (h : i < s.size) : ∃ c, (dl s)[i]? = some c ∧ bt s i = (c.toNat : Int) := by
  have hl : i < (dl s).length := by rw [dl_len]; exact h
  refine ⟨(dl s)[i], List.getElem?_eq_getElem hl, ?_⟩
  rw [bt_nat, List.getD_eq_getElem?_getD]
  unfold dl at hl ⊢
  rw [List.getElem?_eq_getElem hl]
  rfl
/-- The parts so far and the open one are the parts of the bytes so far. -/
theorem cutSt_split (p : Int → Bool) (s : ByteArray) : ∀ i : Nat, i ≤ s.size →
    (cutSt p s i).1.map dl ++ [dl (s.extract (cutSt p s i).2 i)] = splitL (fun c => p c.toNat) ((dl s).take i) := by
  intro i
  induction i with
  | zero =>
    intro _
    simp [cutSt, splitL, dl, Lib.extract_data]
  | succ i ih =>
    intro hi
    have h := (ih (by omega)).symm
    have hle := cutSt_le p s i
    obtain ⟨c, hc, hb⟩ := bt_dl s i (by omega)
    have ht : (dl s).take (i + 1) = (dl s).take i ++ [c] := by
      rw [List.take_add_one, hc]
      rfl
    rw [ht, splitL_snoc _ c _ _ _ h, cutSt_succ, hb]
    by_cases hq : p c.toNat = true
    · rw [if_pos hq, if_pos hq]
      simp [dl, Lib.extract_data]
    · rw [if_neg hq, if_neg hq]
      congr 2
      unfold dl at hc ⊢
      rw [Lib.extract_data, Lib.extract_data]
      rw [show i + 1 - (cutSt p s i).2 = (i - (cutSt p s i).2) + 1 by omega, List.take_add_one, List.getElem?_drop, show (cutSt p s i).2 + (i - (cutSt p s i).2) = i by omega, hc]
      rfl
theorem cut_split (p : Int → Bool) (s : ByteArray) : ((cutSt p s s.size).1 ++ [s.extract (cutSt p s s.size).2 s.size]).map dl = splitL (fun c => p c.toNat) (dl s) := by
  have h := cutSt_split p s s.size (Nat.le_refl _)
  rw [List.take_of_length_le (by rw [dl_len]; exact Nat.le_refl _)] at h
  rw [← h]
  simp
theorem parts_split (p : Int → Bool) (s : ByteArray) : (cutOf p true s).map dl = splitL (fun c => p c.toNat) (dl s) := by
  unfold cutOf
  rw [keepParts_true, cut_split]
theorem keep_dl (x : ByteArray) : keepPart false x = !(dl x).isEmpty := by
  unfold keepPart dl
  rw [Lib.toList_data]
  rfl
theorem words_split (p : Int → Bool) (s : ByteArray) : (cutOf p false s).map dl = (splitL (fun c => p c.toNat) (dl s)).filter (fun x => !x.isEmpty) := by
  rw [← cut_split, List.filter_map]
  unfold cutOf keepParts
  congr 1
  congr 1
  funext x
  exact keep_dl x
theorem splitL_parts (q : UInt8 → Bool) : ∀ (l : List UInt8) (x : List UInt8), x ∈ splitL q l → ∀ c, c ∈ x → q c = false
  | [], x, hx, c, hc => by
    simp [splitL] at hx
    subst hx
    cases hc
  | d :: l, x, hx, c, hc => by
    unfold splitL at hx
    by_cases hd : q d = true
    · rw [if_pos hd] at hx
      rcases List.mem_cons.1 hx with rfl | h
      · cases hc
      · exact splitL_parts q l x h c hc
    · rw [if_neg hd] at hx
      cases hs : splitL q l with
      | nil => exact absurd hs (splitL_ne q l)
      | cons y ys =>
        rw [hs] at hx
        simp only [consHead] at hx
        rcases List.mem_cons.1 hx with rfl | h
        · rcases List.mem_cons.1 hc with rfl | h'
          · simpa using hd
          · exact splitL_parts q l y (by rw [hs]; exact List.mem_cons_self) c h'
        · exact splitL_parts q l x (by rw [hs]; exact List.mem_cons_of_mem _ h) c hc
theorem splitL_flat (q : UInt8 → Bool) : ∀ l : List UInt8, (splitL q l).flatten = l.filter (fun c => !q c)
  | [] => rfl
  | d :: l => by
    have ih := splitL_flat q l
    unfold splitL
    by_cases hd : q d = true
    · rw [if_pos hd]; simp [hd, ih]
    · rw [if_neg hd]
      cases hs : splitL q l with
      | nil => exact absurd hs (splitL_ne q l)
      | cons y ys =>
        rw [hs] at ih
        simp only [List.flatten_cons] at ih
        simp [consHead, hd, ih]
theorem splitL_none (q : UInt8 → Bool) : ∀ l : List UInt8, (∀ c, c ∈ l → q c = false) → splitL q l = [l]
  | [], _ => rfl
  | d :: l, h => by
    unfold splitL
    rw [if_neg (by rw [h d List.mem_cons_self]; decide), splitL_none q l (fun c hc => h c (List.mem_cons_of_mem _ hc))]
    rfl
theorem splitL_glue (q : UInt8 → Bool) (b : UInt8) (hb : q b = true) (m : List UInt8) : ∀ l : List UInt8, splitL q (l ++ b :: m) = splitL q l ++ splitL q m
  | [] => by simp [splitL, hb]
  | d :: l => by
    simp only [List.cons_append, splitL, splitL_glue q b hb m l]
    by_cases hd : q d = true
    · simp [hd]
    · rw [if_neg hd, if_neg hd]
      cases hs : splitL q l with
      | nil => exact absurd hs (splitL_ne q l)
      | cons y ys => simp [consHead]
/-- With the byte between. -/
def tailL (b : UInt8) (xs : List (List UInt8)) : List UInt8 := xs.flatMap (fun x => b :: x)
theorem splitL_join (q : UInt8 → Bool) (b : UInt8) (hq : ∀ c, q c = true → c = b) : ∀ (l : List UInt8) (x : List UInt8) (xs : List (List UInt8)), splitL q l = x :: xs → x ++ tailL b xs = l
  | [], x, xs, h => by
    simp [splitL] at h
    obtain ⟨rfl, rfl⟩ := h
    rfl
  | d :: l, x, xs, h => by
    unfold splitL at h
    cases hs : splitL q l with
    | nil => exact absurd hs (splitL_ne q l)
    | cons y ys =>
      have ih := splitL_join q b hq l y ys hs
      rw [hs] at h
      by_cases hd : q d = true
      · rw [if_pos hd] at h
        injection h with h1 h2
        subst h1
        subst h2
        rw [hq d hd]
        simp only [tailL, List.flatMap_cons, List.nil_append, List.cons_append] at ih ⊢
        rw [ih]
      · rw [if_neg hd] at h
        simp only [consHead] at h
        injection h with h1 h2
        subst h1
        subst h2
        simp only [List.cons_append, ih]
theorem cutSt_size (p : Int → Bool) (s w : ByteArray) : ∀ i : Nat, w ∈ (cutSt p s i).1 → w.size ≤ s.size := by
  intro i
  induction i with
  | zero => intro h; cases h
  | succ i ih =>
    intro h
    rw [cutSt_succ] at h
    by_cases hp : p (bt s (i : Int)) = true
    · rw [if_pos hp] at h
      rcases List.mem_append.1 h with h | h
      · exact ih h
      · rw [List.mem_singleton.1 h, ByteArray.size_extract]; omega
    · rw [if_neg hp] at h; exact ih h
theorem part_size (p : Int → Bool) (s w : ByteArray) (h : w ∈ (cutSt p s s.size).1 ++ [s.extract (cutSt p s s.size).2 s.size]) : w.size ≤ s.size := by
  rcases List.mem_append.1 h with h | h
  · exact cutSt_size p s w _ h
  · rw [List.mem_singleton.1 h, ByteArray.size_extract]; omega
end Go.Proofs.YtkjlhhhnananlaaDoor.Pl
