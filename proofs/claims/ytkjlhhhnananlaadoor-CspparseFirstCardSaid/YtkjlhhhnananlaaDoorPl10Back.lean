/- Chapter 10 in plain words: what is read from a policy's text is the policy. -/
import Derived.Test.YtkjlhhhnananlaaDoorPl10Text
import Derived.Test.YtkjlhhhnananlaaDoorPl10Parts
namespace Go.Proofs.YtkjlhhhnananlaaDoor.Pl
open Go.RowKit Go.Proofs.YtkjlhhhnananlaaDoor.Q Go.Proofs.YtkjlhhhnananlaaDoorW.PrintWords Go.Proofs.YtkjlhhhnananlaaDoorW.PrintLast
set_option linter.unusedVariables false
set_option linter.unusedSimpArgs false
def qB (c : UInt8) : Bool := blankB c.toNat
def qS (c : UInt8) : Bool := (c.toNat : Int) == 59
/-- A word as a policy has them: not empty, no blank, no semicolon. -/
def GoodW (x : ByteArray) : Prop := dl x ≠ [] ∧ ∀ c ∈ dl x, qB c = false ∧ qS c = false
theorem dl_app (s t : ByteArray) : dl (s ++ t) = dl s ++ dl t := by unfold dl; simp
theorem dl_wordsTo (n : ByteArray) : ∀ l : List ByteArray, dl (wordsTo n l) = dl n ++ tailL 32 (l.map dl) := by
  intro l
  induction l generalizing n with
  | nil => simp [wordsTo, tailL]
  | cons x l ih =>
    have e : wordsTo n (x :: l) = wordsTo ((n ++ spSep) ++ x) l := rfl
    rw [e, ih, dl_app, dl_app, show dl spSep = [32] from rfl]
    simp [tailL]
theorem split_words (x : List UInt8) (hx : ∀ c ∈ x, qB c = false) : ∀ ls : List (List UInt8), (∀ y ∈ ls, ∀ c ∈ y, qB c = false) → splitL qB (x ++ tailL 32 ls) = x :: ls := by
  intro ls
  induction ls generalizing x with
  | nil => intro _; simp only [tailL, List.flatMap_nil, List.append_nil]; exact splitL_none qB x hx
  | cons y ys ih =>
    intro h
    have e : x ++ tailL 32 (y :: ys) = x ++ (32 : UInt8) :: (y ++ tailL 32 ys) := by simp [tailL]
    rw [e, splitL_glue qB 32 (by decide), splitL_none qB x hx, ih y (h y (List.mem_cons_self ..)) (fun z hz => h z (List.mem_cons_of_mem _ hz))]
    rfl
theorem words_of_text (n : ByteArray) (l : List ByteArray) (hn : GoodW n) (hl : ∀ x ∈ l, GoodW x) : cutOf blankB false (wordsTo n l) = n :: l ∧ cutOf blankB false ((⟨#[32]⟩ : ByteArray) ++ wordsTo n l) = n :: l := by
  have hsp : splitL qB (dl (wordsTo n l)) = dl n :: l.map dl := by
    rw [dl_wordsTo]
    exact split_words _ (fun c hc => (hn.2 c hc).1) _ (fun y hy c hc => by
      obtain ⟨x, hx, rfl⟩ := List.mem_map.1 hy
      exact ((hl x hx).2 c hc).1)
  have hkeep : (dl n :: l.map dl).filter (fun x => !x.isEmpty) = dl n :: l.map dl := by
    rw [List.filter_eq_self]
    intro x hx
    rcases List.mem_cons.1 hx with rfl | hx
    · have := hn.1; cases h : dl n with
      | nil => exact absurd h this
      | cons _ _ => rfl
    · obtain ⟨y, hy, rfl⟩ := List.mem_map.1 hx
      have := (hl y hy).1; cases h : dl y with
      | nil => exact absurd h this
      | cons _ _ => rfl
  constructor
  · refine map_data_inj ?_
    have h := words_split blankB (wordsTo n l)
    rw [show (fun c : UInt8 => blankB c.toNat) = qB from rfl, hsp, hkeep] at h
    exact h
  · refine map_data_inj ?_
    have h := words_split blankB ((⟨#[32]⟩ : ByteArray) ++ wordsTo n l)
    have e : dl ((⟨#[32]⟩ : ByteArray) ++ wordsTo n l) = [] ++ (32 : UInt8) :: dl (wordsTo n l) := by rw [dl_app]; rfl
    rw [show (fun c : UInt8 => blankB c.toNat) = qB from rfl, e, splitL_glue qB 32 (by decide), hsp] at h
    rw [List.filter_append, hkeep] at h
    exact h
theorem no_semi (n : ByteArray) (l : List ByteArray) (hn : GoodW n) (hl : ∀ x ∈ l, GoodW x) : ∀ c ∈ dl (wordsTo n l), qS c = false := by
  intro c hc
  rw [dl_wordsTo] at hc
  rcases List.mem_append.1 hc with hc | hc
  · exact (hn.2 c hc).2
  · unfold tailL at hc
    obtain ⟨y, hy, hc⟩ := List.mem_flatMap.1 hc
    obtain ⟨x, hx, rfl⟩ := List.mem_map.1 hy
    rcases List.mem_cons.1 hc with rfl | hc
    · decide
    · exact ((hl x hx).2 c hc).2
theorem good_anc : GoodW ancName := by unfold GoodW; decide
theorem good_box : GoodW boxName := by unfold GoodW; decide
theorem parts_dl (s : ByteArray) : (partsAt s).map dl = splitL qS (dl s) := parts_split (fun x => x == 59) s
theorem parts_one (t : ByteArray) (h : ∀ c ∈ dl t, qS c = false) : partsAt t = [t] := by
  refine map_data_inj (b := [t]) ?_
  have := parts_dl t
  rw [splitL_none qS _ h] at this
  exact this
theorem parts_two (x y : ByteArray) (hx : ∀ c ∈ dl x, qS c = false) (hy : ∀ c ∈ dl y, qS c = false) : partsAt ((x ++ semSep) ++ y) = [x, (⟨#[32]⟩ : ByteArray) ++ y] := by
  refine map_data_inj (b := [x, (⟨#[32]⟩ : ByteArray) ++ y]) ?_
  have := parts_dl ((x ++ semSep) ++ y)
  have e : dl ((x ++ semSep) ++ y) = dl x ++ (59 : UInt8) :: ((32 : UInt8) :: dl y) := by rw [dl_app, dl_app, show dl semSep = [59, 32] from rfl]; simp
  rw [e, splitL_glue qS 59 (by decide), splitL_none qS _ hx, splitL_none qS ((32 : UInt8) :: dl y) (fun c hc => by
    rcases List.mem_cons.1 hc with rfl | hc
    · decide
    · exact hy c hc)] at this
  rw [show List.map (fun s : ByteArray => s.data.toList) [x, (⟨#[32]⟩ : ByteArray) ++ y] = [dl x, dl ((⟨#[32]⟩ : ByteArray) ++ y)] from rfl, dl_app]
  exact this
theorem head_same (n : ByteArray) (l : List ByteArray) (h : lowBA n = n) : headIs n (n :: l) = true := by simp [headIs, h]
theorem head_other (m n : ByteArray) (l : List ByteArray) (h : lowBA n ≠ m) : headIs m (n :: l) = false := by simp [headIs, h]
theorem low_anc : lowBA ancName = ancName := by decide +kernel
theorem low_box : lowBA boxName = boxName := by decide +kernel
theorem anc_box : ancName ≠ boxName := by decide
theorem back_text (a : Bool) (l1 : List ByteArray) (c : Bool) (l3 : List ByteArray) (h1 : ∀ x ∈ l1, GoodW x) (h3 : ∀ x ∈ l3, GoodW x) (e1 : a = false → l1 = []) (e3 : c = false → l3 = []) : polOf (textOf a l1 c l3) = (a, l1, c, l3) := by
  have wa := words_of_text ancName l1 good_anc h1
  have wb := words_of_text boxName l3 good_box h3
  have sa := no_semi ancName l1 good_anc h1
  have sb := no_semi boxName l3 good_box h3
  have ha := head_same ancName l1 low_anc
  have hb := head_same boxName l3 low_box
  have hab := head_other boxName ancName l1 (by rw [low_anc]; exact anc_box)
  have hba := head_other ancName boxName l3 (by rw [low_box]; exact fun e => anc_box e.symm)
  have hn : ∀ n, headIs n [] = false := fun n => rfl
  unfold polOf
  cases a <;> cases c
  · obtain rfl := e1 rfl
    obtain rfl := e3 rfl
    have e : textOf false [] false [] = ⟨#[]⟩ := rfl
    rw [e, show dirWords (partsAt ⟨#[]⟩) = [[]] by kernel_rfl]
    rfl
  · obtain rfl := e1 rfl
    have e : textOf false [] true l3 = wordsTo boxName l3 := rfl
    rw [e, parts_one _ sb, show dirWords [wordsTo boxName l3] = [cutOf blankB false (wordsTo boxName l3)] from rfl, wb.1]
    simp [firstOf, List.find?, hba, hb]
  · obtain rfl := e3 rfl
    have e : textOf true l1 false [] = wordsTo ancName l1 := rfl
    rw [e, parts_one _ sa, show dirWords [wordsTo ancName l1] = [cutOf blankB false (wordsTo ancName l1)] from rfl, wa.1]
    simp [firstOf, List.find?, hab, ha]
  · have e : textOf true l1 true l3 = (wordsTo ancName l1 ++ semSep) ++ wordsTo boxName l3 := rfl
    rw [e, parts_two _ _ sa sb, show dirWords [wordsTo ancName l1, (⟨#[32]⟩ : ByteArray) ++ wordsTo boxName l3] = [cutOf blankB false (wordsTo ancName l1), cutOf blankB false ((⟨#[32]⟩ : ByteArray) ++ wordsTo boxName l3)] from rfl, wa.1, wb.2]
    simp [firstOf, List.find?, hab, ha, hb]
theorem mem_part (s w : ByteArray) (h : w ∈ cutOf blankB false s) : dl w ≠ [] ∧ ∀ c ∈ dl w, qB c = false ∧ c ∈ dl s := by
  have hm : dl w ∈ (splitL qB (dl s)).filter (fun x => !x.isEmpty) := by
    have := words_split blankB s
    rw [show (fun c : UInt8 => blankB c.toNat) = qB from rfl] at this
    rw [← this]; exact List.mem_map_of_mem h
  rw [List.mem_filter] at hm
  refine ⟨fun e => by rw [e] at hm; simp at hm, fun c hc => ⟨splitL_parts _ _ _ hm.1 c hc, ?_⟩⟩
  have hf : c ∈ (splitL qB (dl s)).flatten := List.mem_flatten.2 ⟨_, hm.1, hc⟩
  rw [splitL_flat] at hf
  exact (List.mem_filter.1 hf).1
theorem first_good (name s : ByteArray) : ∀ x ∈ (firstOf name (dirWords (partsAt s))).getD [], GoodW x ∧ x.size ≤ s.size := by
  intro x hx
  unfold firstOf at hx
  cases hf : (dirWords (partsAt s)).find? (headIs name) with
  | none => rw [hf] at hx; cases hx
  | some ws =>
    rw [hf] at hx
    have hm := List.mem_of_find?_eq_some hf
    obtain ⟨p, hp, rfl⟩ := List.mem_map.1 hm
    have hxw : x ∈ cutOf blankB false p := List.mem_of_mem_tail hx
    obtain ⟨h0, h1⟩ := mem_part p x hxw
    have hpd : dl p ∈ splitL qS (dl s) := by rw [← parts_dl]; exact List.mem_map_of_mem hp
    refine ⟨⟨h0, fun c hc => ⟨(h1 c hc).1, splitL_parts qS _ _ hpd c (h1 c hc).2⟩⟩, ?_⟩
    exact Nat.le_trans (cut_mem_size false _ p x hxw) (cut_mem_size true _ s p hp)
theorem back_pol (s : ByteArray) : polOf (textOf (polOf s).1 (polOf s).2.1 (polOf s).2.2.1 (polOf s).2.2.2) = polOf s := by
  refine back_text _ _ _ _ (fun x hx => (first_good ancName s x hx).1) (fun x hx => (first_good boxName s x hx).1) ?_ ?_
  · intro h
    show (firstOf ancName (dirWords (partsAt s))).getD [] = []
    cases hf : firstOf ancName (dirWords (partsAt s)) with
    | none => rfl
    | some y =>
      have h' : (firstOf ancName (dirWords (partsAt s))).isSome = false := h
      rw [hf] at h'; cases h'
  · intro h
    show (firstOf boxName (dirWords (partsAt s))).getD [] = []
    cases hf : firstOf boxName (dirWords (partsAt s)) with
    | none => rfl
    | some y =>
      have h' : (firstOf boxName (dirWords (partsAt s))).isSome = false := h
      rw [hf] at h'; cases h'
end Go.Proofs.YtkjlhhhnananlaaDoor.Pl
