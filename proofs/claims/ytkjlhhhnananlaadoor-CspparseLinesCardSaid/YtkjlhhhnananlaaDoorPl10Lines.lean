/- Chapter 10 in plain words: the policies of two lines. -/
import Derived.Test.YtkjlhhhnananlaaDoorPl10Head
import Derived.Test.YtkjlhhhnananlaaDoorPl10Parts
namespace Go.Proofs.YtkjlhhhnananlaaDoor.Pl
open Go.RowKit Go.Proofs.YtkjlhhhnananlaaDoor.Q Go.Proofs.YtkjlhhhnananlaaDoorW.PrintWords Go.Proofs.YtkjlhhhnananlaaDoorW.PrintLast
set_option linter.unusedVariables false
set_option linter.unusedSimpArgs false
def qC (c : UInt8) : Bool := (c.toNat : Int) == 44
theorem comma_dl (s : ByteArray) : (commaParts s).map dl = splitL qC (dl s) := parts_split (fun x => x == 44) s
theorem dl_app2 (s t : ByteArray) : dl (s ++ t) = dl s ++ dl t := by unfold dl; simp
theorem comma_glue (s m : ByteArray) : commaParts ((s ++ (⟨#[44]⟩ : ByteArray)) ++ m) = commaParts s ++ commaParts m := by
  refine map_data_inj ?_
  have h := comma_dl ((s ++ (⟨#[44]⟩ : ByteArray)) ++ m)
  have e : dl ((s ++ (⟨#[44]⟩ : ByteArray)) ++ m) = dl s ++ (44 : UInt8) :: dl m := by rw [dl_app2, dl_app2, show dl (⟨#[44]⟩ : ByteArray) = [44] from rfl]; simp
  rw [e, splitL_glue qC 44 (by decide), ← comma_dl, ← comma_dl, ← List.map_append] at h
  exact h
theorem onesL_app (a b : List ByteArray) : onesL (a ++ b) = onesL a ++ onesL b := by unfold onesL; exact List.flatMap_append
theorem headL_one (v : ByteArray) : headL [v] = onesL (commaParts v) := by simp [headL]
theorem headL_two (a b : ByteArray) : headL [a, b] = onesL (commaParts a) ++ onesL (commaParts b) := by simp [headL]
theorem headL_glue (a b : ByteArray) : headL [(a ++ (⟨#[44]⟩ : ByteArray)) ++ b] = headL [a, b] := by
  rw [headL_one, headL_two, comma_glue, onesL_app]
theorem headL_two_len (a b : ByteArray) : (headL [a, b]).length ≤ (commaParts ((a ++ (⟨#[44]⟩ : ByteArray)) ++ b)).length := by
  rw [headL_two, comma_glue, List.length_append, List.length_append]
  exact Nat.add_le_add (onesL_len _) (onesL_len _)
def mkB (l : List UInt8) : ByteArray := ⟨l.toArray⟩
theorem dl_mkB (l : List UInt8) : dl (mkB l) = l := by simp [dl, mkB]
theorem mkB_dl (s : ByteArray) : mkB (dl s) = s := dl_inj (dl_mkB _)
def qB2 (c : UInt8) : Bool := blankB c.toNat
def qS2 (c : UInt8) : Bool := (c.toNat : Int) == 59
def isBlank (b : UInt8) : Bool := ([9, 10, 12, 13, 32] : List UInt8).contains b
theorem isBlank_all (b : UInt8) (h : isBlank b = true) : qB2 b = true ∧ qS2 b = false ∧ qC b = false := by
  have hm : b ∈ ([9, 10, 12, 13, 32] : List UInt8) := by unfold isBlank at h; simpa using h
  simp only [List.mem_cons, List.not_mem_nil, or_false] at hm
  rcases hm with rfl | rfl | rfl | rfl | rfl <;> decide
def wordsL (l : List UInt8) : List (List UInt8) := (splitL qB2 l).filter (fun x => !x.isEmpty)
def partsW (l : List UInt8) : List (List (List UInt8)) := (splitL qS2 l).map wordsL
theorem words_dl (s : ByteArray) : (cutOf blankB false s).map dl = wordsL (dl s) := words_split blankB s
theorem parts_dl2 (s : ByteArray) : (partsAt s).map dl = splitL qS2 (dl s) := parts_split (fun x => x == 59) s
theorem dir_dl (s : ByteArray) : (dirWords (partsAt s)).map (List.map dl) = partsW (dl s) := by
  unfold dirWords partsW
  rw [← parts_dl2, List.map_map, List.map_map]
  exact List.map_congr_left fun p _ => words_dl p
theorem map_inj2 : ∀ {a b : List (List ByteArray)}, a.map (List.map dl) = b.map (List.map dl) → a = b
  | [], [], _ => rfl
  | [], _ :: _, h => by simp at h
  | _ :: _, [], h => by simp at h
  | x :: xs, y :: ys, h => by
    simp only [List.map_cons, List.cons.injEq] at h
    rw [map_inj2 h.2, map_data_inj (a := x) (b := y) h.1]
theorem words_cons (c : UInt8) (h : qB2 c = true) (l : List UInt8) : wordsL (c :: l) = wordsL l := by
  unfold wordsL
  rw [show splitL qB2 (c :: l) = [] :: splitL qB2 l by simp [splitL, h]]
  rfl
theorem words_snoc (c : UInt8) (h : qB2 c = true) (l : List UInt8) : wordsL (l ++ [c]) = wordsL l := by
  unfold wordsL
  rw [splitL_glue qB2 c h [] l, List.filter_append]
  simp [splitL]
theorem splitL_last (q : UInt8 → Bool) (l : List UInt8) : ∃ ps x, splitL q l = ps ++ [x] := by
  have h := splitL_ne q l
  exact ⟨(splitL q l).dropLast, (splitL q l).getLast h, (List.dropLast_concat_getLast h).symm⟩
/-- What is read of each part alone, and not of a blank at its ends, is not changed by one at the text's ends. -/
theorem over_cons {α : Type} (q : UInt8 → Bool) (G : List UInt8 → List α) (c : UInt8) (hq : q c = false) (hG : ∀ l, G (c :: l) = G l) (l : List UInt8) : (splitL q (c :: l)).flatMap G = (splitL q l).flatMap G := by
  cases hs : splitL q l with
  | nil => exact absurd hs (splitL_ne q l)
  | cons y ys =>
    rw [show splitL q (c :: l) = consHead c (splitL q l) by simp [splitL, hq], hs]
    simp [consHead, hG]
theorem over_snoc {α : Type} (q : UInt8 → Bool) (G : List UInt8 → List α) (c : UInt8) (hq : q c = false) (hG : ∀ l, G (l ++ [c]) = G l) (l : List UInt8) : (splitL q (l ++ [c])).flatMap G = (splitL q l).flatMap G := by
  obtain ⟨ps, x, h⟩ := splitL_last q l
  rw [splitL_snoc q c l ps x h, if_neg (by rw [hq]; decide), h]
  simp [hG]
theorem map_flat {α : Type} (f : List UInt8 → α) (l : List (List UInt8)) : l.map f = l.flatMap (fun x => [f x]) := by
  induction l with
  | nil => rfl
  | cons x l ih => simp [ih]
theorem pol_cons (c : UInt8) (h : isBlank c = true) (l : List UInt8) : polOf (mkB (c :: l)) = polOf (mkB l) := by
  have e : dirWords (partsAt (mkB (c :: l))) = dirWords (partsAt (mkB l)) := by
    refine map_inj2 ?_
    rw [dir_dl, dir_dl, dl_mkB, dl_mkB]
    unfold partsW
    rw [map_flat, map_flat]
    exact over_cons qS2 _ c (isBlank_all c h).2.1 (fun l => by rw [words_cons c (isBlank_all c h).1]) l
  unfold polOf; rw [e]
theorem pol_snoc (c : UInt8) (h : isBlank c = true) (l : List UInt8) : polOf (mkB (l ++ [c])) = polOf (mkB l) := by
  have e : dirWords (partsAt (mkB (l ++ [c]))) = dirWords (partsAt (mkB l)) := by
    refine map_inj2 ?_
    rw [dir_dl, dir_dl, dl_mkB, dl_mkB]
    unfold partsW
    rw [map_flat, map_flat]
    exact over_snoc qS2 _ c (isBlank_all c h).2.1 (fun l => by rw [words_snoc c (isBlank_all c h).1]) l
  unfold polOf; rw [e]
def oneD (l : List UInt8) : List S26 := if ((polOf (mkB l)).1 || (polOf (mkB l)).2.2.1) = true then [polS (polOf (mkB l))] else []
def onesD (l : List UInt8) : List S26 := (splitL qC l).flatMap oneD
theorem ones_dl (s : ByteArray) : onesL (commaParts s) = onesD (dl s) := by
  unfold onesL onesD
  rw [← comma_dl, List.flatMap_map]
  unfold oneD
  simp only [mkB_dl]
theorem onesD_cons (c : UInt8) (h : isBlank c = true) (l : List UInt8) : onesD (c :: l) = onesD l :=
  over_cons qC oneD c (isBlank_all c h).2.2 (fun l => by unfold oneD; rw [pol_cons c h]) l
theorem onesD_snoc (c : UInt8) (h : isBlank c = true) (l : List UInt8) : onesD (l ++ [c]) = onesD l :=
  over_snoc qC oneD c (isBlank_all c h).2.2 (fun l => by unfold oneD; rw [pol_snoc c h]) l
theorem onesD_left : ∀ l : List UInt8, onesD (l.dropWhile isBlank) = onesD l
  | [] => rfl
  | c :: l => by
    rw [List.dropWhile_cons]
    by_cases h : isBlank c = true
    · rw [if_pos h, onesD_left l, onesD_cons c h]
    · rw [if_neg h]
theorem onesD_right : ∀ l : List UInt8, onesD (l.dropWhile isBlank).reverse = onesD l.reverse
  | [] => rfl
  | c :: l => by
    rw [List.dropWhile_cons]
    by_cases h : isBlank c = true
    · rw [if_pos h, onesD_right l, List.reverse_cons, onesD_snoc c h]
    · rw [if_neg h]
theorem ones_trim (s : ByteArray) : onesL (commaParts (trimBA s)) = onesL (commaParts s) := by
  rw [ones_dl, ones_dl, show dl (trimBA s) = ((dl s).reverse.dropWhile isBlank).reverse.dropWhile isBlank from rfl, onesD_left, onesD_right, List.reverse_reverse]
def cspH : ByteArray := ⟨#[67, 111, 110, 116, 101, 110, 116, 45, 83, 101, 99, 117, 114, 105, 116, 121, 45, 80, 111, 108, 105, 99, 121]⟩
theorem csp_fold : foldEq cspH cspName = true := by decide +kernel
theorem vals_csp (l : List ByteArray) : valsOf (l.map (fun v => (⟨cspH, v⟩ : S38))) cspName = l.map trimBA := by
  unfold valsOf
  rw [List.filter_eq_self.2 (fun x hx => by obtain ⟨v, _, rfl⟩ := List.mem_map.1 hx; exact csp_fold), List.map_map]
  rfl
theorem head_csp (l : List ByteArray) (n m : Nat) (hn : l.length ≤ n) (hl : ∀ v ∈ l, v.size ≤ m) (hb : n * (m + 1) ≤ 2199023255551) (hn2 : n ≤ 4398046511000) (hm : m ≤ 8796093022200) : cspparse_Head.f (l.map (fun v => (⟨cspH, v⟩ : S38))) = some (l.flatMap (fun v => onesL (commaParts v))) := by
  have hs : Small (l.map (fun v => (⟨cspH, v⟩ : S38))) n m := ⟨by rw [List.length_map]; exact hn, fun x hx => by
    obtain ⟨v, hv, rfl⟩ := List.mem_map.1 hx
    exact ⟨by show cspH.size ≤ _; decide, hl v hv⟩⟩
  rw [head_f hs hb hn2 hm, vals_csp]
  unfold headL
  rw [List.flatMap_map]
  simp only [ones_trim]
end Go.Proofs.YtkjlhhhnananlaaDoor.Pl
