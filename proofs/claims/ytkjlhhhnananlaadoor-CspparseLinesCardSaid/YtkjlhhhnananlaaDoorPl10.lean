/- Chapter 10 in plain words: the policy that a text is, by the code and by the document. -/
import Derived.Test.YtkjlhhhnananlaaDoorPlSplit
namespace Go.Proofs.YtkjlhhhnananlaaDoor.Pl
open Go.RowKit Go.Proofs.YtkjlhhhnananlaaDoor.Q Go.Proofs.YtkjlhhhnananlaaDoorW.PrintWords Go.Proofs.YtkjlhhhnananlaaDoorW.PrintLast
set_option linter.unusedVariables false
set_option linter.unusedSimpArgs false
set_option maxRecDepth 100000 in
theorem awake10 : Evn (fun k => glacislaw10_awake.f k) true :=
  Evn.mono (k := 60) (show glacislaw10_awake.f 60 = some true by kernel_rfl) (fun k h => glacislaw10_awake.mono k true h)
def polOf (s : ByteArray) : Bool × List ByteArray × Bool × List ByteArray :=
  ((firstOf ancName (dirWords (partsAt s))).isSome, (firstOf ancName (dirWords (partsAt s))).getD [], (firstOf boxName (dirWords (partsAt s))).isSome, (firstOf boxName (dirWords (partsAt s))).getD [])
theorem one_f (s : ByteArray) (h : s.size ≤ 8796093022200) : cspparse_One.f s = some (polOf s) := if_pos h
theorem ref_low (s : ByteArray) (h : s.size ≤ 281474976710656) : glacisref01_Lower.f s = some (lowBA s) := if_pos h
theorem ref_first_l0 (name : ByteArray) (ps : List ByteArray) (hp : ∀ p ∈ ps, p.size ≤ 8796093022200) (hl : ps.length ≤ 4611686018427387904) : ∀ (d i : Nat), ps.length - i = d → i ≤ ps.length →
    Evn (fun k => glacisref10_first.l0 k name ps i) ((firstOf name (dirWords (ps.drop i))).getD [], (firstOf name (dirWords (ps.drop i))).isSome) := by
  intro d
  induction d with
  | zero =>
    intro i hd hi
    refine Evn.succ ?_
    simp only [glacisref10_first.l0]
    refine Evn.iff_neg (by omega) (Evn.ret ?_)
    rw [List.drop_eq_nil_of_le (by omega)]
    rfl
  | succ d ih =>
    intro i hd hi
    have h1 : i < ps.length := by omega
    refine Evn.succ ?_
    simp only [glacisref10_first.l0]
    have e1 : rdOf ByteArray.empty ps (i : Int) = ps[i] := by simp [rdOf, List.getD_eq_getElem?_getD, List.getElem?_eq_getElem h1]
    have hsz := hp ps[i] (List.getElem_mem h1)
    rw [e1, wr64 (by omega) (by omega)]
    refine Evn.iff_pos (by omega) (Evn.iff_pos (by omega) ?_)
    refine Evn.bind (ref_words _ hsz) ?_
    rw [List.drop_eq_getElem_cons h1]
    have hwz := cut_mem_size false blankB ps[i]
    have nxt := ih (i + 1) (by omega) (by omega)
    generalize ps[i] = p at *
    have ed : dirWords (p :: ps.drop (i + 1)) = cutOf blankB false p :: dirWords (ps.drop (i + 1)) := rfl
    rw [ed]
    generalize cutOf blankB false p = ws at *
    cases ws with
    | nil =>
      refine Evn.iff_neg (by simp) ?_
      exact nxt
    | cons x xs =>
      refine Evn.iff_pos (by simp) (Evn.iff_pos (by simp) ?_)
      have ex : rdOf ByteArray.empty (x :: xs) 0 = x := rfl
      rw [ex, ref_low x (by have := hwz x (by simp); omega)]
      simp only [Option.bind_some]
      by_cases hx : lowBA x = name
      · refine Evn.iff_pos ((toList_iff _ _).2 hx) (Evn.iff_pos (by simp only [List.length_cons]; omega) (Evn.ret ?_))
        have ef : firstOf name ((x :: xs) :: dirWords (ps.drop (i + 1))) = some xs := by
          unfold firstOf
          rw [List.find?_cons_of_pos (by simp [headIs, hx])]
          rfl
        rw [ef]
        rfl
      · refine Evn.iff_neg (fun h => hx ((toList_iff _ _).1 h)) ?_
        have ef : firstOf name ((x :: xs) :: dirWords (ps.drop (i + 1))) = firstOf name (dirWords (ps.drop (i + 1))) := by
          unfold firstOf
          rw [List.find?_cons_of_neg (by simp [headIs, hx])]
        rw [ef]
        exact nxt
theorem ref_first (s name : ByteArray) (hs : s.size ≤ 8796093022200) : Evn (fun k => glacisref10_first.f k s name) ((firstOf name (dirWords (partsAt s))).getD [], (firstOf name (dirWords (partsAt s))).isSome) := by
  unfold glacisref10_first.f
  have hpz := cut_mem_size true (fun c => c == 59) s
  have hpl := cut_len true (fun c => c == 59) s
  refine Evn.bind (ref_split s 59 hs) ?_
  exact ref_first_l0 name _ (fun p hp => Nat.le_trans (hpz p hp) hs) (by omega) _ 0 rfl (Nat.zero_le _)
theorem ref_one (s : ByteArray) (hs : s.size ≤ 8796093022200) : Evn (fun k => glacisref10_One.f k s) (polOf s) := by
  unfold glacisref10_One.f
  refine Evn.bind (ref_first s _ hs) (Evn.bind (ref_first s _ hs) (Evn.ret rfl))
def samePol (a b : Bool × List ByteArray × Bool × List ByteArray) : Bool := textsEq a.2.1 b.2.1 && textsEq a.2.2.2 b.2.2.2 && (a.1 == b.1) && (a.2.2.1 == b.2.2.1)
theorem samePol_iff (a b : Bool × List ByteArray × Bool × List ByteArray) : samePol a b = true ↔ a = b := by
  obtain ⟨a1, a2, a3, a4⟩ := a
  obtain ⟨b1, b2, b3, b4⟩ := b
  unfold samePol
  simp only [Bool.and_eq_true, textsEq_iff, beq_iff_eq, Prod.mk.injEq]
  constructor
  · rintro ⟨⟨⟨h1, h2⟩, h3⟩, h4⟩; exact ⟨h3, h1, h4, h2⟩
  · rintro ⟨h1, h2, h3, h4⟩; exact ⟨⟨⟨h2, h4⟩, h1⟩, h3⟩
theorem same_one (a b : Bool × List ByteArray × Bool × List ByteArray) (h2 : a.2.1.length ≤ 4611686018427387904) (h4 : a.2.2.2.length ≤ 4611686018427387904) :
    Evn (fun k => glacisref10_SameOne.f k a.1 a.2.1 a.2.2.1 a.2.2.2 b.1 b.2.1 b.2.2.1 b.2.2.2) (samePol a b) := by
  unfold glacisref10_SameOne.f samePol
  refine Evn.bind (texts _ _ h2) (Evn.bind (texts _ _ h4) (Evn.ret ?_))
  cases textsEq a.2.1 b.2.1 <;> cases textsEq a.2.2.2 b.2.2.2 <;> cases (a.1 == b.1) <;> simp
theorem first_len (name s : ByteArray) : ((firstOf name (dirWords (partsAt s))).getD []).length ≤ s.size + 1 := by
  have h : ∀ ps : List ByteArray, (∀ p ∈ ps, p.size ≤ s.size) → ((firstOf name (dirWords ps)).getD []).length ≤ s.size + 1 := by
    intro ps
    induction ps with
    | nil => intro _; exact Nat.zero_le _
    | cons p ps ih =>
      intro hp
      have ih := ih (fun q hq => hp q (List.mem_cons_of_mem _ hq))
      have ed : dirWords (p :: ps) = cutOf blankB false p :: dirWords ps := rfl
      rw [ed]
      unfold firstOf at ih ⊢
      by_cases hc : headIs name (cutOf blankB false p) = true
      · rw [List.find?_cons_of_pos hc]
        have h1 := cut_len false blankB p
        have h2 := hp p (List.mem_cons_self ..)
        simp only [Option.map_some, Option.getD_some, List.length_tail]
        omega
      · rw [List.find?_cons_of_neg hc]
        exact ih
  exact h _ (cut_mem_size true _ s)
end Go.Proofs.YtkjlhhhnananlaaDoor.Pl
