/- Law 07: what its statements let in; whether lines may be. -/
import Derived.Test.YtebkibohejjkcaaDoorPlHdr
import Derived.Test.YtebkibohejjkcaaDoorPlHToken
namespace Go.Proofs.YtebkibohejjkcaaDoor.Pl
set_option linter.unusedVariables false
set_option linter.unusedSimpArgs false
open Go.RowKit Go.Proofs.YtebkibohejjkcaaDoor.Q Go.Proofs.YtebkibohejjkcaaDoorW.PrintWords Go.Proofs.YtebkibohejjkcaaDoorW.PrintLast

def fewQ (h : S24) : Bool := decide (h.f0.size ≤ 1000) && decide (h.f1.size ≤ 5000)
def fewA (l : List S24) : Bool := decide (l.length ≤ 110) && l.all fewQ
theorem fewa_l0 (l : List S24) (hl : l.length ≤ 110) : ∀ (d i : Nat), l.length - i = d → i ≤ l.length → Evn (fun k => glacislaw07_few.l0 k l (i : Int)) ((l.drop i).all fewQ) := by
  intro d
  induction d with
  | zero =>
    intro i hd hi
    obtain rfl : i = l.length := by omega
    refine Evn.succ ?_
    simp only [glacislaw07_few.l0]
    refine Evn.iff_neg (by omega) ?_
    rw [List.drop_length]
    exact Evn.some _
  | succ d ih =>
    intro i hd hi
    have hlt : i < l.length := by omega
    refine Evn.succ ?_
    simp only [glacislaw07_few.l0]
    refine Evn.iff_pos (by omega) (Evn.iff_pos (by omega) ?_)
    rw [rd_hdr l i hlt, List.drop_eq_getElem_cons hlt, List.all_cons]
    generalize l[i] = h
    unfold fewQ
    by_cases h0 : h.f0.size ≤ 1000
    · refine Evn.iff_neg (by omega) ?_
      by_cases h1 : h.f1.size ≤ 5000
      · refine Evn.iff_neg (by omega) ?_
        rw [wr64 (by omega) (by omega), show ((i : Int) + 1) = ((i + 1 : Nat) : Int) by omega]
        simp only [h0, h1, decide_true, Bool.and_true, Bool.true_and]
        exact ih (i + 1) (by omega) (by omega)
      · refine Evn.iff_pos (by omega) ?_
        simp only [h0, h1, decide_true, decide_false, Bool.and_false, Bool.false_and]
        exact Evn.some _
    · refine Evn.iff_pos (by omega) ?_
      simp only [h0, decide_false, Bool.false_and]
      exact Evn.some _
theorem fewa (l : List S24) : Evn (fun k => glacislaw07_few.f k l) (fewA l) := by
  unfold glacislaw07_few.f fewA
  by_cases h : l.length ≤ 110
  · refine Evn.iff_neg (by omega) ?_
    simp only [h, decide_true, Bool.true_and]
    exact fewa_l0 l h _ 0 rfl (by omega)
  · refine Evn.iff_pos (by omega) ?_
    simp only [h, decide_false, Bool.false_and]
    exact Evn.some _
theorem fewA_iff (l : List S24) : fewA l = true ↔ l.length ≤ 110 ∧ ∀ x ∈ l, x.f0.size ≤ 1000 ∧ x.f1.size ≤ 5000 := by
  unfold fewA fewQ
  simp [List.all_eq_true]
theorem small_fewA {l : List S24} (h : fewA l = true) : Small l 110 5000 := by
  rw [fewA_iff] at h
  exact ⟨h.1, fun x hx => ⟨by have := (h.2 x hx).1; omega, (h.2 x hx).2⟩⟩
def okH (h : S24) : Bool := tokB h.f0 && (decide (h.f1.size ≤ 4000) && !badB h.f1)
def chkOf (l : List S24) : Int := if l.length ≤ 100 ∧ l.all okH = true then 0 else 70
theorem chkL_ev : ∀ l : List S24, (∀ x ∈ l, x.f0.size ≤ 281474976710656) → Evn (fun k => chkL k l) (if l.all okH = true then 0 else 70)
  | [], _ => Evn.some _
  | h :: l, hs => by
    have ih := chkL_ev l (fun x hx => hs x (List.mem_cons_of_mem _ hx))
    show Evn (fun k => (octet_Token.f k h.f0).bind fun t => if t = true ∧ h.f1.size ≤ 4000 ∧ badB h.f1 = false then chkL k l else some 70) _
    refine Evn.bind (token h.f0 (hs h (by simp))) ?_
    rw [List.all_cons]
    by_cases hc : tokB h.f0 = true ∧ h.f1.size ≤ 4000 ∧ badB h.f1 = false
    · refine Evn.iff_pos hc ?_
      have e : okH h = true := by unfold okH; simp [hc]
      rw [e, Bool.true_and]
      exact ih
    · refine Evn.iff_neg hc ?_
      have e : okH h = false := by
        unfold okH
        rw [Bool.eq_false_iff]
        intro hh
        simp at hh
        exact hc ⟨hh.1, hh.2.1, hh.2.2⟩
      rw [e, Bool.false_and]
      exact Evn.some _
theorem check (l : List S24) (hs : ∀ x ∈ l, x.f0.size ≤ 281474976710656) : Evn (fun k => headers_Check.f k l) (chkOf l) := by
  unfold headers_Check.f chkOf
  by_cases h : l.length ≤ 100
  · refine Evn.iff_pos h ?_
    simpa [h] using chkL_ev l hs
  · refine Evn.iff_neg h ?_
    simpa [h] using Evn.some (70 : Int)
set_option maxRecDepth 100000 in
theorem awake07 : Evn (fun k => glacislaw07_awake.f k) true :=
  Evn.mono (k := 40) (show glacislaw07_awake.f 40 = some true by kernel_rfl) (fun k h => glacislaw07_awake.mono k true h)
end Go.Proofs.YtebkibohejjkcaaDoor.Pl
