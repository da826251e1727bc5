/- One frame option more never makes what is refused to all be let: over the printed functions. -/
import Derived.Test.YtbhokhidlgkakaaDoorPlTurn
namespace Go.Proofs.YtbhokhidlgkakaaDoor.Pure
set_option linter.unusedVariables false
set_option linter.unusedSimpArgs false
open Go.RowKit Go.Proofs.YtbhokhidlgkakaaDoor.Q Go.Proofs.YtbhokhidlgkakaaDoor.Pl Go.Proofs.YtbhokhidlgkakaaDoorW.PrintWords Go.Proofs.YtbhokhidlgkakaaDoorW.PrintLast
/-- What the words of a head say, and those of one line more. -/
theorem deny_stays (ws vs : List ByteArray) (h : xfoOf ws = 1) : xfoOf (ws ++ vs) = 1 := by
  rw [xfoOf_eq] at h ⊢
  have e : ∀ s, isIn (ws ++ vs) s = (isIn ws s || isIn vs s) := fun s => by unfold isIn; rw [List.any_append]
  have hd : (dedup (ws ++ vs)).length ≤ 1 → (dedup ws).length ≤ 1 := by
    rw [dedup_le1, dedup_le1]
    exact fun hh a ha b hb => hh a (List.mem_append_left _ ha) b (List.mem_append_left _ hb)
  have hone : (dedup (ws ++ vs)).length ≤ 1 → ∀ s t, s ≠ t → isIn ws s = true → isIn vs t = false := by
    intro hh s t hst hs
    rw [Bool.eq_false_iff]
    intro ht
    exact hst ((dedup_le1 _).1 hh s (List.mem_append_left _ ((isIn_iff _ _).1 hs)) t (List.mem_append_right _ ((isIn_iff _ _).1 ht)))
  have a1 := fun hh => hone hh wDeny wSame (by decide)
  have a2 := fun hh => hone hh wDeny wAll (by decide)
  simp only [e]
  clear e hone
  generalize hn : (dedup (ws ++ vs)).length = n at *
  generalize hm : (dedup ws).length = m at *
  generalize isIn ws wSame = x at *
  generalize isIn ws wAll = y at *
  generalize isIn ws wDeny = z at *
  generalize isIn vs wSame = x' at *
  generalize isIn vs wAll = y' at *
  generalize isIn vs wDeny = z' at *
  by_cases h1 : n ≤ 1
  · have h2 := hd h1
    cases x <;> cases y <;> cases z <;> simp_all
  · cases x <;> cases y <;> cases z <;> cases x' <;> cases y' <;> cases z' <;> simp_all
theorem same_stays (ws vs : List ByteArray) (w : ByteArray) (r : Int) (hw : (w = wSame ∧ r = 2) ∨ (w = wAll ∧ r = 3)) (h : xfoOf ws = r) : xfoOf (ws ++ vs) = if vs.all (fun v => decide (v = w)) = true then r else 1 := by
  have hin : isIn ws w = true ∧ (dedup ws).length ≤ 1 := by
    rw [xfoOf_eq] at h
    rcases hw with ⟨rfl, rfl⟩ | ⟨rfl, rfl⟩
    · split at h
      · assumption
      · split at h
        · cases h
        · split at h <;> cases h
    · split at h
      · cases h
      · split at h
        · assumption
        · split at h <;> cases h
  have hall : ∀ s ∈ ws, s = w := fun s hs => (dedup_le1 ws).1 hin.2 s hs w ((isIn_iff _ _).1 hin.1)
  by_cases hv : vs.all (fun v => decide (v = w)) = true
  · rw [if_pos hv, ← h]
    rw [List.all_eq_true] at hv
    refine xfoOf_set fun s => ?_
    rw [List.mem_append]
    constructor
    · rintro (hs | hs)
      · exact hs
      · have := hv s hs
        rw [decide_eq_true_eq] at this
        subst this
        exact (isIn_iff _ _).1 hin.1
    · exact fun hs => .inl hs
  · rw [if_neg hv, xfoOf_eq]
    have hd : ¬ (dedup (ws ++ vs)).length ≤ 1 := by
      intro hd
      refine hv (List.all_eq_true.2 fun v hv' => ?_)
      rw [decide_eq_true_eq]
      exact (dedup_le1 _).1 hd v (List.mem_append_right _ hv') w (List.mem_append_left _ ((isIn_iff _ _).1 hin.1))
    rw [if_neg (fun e => hd e.2), if_neg (fun e => hd e.2)]
    have e : isIn (ws ++ vs) w = true := (isIn_iff _ _).2 (List.mem_append_left _ ((isIn_iff _ _).1 hin.1))
    rcases hw with ⟨rfl, _⟩ | ⟨rfl, _⟩
    · rw [e]; rfl
    · rw [e, if_pos (by simp)]
theorem more_l0 (a b : Int) (w : ByteArray) (ps : List ByteArray) (hp : ∀ p ∈ ps, p.size ≤ 281474976710656) (hl : ps.length ≤ 4398046511000)
    (hfin : (a = 2 ∨ a = 3) → b = if (ps.map lowBA).all (fun v => decide (v = w)) = true then a else 1) : ∀ (d i : Nat), ps.length - i = d → i ≤ ps.length →
    Evn (fun k => glacislaw09_EmbedhdrMore.l0 k true a b w ps (((ps.take i).map lowBA).all (fun v => decide (v = w))) (i : Int)) true := by
  intro d
  induction d with
  | zero =>
    intro i hd hi
    obtain rfl : i = ps.length := by omega
    rw [List.take_length]
    refine Evn.succ ?_
    simp only [glacislaw09_EmbedhdrMore.l0]
    refine Evn.iff_neg (by omega) ?_
    refine Evn.ret ?_
    generalize (ps.map lowBA).all (fun v => decide (v = w)) = q at *
    by_cases h2 : a = 2
    · subst h2
      rw [hfin (.inl rfl)]
      cases q <;> rfl
    · by_cases h3 : a = 3
      · subst h3
        rw [hfin (.inr rfl)]
        cases q <;> rfl
      · simp [h2, h3]
  | succ d ih =>
    intro i hd hi
    have hlt : i < ps.length := by omega
    have hih := ih (i + 1) (by omega) (by omega)
    rw [List.take_succ_eq_append_getElem hlt, List.map_append, List.all_append] at hih
    refine Evn.succ ?_
    simp only [glacislaw09_EmbedhdrMore.l0]
    refine Evn.iff_pos (by omega) ?_
    rw [rd_str ps i hlt]
    have hx := hp ps[i] (List.getElem_mem hlt)
    generalize ps[i] = x at *
    generalize ((ps.take i).map lowBA).all (fun v => decide (v = w)) = q at *
    rw [wr64 (by omega) (by omega), show ((i : Int) + 1) = ((i + 1 : Nat) : Int) by omega]
    cases q with
    | true =>
      refine Evn.iff_pos rfl (Evn.iff_pos (by omega) ?_)
      rw [lower_f x hx]
      show Evn (fun k => glacislaw09_EmbedhdrMore.l0 k true a b w ps ((lowBA x).toList == w.toList) ((i + 1 : Nat) : Int)) true
      rw [beq_toList]
      simpa using hih
    | false =>
      refine Evn.iff_neg (by simp) ?_
      simpa using hih
theorem EmbedhdrMore : ∀ (a0 : List S28) (a1 : ByteArray), a0.length * 32 ≤ 140737488351232 → (∀ x ∈ a0, x.f0.size ≤ 140737488351232 ∧ x.f1.size ≤ 140737488351232) → a1.size ≤ 140737488351232 → ∃ k, glacislaw09_EmbedhdrMore.f k a0 a1 = some true := by
  intro l s _ _ _
  refine Evn.ex (g := fun k => glacislaw09_EmbedhdrMore.f k l s) ?_
  unfold glacislaw09_EmbedhdrMore.f
  refine Evn.bind awake09 (Evn.bind (few l) ?_)
  have out : Evn (fun k => glacislaw09_EmbedhdrMore.j0 k l s true true) true := by
    refine Evn.succ ?_
    simp only [glacislaw09_EmbedhdrMore.j0]
    exact Evn.iff_pos (by simp) (Evn.some _)
  by_cases hf : fewB l = true
  · refine Evn.iff_pos hf ?_
    have hs := small_few hf
    by_cases h90 : l.length ≤ 90
    · refine Evn.iff_neg (by omega) ?_
      by_cases h1 : s.size ≤ 1000
      · rw [show decide ((s.size : Int) > 1000) = false by simp; omega]
        refine Evn.succ ?_
        simp only [glacislaw09_EmbedhdrMore.j0]
        refine Evn.iff_neg (by simp) ?_
        have hone : Small [xfoH s] 1 1000 := ⟨by simp, fun x hx => by
          rw [List.mem_singleton] at hx
          subst hx
          exact ⟨by show (15 : Nat) ≤ _; omega, h1⟩⟩
        have hs2 : Small (l ++ [xfoH s]) 101 4000 := ⟨by rw [List.length_append]; simp only [List.length_cons, List.length_nil]; omega, fun x hx => by
          rcases List.mem_append.1 hx with hx | hx
          · exact hs.2 x hx
          · have := hone.2 x hx
            exact ⟨this.1, by omega⟩⟩
        have x1 := xfo_f hs (by omega) (by omega)
        have x2 := xfo_f hs2 (by omega) (by omega)
        rw [partsOf_append, List.map_append] at x2
        have hp := parts_f hone (by omega) (by omega) xfoName (by decide)
        have hpl := partsOf_len hone xfoName
        have hps := fun p hp => partsOf_small hone xfoName p hp
        rw [x1]
        simp only [Option.bind_some, xfo_row]
        refine Evn.iff_pos (by simp only [List.length_nil]; omega) ?_
        rw [List.nil_append]
        refine Evn.iff_pos (by omega) ?_
        change Evn (fun k => (embedhdr_Xfo.f (l ++ [xfoH s])).bind _) true
        rw [x2]
        simp only [Option.bind_some]
        generalize (partsOf l xfoName).map lowBA = ws at *
        generalize hps' : partsOf [xfoH s] xfoName = ps at *
        have hdeny := deny_stays ws (ps.map lowBA)
        have hsame := same_stays ws (ps.map lowBA)
        have j2 : ∀ w, ((xfoOf ws = 2 ∨ xfoOf ws = 3) → xfoOf (ws ++ ps.map lowBA) = if (ps.map lowBA).all (fun v => decide (v = w)) = true then xfoOf ws else 1) → Evn (fun k => glacislaw09_EmbedhdrMore.j2 k s true (xfoOf ws) (xfoOf (ws ++ ps.map lowBA)) w) true := by
          intro w hw
          refine Evn.succ ?_
          simp only [glacislaw09_EmbedhdrMore.j2]
          show Evn (fun k => (headers_Parts.f [xfoH s] xfoName).bind _) true
          rw [hp]
          exact more_l0 _ _ w ps (fun p hp' => by have := hps p hp'; omega) (by omega) hw _ 0 rfl (by omega)
        have j1 : Evn (fun k => glacislaw09_EmbedhdrMore.j1 k s true (xfoOf ws) (xfoOf (ws ++ ps.map lowBA)) false) true := by
          refine Evn.succ ?_
          simp only [glacislaw09_EmbedhdrMore.j1]
          refine Evn.iff_neg (by simp) ?_
          by_cases h3 : xfoOf ws = 3
          · exact Evn.iff_pos h3 (j2 wAll (fun _ => (hsame wAll 3 (.inr ⟨rfl, rfl⟩) h3).trans (by rw [h3])))
          · refine Evn.iff_neg h3 (j2 wSame (fun hh => ?_))
            rcases hh with hh | hh
            · exact (hsame wSame 2 (.inl ⟨rfl, rfl⟩) hh).trans (by rw [hh])
            · exact absurd hh h3
        by_cases hd : xfoOf ws = 1
        · refine Evn.iff_pos hd ?_
          rw [hdeny hd]
          rw [hdeny hd] at j1
          exact j1
        · exact Evn.iff_neg hd j1
      · rw [show decide ((s.size : Int) > 1000) = true by simp; omega]
        exact out
    · exact Evn.iff_pos (by omega) out
  · exact Evn.iff_neg hf out
end Go.Proofs.YtbhokhidlgkakaaDoor.Pure
