/- CoopPlusOnly, in plain terms: the strongest opener policy, just if the word is the same-origin one and the embedder policy isolates. -/
import Derived.Test.YtciigmlibnpeeaaDoorQx7
import Derived.Test.YtciigmlibnpeeaaDoorPl08Awake
namespace Go.Proofs.YtciigmlibnpeeaaDoor.Pure
set_option linter.unusedVariables false
set_option linter.unusedSimpArgs false
open Go.RowKit Go.Proofs.YtciigmlibnpeeaaDoor.Pl Go.Proofs.YtciigmlibnpeeaaDoor.Q Go.Proofs.YtciigmlibnpeeaaDoor.Sf Go.Proofs.YtciigmlibnpeeaaDoorW.PrintWords Go.Proofs.YtciigmlibnpeeaaDoorW.PrintLast
/-- The lines that are no embedder policy's. -/
def bareQ (h : S33) : Bool := !foldEq h.f0 nCoep
theorem low_plus : lowBA nCoop ≠ lowBA nCoep ∧ lowBA nCoopR ≠ lowBA nCoep ∧ foldEq nCoep nCoop = false := by decide +kernel
theorem opnV_cases (w : ByteArray) : opnV w = 0 ∨ opnV w = 1 ∨ opnV w = 2 := by
  unfold opnV twoOf
  split
  · exact Or.inr (Or.inl rfl)
  · split
    · exact Or.inr (Or.inr rfl)
    · exact Or.inl rfl
theorem plusF_no {v : Int} (h : v ≠ 2) (b : Bool) : plusF v b = v := by unfold plusF; rw [if_neg h]
theorem iso_zero : isoF 0 = false := by decide
theorem iso_f (x : Int) : coop_Isolates.f x = some (isoF x) := by
  unfold coop_Isolates.f isoF
  by_cases h : x = 1
  · rw [if_pos h]; subst h; rfl
  · rw [if_neg h, beq_eq_false_iff_ne.mpr h]; rfl
theorem bare_vals (l : List S33) (name : ByteArray) (h1 : lowBA name ≠ lowBA nCoep) : valsOf (l.filter bareQ) name = valsOf l name := by
  refine vals_filter l bareQ name (fun x _ hf => ?_)
  unfold bareQ
  rw [fold_ne hf h1]
  rfl
theorem bare_none (l : List S33) : valsOf (l.filter bareQ) nCoep = [] := by
  refine vals_none _ _ (fun x hx => ?_)
  have := (List.mem_filter.1 hx).2
  unfold bareQ at this
  simpa using this
/-- What is told at the loop's end. -/
theorem plus_end (l : List S33) (v : ByteArray) (hs : Small l 100 4000) (hv : v.size ≤ 4000) (k : Nat) : glacislaw08_CoopPlusOnly.l0 (k + 1) l v true (l.filter bareQ) (l.length : Int) = some true := by
  have hb : Small (l.filter bareQ) 1000 5000 := small_filter (small_up hs (by omega) (by omega)) bareQ
  have hlen : (l.filter bareQ).length ≤ 100 := Nat.le_trans (List.length_filter_le _ _) hs.1
  have hw : Small (l.filter bareQ ++ [⟨nCoep, v⟩]) 1000 5000 := by
    refine ⟨by rw [List.length_append]; simp; omega, fun x hx => ?_⟩
    rcases List.mem_append.1 hx with h | h
    · exact hb.2 x h
    · obtain rfl := List.mem_singleton.1 h
      exact ⟨by show nCoep.size ≤ 281474976710656; decide, by show v.size ≤ 5000; omega⟩
  obtain ⟨n1, n2, n3⟩ := low_plus
  have hv1 : valsOf (l.filter bareQ ++ [⟨nCoep, v⟩]) nCoop = valsOf (l.filter bareQ) nCoop := by
    rw [vals_append, vals_none [⟨nCoep, v⟩] nCoop (fun x hx => by obtain rfl := List.mem_singleton.1 hx; exact n3)]
    simp
  have w1 := word_vals hw hb nCoop (by decide) hv1
  have w2 := word_nil hb nCoep (by decide) (bare_none l)
  have ca := coop_f hb
  have cb := coop_f hw
  have ce := coep_f hw
  rw [w2] at ca
  rw [w1] at cb
  simp only [] at ca cb ce
  generalize hA : plusF (opnV (wordOf (l.filter bareQ) nCoop).1) (isoF (embV ⟨#[]⟩)) = a at ca
  have hA2 : a = opnV (wordOf (l.filter bareQ) nCoop).1 := by
    rw [← hA, embV_nil, iso_zero]
    unfold plusF
    split
    · rename_i h; rw [if_neg (by decide)]; exact h.symm
    · rfl
  have ha3 : a ≠ 3 := by rw [hA2]; exact opnV_ne _
  rw [← hA2] at cb
  generalize wordOf (l.filter bareQ) nCoop = W at *
  generalize embV (wordOf (l.filter bareQ ++ [⟨nCoep, v⟩]) nCoep).1 = E at *
  rw [glacislaw08_CoopPlusOnly.l0, if_neg (by omega)]
  show ((some ([] : List S33)).bind _) = _
  rw [Option.bind_some, if_pos (by simp; omega), List.nil_append, Option.bind_some, if_pos (by omega)]
  show Option.bind (some (l.filter bareQ ++ [⟨nCoep, v⟩])) _ = _
  rw [Option.bind_some, ca, Option.bind_some, cb, Option.bind_some, ce, Option.bind_some]
  simp only []
  by_cases h2 : a = 2
  · rw [if_pos h2, iso_f, Option.bind_some]
    cases hi : isoF E with
    | true => simp [plusF, h2]
    | false => simp [plusF, h2]
  · rw [if_neg h2, plusF_no h2]
    simp [ha3]
theorem plus_l0 (l : List S33) (v : ByteArray) (hs : Small l 100 4000) (hv : v.size ≤ 4000) : ∀ (d i : Nat) (x : List S33), l.length - i = d → i ≤ l.length → x.length ≤ i → x ++ (l.drop i).filter bareQ = l.filter bareQ → Evn (fun k => glacislaw08_CoopPlusOnly.l0 k l v true x (i : Int)) true := by
  have h1 := hs.1
  intro d
  induction d with
  | zero =>
    intro i x hd hi hx hq
    obtain rfl : i = l.length := by omega
    rw [List.drop_length] at hq
    simp at hq
    rw [hq]
    exact Evn.succ ⟨0, fun k _ => plus_end l v hs hv k⟩
  | succ d ih =>
    intro i x hd hi hx hq
    have hlt : i < l.length := by omega
    have hz := (hs.2 l[i] (List.getElem_mem hlt)).1
    refine Evn.succ ?_
    simp only [glacislaw08_CoopPlusOnly.l0]
    refine Evn.iff_pos (by omega) (Evn.iff_pos (by omega) ?_)
    rw [rd_hdr l i hlt]
    rw [List.drop_eq_getElem_cons hlt, List.filter_cons] at hq
    generalize l[i] = h at *
    have ew : wrap64 ((i : Int) + 1) = ((i + 1 : Nat) : Int) := by rw [wr64 (by omega) (by omega)]; omega
    rw [ew]
    refine Evn.bind (Evn.ret (fold_f h.f0 nCoep hz (by decide))) ?_
    cases e1 : foldEq h.f0 nCoep with
    | true =>
      have : bareQ h = false := by unfold bareQ; rw [e1]; rfl
      rw [this] at hq
      refine Evn.iff_pos rfl ?_
      exact ih (i + 1) x (by omega) (by omega) (by omega) (by simpa using hq)
    | false =>
      have : bareQ h = true := by unfold bareQ; rw [e1]; rfl
      rw [this] at hq
      refine Evn.iff_neg (by decide) (Evn.iff_pos (by omega) ?_)
      exact ih (i + 1) (x ++ [h]) (by omega) (by omega) (by rw [List.length_append]; simp; omega) (by simpa using hq)
theorem CoopPlusOnlyAll (l : List S33) (v : ByteArray) : ∃ k, glacislaw08_CoopPlusOnly.f k l v = some true := by
  apply Evn.ex
  unfold glacislaw08_CoopPlusOnly.f
  refine Evn.bind awake8 ?_
  refine Evn.bind (few8_f l) ?_
  have hj : ∀ k, glacislaw08_CoopPlusOnly.j0 (k + 1) l v true true = some true := fun k => by rw [glacislaw08_CoopPlusOnly.j0, if_pos rfl]
  cases hf : few8s l with
  | false => exact Evn.iff_neg (by decide) (Evn.succ ⟨0, fun k _ => hj k⟩)
  | true =>
    refine Evn.iff_pos rfl ?_
    by_cases hv : v.size ≤ 4000
    · rw [show decide ((v.size : Int) > 4000) = false from decide_eq_false (by omega)]
      refine Evn.succ ?_
      simp only [glacislaw08_CoopPlusOnly.j0]
      refine Evn.iff_neg (by decide) ?_
      exact plus_l0 l v (small_few hf) hv _ 0 [] rfl (by omega) (by simp) (by simp)
    · rw [show decide ((v.size : Int) > 4000) = true from decide_eq_true (by omega)]
      exact Evn.succ ⟨0, fun k _ => hj k⟩
theorem CoopPlusOnly : ∀ (a0 : List S33) (a1 : ByteArray), a0.length * 32 ≤ 140737488351232 → (∀ x ∈ a0, x.f0.size ≤ 140737488351232 ∧ x.f1.size ≤ 140737488351232) → a1.size ≤ 140737488351232 → ∃ k, glacislaw08_CoopPlusOnly.f k a0 a1 = some true := fun l v _ _ _ => CoopPlusOnlyAll l v
end Go.Proofs.YtciigmlibnpeeaaDoor.Pure
