/- What is read is read from its text as itself: over the printed functions. -/
import Derived.Test.YtkjlhhhnananlaaDoorPl10Back
import Derived.Test.YtkjlhhhnananlaaDoorQx10
namespace Go.Proofs.YtkjlhhhnananlaaDoor.Pure
set_option linter.unusedVariables false
set_option linter.unusedSimpArgs false
open Go.RowKit Go.Proofs.YtkjlhhhnananlaaDoor.Q Go.Proofs.YtkjlhhhnananlaaDoor.Pl Go.Proofs.YtkjlhhhnananlaaDoorW.PrintWords Go.Proofs.YtkjlhhhnananlaaDoorW.PrintLast
theorem CspparseBack (s : ByteArray) (h0 : s.size ≤ 140737488351232) : ∃ k, glacislaw10_CspparseBack.f k s = some true := by
  refine Evn.ex (g := fun k => glacislaw10_CspparseBack.f k s) ?_
  unfold glacislaw10_CspparseBack.f
  refine Evn.bind awake10 ?_
  by_cases hs : s.size > 2000
  · exact Evn.iff_pos (by omega) (Evn.ret rfl)
  · refine Evn.iff_neg (by omega) ?_
    rw [one_f s (by omega)]
    simp only [Option.bind_some]
    have n1 : (polOf s).2.1.length ≤ s.size + 1 := first_len ancName s
    have n3 : (polOf s).2.2.2.length ≤ s.size + 1 := first_len boxName s
    have z1 : ∀ x ∈ (polOf s).2.1, x.size ≤ 2000 := fun x hx => Nat.le_trans (first_good ancName s x hx).2 (by omega)
    have z3 : ∀ x ∈ (polOf s).2.2.2, x.size ≤ 2000 := fun x hx => Nat.le_trans (first_good boxName s x hx).2 (by omega)
    refine Evn.bind (text_f _ _ _ _ 2000 (by omega) z1 z3 (by omega) (by omega)) ?_
    have hsz : (textOf (polOf s).1 (polOf s).2.1 (polOf s).2.2.1 (polOf s).2.2.2).size ≤ 8796093022200 := by
      have w1 := wordsTo_size 2000 ancName _ z1
      have w3 := wordsTo_size 2000 boxName _ z3
      have b1 : (polOf s).2.1.length * (2000 + 1) ≤ 2001 * 2001 := Nat.mul_le_mul (by omega) (by omega)
      have b3 : (polOf s).2.2.2.length * (2000 + 1) ≤ 2001 * 2001 := Nat.mul_le_mul (by omega) (by omega)
      have za : ancName.size = 15 := rfl
      have zb : boxName.size = 7 := rfl
      have zs : semSep.size = 2 := rfl
      unfold textOf
      split <;> split <;> (try simp only [ByteArray.size_append]) <;> (try omega)
      exact Nat.zero_le _
    rw [one_f _ hsz, back_pol s]
    simp only [Option.bind_some]
    refine Evn.bind (same_one (polOf s) (polOf s) (by omega) (by omega)) (Evn.ret ?_)
    rw [(samePol_iff _ _).2 rfl]
    have q1 : (polOf s).1 = false → (polOf s).2.1 = [] := fun h => by
      have h' : (firstOf ancName (dirWords (partsAt s))).isSome = false := h
      show (firstOf ancName (dirWords (partsAt s))).getD [] = []
      cases hf : firstOf ancName (dirWords (partsAt s)) with
      | none => rfl
      | some y => rw [hf] at h'; cases h'
    have q3 : (polOf s).2.2.1 = false → (polOf s).2.2.2 = [] := fun h => by
      have h' : (firstOf boxName (dirWords (partsAt s))).isSome = false := h
      show (firstOf boxName (dirWords (partsAt s))).getD [] = []
      cases hf : firstOf boxName (dirWords (partsAt s)) with
      | none => rfl
      | some y => rw [hf] at h'; cases h'
    cases ha : (polOf s).1 <;> cases hc : (polOf s).2.2.1 <;> simp [q1, q3, ha, hc]
end Go.Proofs.YtkjlhhhnananlaaDoor.Pure
