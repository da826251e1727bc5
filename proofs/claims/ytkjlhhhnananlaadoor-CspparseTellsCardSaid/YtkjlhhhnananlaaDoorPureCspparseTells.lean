/- Any policy's text is what the document says: over the printed functions. -/
import Derived.Test.YtkjlhhhnananlaaDoorPl10Text
import Derived.Test.YtkjlhhhnananlaaDoorQx7
namespace Go.Proofs.YtkjlhhhnananlaaDoor.Pure
set_option linter.unusedVariables false
set_option linter.unusedSimpArgs false
open Go.RowKit Go.Proofs.YtkjlhhhnananlaaDoor.Q Go.Proofs.YtkjlhhhnananlaaDoor.Pl Go.Proofs.YtkjlhhhnananlaaDoorW.PrintWords Go.Proofs.YtkjlhhhnananlaaDoorW.PrintLast
theorem tells_l0 (a : Bool) (l1 : List ByteArray) (c : Bool) (l3 : List ByteArray) (n1 : l1.length ≤ 100) (n3 : l3.length ≤ 100) : ∀ (d i : Nat), (l1 ++ l3).length - i = d → i ≤ (l1 ++ l3).length → (∀ x ∈ (l1 ++ l3).take i, x.size ≤ 200) →
    Evn (fun k => glacislaw10_CspparseTells.l0 k true (l1 ++ l3) (i : Int) a l1 c l3) true := by
  have hll : (l1 ++ l3).length ≤ 200 := by rw [List.length_append]; omega
  intro d
  induction d with
  | zero =>
    intro i hd hi hx
    have e : i = (l1 ++ l3).length := by omega
    rw [e, List.take_length] at hx
    refine Evn.succ ?_
    simp only [glacislaw10_CspparseTells.l0]
    refine Evn.iff_neg (by omega) (Evn.iff_pos (by simp) ?_)
    have h1 : ∀ x ∈ l1, x.size ≤ 200 := fun x h => hx x (List.mem_append_left _ h)
    have h3 : ∀ x ∈ l3, x.size ≤ 200 := fun x h => hx x (List.mem_append_right _ h)
    refine Evn.bind (text_f a l1 c l3 200 (by omega) h1 h3 (by omega) (by omega)) ?_
    refine Evn.bind (ref_text a l1 c l3 200 (by omega) h1 h3 (by omega) (by omega)) (Evn.ret ?_)
    simp
  | succ d ih =>
    intro i hd hi hx
    have hlt : i < (l1 ++ l3).length := by omega
    refine Evn.succ ?_
    simp only [glacislaw10_CspparseTells.l0]
    rw [rd_str _ i hlt, wr64 (by omega) (by omega), show ((i : Int) + 1) = ((i + 1 : Nat) : Int) by omega]
    refine Evn.iff_pos (by omega) (Evn.iff_pos (by omega) ?_)
    by_cases hs : (l1 ++ l3)[i].size > 200
    · exact Evn.iff_pos (by omega) (Evn.ret rfl)
    · refine Evn.iff_neg (by omega) (ih (i + 1) (by omega) (by omega) ?_)
      intro x h
      rw [List.take_succ_eq_append_getElem hlt] at h
      rcases List.mem_append.1 h with h | h
      · exact hx x h
      · rw [List.mem_singleton.1 h]; omega
theorem CspparseTellsAll (a : Bool) (l1 : List ByteArray) (c : Bool) (l3 : List ByteArray) : ∃ k, glacislaw10_CspparseTells.f k a l1 c l3 = some true := by
  refine Evn.ex (g := fun k => glacislaw10_CspparseTells.f k a l1 c l3) ?_
  unfold glacislaw10_CspparseTells.f
  refine Evn.bind awake10 ?_
  by_cases n1 : l1.length > 100
  · refine Evn.iff_pos (by omega) (Evn.succ ?_)
    simp only [glacislaw10_CspparseTells.j0]
    exact Evn.iff_pos (by simp) (Evn.ret rfl)
  · refine Evn.iff_neg (by omega) (Evn.succ ?_)
    simp only [glacislaw10_CspparseTells.j0]
    by_cases n3 : l3.length > 100
    · exact Evn.iff_pos (by simp; omega) (Evn.ret rfl)
    · refine Evn.iff_neg (by simp; omega) ?_
      simp only [Option.bind_some]
      refine Evn.iff_pos (by simp; omega) (Evn.iff_pos (by simp; omega) ?_)
      exact tells_l0 a l1 c l3 (by omega) (by omega) _ 0 rfl (Nat.zero_le _) (by simp)
theorem CspparseTells : ∀ (a0_0 : Bool) (a0_1 : List ByteArray) (a0_2 : Bool) (a0_3 : List ByteArray), a0_1.length * 16 ≤ 140737488351232 → (∀ x ∈ a0_1, x.size ≤ 140737488351232) → a0_3.length * 16 ≤ 140737488351232 → (∀ x ∈ a0_3, x.size ≤ 140737488351232) → ∃ k, glacislaw10_CspparseTells.f k a0_0 a0_1 a0_2 a0_3 = some true :=
  fun a l1 c l3 _ _ _ _ => CspparseTellsAll a l1 c l3
end Go.Proofs.YtkjlhhhnananlaaDoor.Pure
