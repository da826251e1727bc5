/- The order of frame options, and their letters' size, change nothing: over the printed functions. -/
import Derived.Test.YtbhokhidlgkakaaDoorPlTurn
namespace Go.Proofs.YtbhokhidlgkakaaDoor.Pure
set_option linter.unusedVariables false
set_option linter.unusedSimpArgs false
open Go.RowKit Go.Proofs.YtbhokhidlgkakaaDoor.Q Go.Proofs.YtbhokhidlgkakaaDoor.Pl Go.Proofs.YtbhokhidlgkakaaDoorW.PrintWords Go.Proofs.YtbhokhidlgkakaaDoorW.PrintLast
def wordsOf (l : List ByteArray) : List ByteArray := (l.flatMap (fun v => cparts (trimBA v))).map lowBA
theorem wordsOf_mem (l : List ByteArray) (s : ByteArray) : s ∈ wordsOf l ↔ ∃ v ∈ l, s ∈ (cparts (trimBA v)).map lowBA := by
  unfold wordsOf
  rw [List.map_flatMap, List.mem_flatMap]
theorem xfo_of {l : List ByteArray} (hl : l.length ≤ 200) (hv : ∀ v ∈ l, v.size ≤ 1000) : embedhdr_Xfo.f (l.map xfoH) = some (xfoOf (wordsOf l)) := by
  rw [xfo_f (n := 200) (m := 1000) ⟨by rw [List.length_map]; exact hl, fun x hx => ?_⟩ (by omega) (by omega), partsOf_xfo]
  · rfl
  · obtain ⟨v, hv', rfl⟩ := List.mem_map.1 hx
    exact ⟨by show (15 : Nat) ≤ _; omega, hv v hv'⟩
theorem turned (l : List ByteArray) (more : List ByteArray) (hm : ∀ v ∈ more, v ∈ l) : xfoOf (wordsOf l) = xfoOf (wordsOf ((l.map lowBA).reverse ++ more)) := by
  refine xfoOf_set fun s => ?_
  rw [wordsOf_mem, wordsOf_mem]
  constructor
  · rintro ⟨v, hv, hs⟩
    refine ⟨lowBA v, List.mem_append_left _ (List.mem_reverse.2 (List.mem_map.2 ⟨v, hv, rfl⟩)), ?_⟩
    rw [words_low]
    exact hs
  · rintro ⟨v, hv, hs⟩
    rcases List.mem_append.1 hv with hv | hv
    · obtain ⟨u, hu, rfl⟩ := List.mem_map.1 (List.mem_reverse.1 hv)
      rw [words_low] at hs
      exact ⟨u, hu, hs⟩
    · exact ⟨v, hm v hv, hs⟩
theorem turns_l0 (l : List ByteArray) (hl : l.length ≤ 90) : ∀ (d i : Nat), l.length - i = d → i ≤ l.length → (∀ v ∈ l.take i, v.size ≤ 1000) →
    Evn (fun k => glacislaw09_EmbedhdrTurns.l0 k l true ((l.take i).map xfoH) (((l.take i).map lowBA).reverse.map xfoH) (i : Int)) true := by
  intro d
  induction d with
  | zero =>
    intro i hd hi hv
    obtain rfl : i = l.length := by omega
    rw [List.take_length] at hv ⊢
    have hlow : ∀ v ∈ (l.map lowBA).reverse, v.size ≤ 1000 := by
      intro v hv'
      obtain ⟨u, hu, rfl⟩ := List.mem_map.1 (List.mem_reverse.1 hv')
      rw [low_sz]
      exact hv u hu
    refine Evn.succ ?_
    simp only [glacislaw09_EmbedhdrTurns.l0]
    refine Evn.iff_neg (by omega) ?_
    cases l with
    | nil =>
      refine Evn.iff_neg (by simp) ?_
      refine Evn.ret ?_
      rfl
    | cons v l =>
      refine Evn.iff_pos (by simp only [List.length_cons]; omega) (Evn.iff_pos (by simp only [List.length_cons]; omega) ?_)
      rw [show rdOf ByteArray.empty (v :: l) 0 = v from rfl]
      have hlen : (((v :: l).map lowBA).reverse.map xfoH).length = l.length + 1 := by simp
      simp only [List.length_cons] at hl
      simp only [xfo_row, Option.bind_some]
      refine Evn.iff_pos (by omega) ?_
      refine Evn.ret ?_
      rw [xfo_of (by simp only [List.length_cons]; omega) hv]
      have e : (((v :: l).map lowBA).reverse.map xfoH) ++ [xfoH v] = (((v :: l).map lowBA).reverse ++ [v]).map xfoH := by rw [List.map_append]; rfl
      change (if True then (some _).bind (fun t => (embedhdr_Xfo.f ((((v :: l).map lowBA).reverse.map xfoH) ++ [xfoH v])).bind fun t' => some (t == t')) else some false) = _
      rw [if_pos trivial, e, xfo_of (by simp; omega) (by
        intro u hu
        rcases List.mem_append.1 hu with hu | hu
        · exact hlow u hu
        · rw [List.mem_singleton] at hu
          subst hu
          exact hv u (by simp))]
      rw [← turned (v :: l) [v] (by simp)]
      simp
  | succ d ih =>
    intro i hd hi hv
    have hlt : i < l.length := by omega
    have hih := ih (i + 1) (by omega) (by omega)
    rw [List.take_succ_eq_append_getElem hlt] at hih
    refine Evn.succ ?_
    simp only [glacislaw09_EmbedhdrTurns.l0]
    refine Evn.iff_pos (by omega) (Evn.iff_pos (by omega) ?_)
    rw [rd_str l i hlt]
    have hlt2 : (l.take i).length ≤ 90 := by rw [List.length_take]; omega
    generalize l[i] = x at *
    by_cases hx : x.size ≤ 1000
    · refine Evn.iff_neg (by omega) ?_
      simp only [xfo_row, lower_f x (show x.size ≤ 281474976710656 by omega), Option.bind_some]
      refine Evn.iff_pos (by rw [List.length_map]; omega) ?_
      refine Evn.iff_pos (by simp only [List.length_map, List.length_reverse, List.length_cons, List.length_nil]; omega) ?_
      rw [wr64 (by omega) (by omega), show ((i : Int) + 1) = ((i + 1 : Nat) : Int) by omega]
      have := hih (by
        intro v hv'
        rcases List.mem_append.1 hv' with hv' | hv'
        · exact hv v hv'
        · rw [List.mem_singleton] at hv'
          subst hv'
          exact hx)
      simpa [xfoH] using this
    · exact Evn.iff_pos (by omega) (Evn.some _)
theorem EmbedhdrTurns : ∀ (a0 : List ByteArray), a0.length * 16 ≤ 140737488351232 → (∀ x ∈ a0, x.size ≤ 140737488351232) → ∃ k, glacislaw09_EmbedhdrTurns.f k a0 = some true := by
  intro l _ _
  refine Evn.ex (g := fun k => glacislaw09_EmbedhdrTurns.f k l) ?_
  unfold glacislaw09_EmbedhdrTurns.f
  refine Evn.bind awake09 ?_
  by_cases hl : l.length ≤ 90
  · exact Evn.iff_neg (by omega) (turns_l0 l hl _ 0 rfl (by omega) (by simp))
  · exact Evn.iff_pos (by omega) (Evn.some _)
end Go.Proofs.YtbhokhidlgkakaaDoor.Pure
