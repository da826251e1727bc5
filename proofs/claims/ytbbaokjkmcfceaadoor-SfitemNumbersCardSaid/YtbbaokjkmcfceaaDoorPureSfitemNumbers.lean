/- Any number of at most fifteen digits is written in these digits and read as itself, whole and in thousandths; a greater one may not be: over the printed functions. -/
import Derived.Test.YtbbaokjkmcfceaaDoorQx8
import Derived.Test.YtbbaokjkmcfceaaDoorPl05D
namespace Go.Proofs.YtbbaokjkmcfceaaDoor.Pure
open Go.RowKit Go.Proofs.YtbbaokjkmcfceaaDoor.Q Go.Proofs.YtbbaokjkmcfceaaDoor.Sf Go.Proofs.YtbbaokjkmcfceaaDoor.Pl Go.Proofs.YtbbaokjkmcfceaaDoorW.PrintWords Go.Proofs.YtbbaokjkmcfceaaDoorW.PrintLast
set_option linter.unusedVariables false
theorem num_text (n i : Int) (t o : ByteArray) (b : Bool) (hv : sfitem_value.f ⟨#[]⟩ n i t = some (o, b)) (ho : o.size ≤ 1000000) : sfitem_Text.f n i t [] = if b = true then some (o, 0) else some (⟨#[]⟩, 50) := by
  unfold sfitem_Text.f sfitem_Tail.f
  rw [hv]
  simp only [Option.bind_some, List.length_nil]
  rw [if_pos (by omega), tailF]
  simp only [Option.bind_some]
  cases b with
  | false => rfl
  | true =>
    rw [if_pos rfl, if_pos rfl, if_pos trivial]
    have : (⟨#[]⟩ : ByteArray).size = 0 := rfl
    rw [if_pos (by omega), app_empty]
theorem num_val (i : Int) (h : -999999999999999 ≤ i ∧ i ≤ 999999999999999) : sfitem_value.f ⟨#[]⟩ 1 i ⟨#[]⟩ = some (itoaBA i, true) ∧ sfitem_value.f ⟨#[]⟩ 2 i ⟨#[]⟩ = some (decB i, true) := by
  have eN : (⟨#[]⟩ : ByteArray).toList.isEmpty = true := by rw [L_toList]; rfl
  have hz : ¬ ¬ (⟨#[]⟩ : ByteArray).size ≤ 2199023255540 := by decide
  constructor
  · unfold sfitem_value.f
    rw [if_neg hz, if_neg (by omega), if_pos rfl, eN]
  · unfold sfitem_value.f
    rw [if_neg hz, if_neg (by omega), if_neg (by decide), if_pos rfl, eN]
theorem num_bad (n i : Int) (h : ¬ (-999999999999999 ≤ i ∧ i ≤ 999999999999999)) : sfitem_value.f ⟨#[]⟩ n i ⟨#[]⟩ = some (⟨#[]⟩, false) := by
  have hz : ¬ ¬ (⟨#[]⟩ : ByteArray).size ≤ 2199023255540 := by decide
  unfold sfitem_value.f
  rw [if_neg hz, if_pos (by omega)]
theorem num_fit (i : Int) (h : -999999999999999 ≤ i ∧ i ≤ 999999999999999) (k : Nat) : glacislaw05_SfitemNumbers.j0 (k + 1) i true true = some true := by
  have hv := num_val i h
  have l1 : (L (itoaBA i)).length ≤ 16 := by
    rw [itoa_L, List.length_append]
    have := dec_len 14 i.natAbs (by omega)
    have : (sgO i).length ≤ 1 := by unfold sgO; split <;> simp
    omega
  have l2 : (L (decB i)).length ≤ 17 := by
    rw [dec_L, List.length_append, List.length_append, List.length_cons]
    have := dec_len 11 (i.natAbs / 1000) (by omega)
    have := (fr_at (i.natAbs % 1000) (by omega)).2.2.1
    have : (sgO i).length ≤ 1 := by unfold sgO; split <;> simp
    omega
  have t1 := num_text 1 i ⟨#[]⟩ _ _ hv.1 (by rw [size_L]; omega)
  have t2 := num_text 2 i ⟨#[]⟩ _ _ hv.2 (by rw [size_L]; omega)
  rw [if_pos rfl] at t1 t2
  have p1 := parse_read ⟨L (itoaBA i), [], by simp, int_back i h, PT.nil []⟩ (by omega) (itoaBA i) rfl
  have p2 := parse_read ⟨L (decB i), [], by simp, dec_back i h, PT.nil []⟩ (by omega) (decB i) rfl
  rw [glacislaw05_SfitemNumbers.j0, t1, t2]
  simp only [Option.bind_some]
  rw [if_pos trivial, p1, p2]
  simp only [Option.bind_some]
  simp
theorem num_not (i : Int) (h : ¬ (-999999999999999 ≤ i ∧ i ≤ 999999999999999)) (k : Nat) : glacislaw05_SfitemNumbers.j0 (k + 1) i true false = some true := by
  have t1 := num_text 1 i ⟨#[]⟩ _ _ (num_bad 1 i h) (by decide)
  have t2 := num_text 2 i ⟨#[]⟩ _ _ (num_bad 2 i h) (by decide)
  rw [if_neg (by decide)] at t1 t2
  rw [glacislaw05_SfitemNumbers.j0, t1, t2]
  simp only [Option.bind_some]
  have e : (⟨#[]⟩ : ByteArray).toList = [] := by rw [L_toList]; rfl
  simp [e]
theorem SfitemNumbers : ∀ (a0 : Int), (Lit.int .i64 a0).wf = true → ∃ k, glacislaw05_SfitemNumbers.f k a0 = some true := by
  intro i _
  refine ⟨1, ?_⟩
  unfold glacislaw05_SfitemNumbers.f
  rw [awake05]
  simp only [Option.bind_some]
  by_cases h1 : i ≥ -999999999999999
  · rw [if_pos h1]
    by_cases h2 : i ≤ 999999999999999
    · rw [decide_eq_true h2]; exact num_fit i ⟨h1, h2⟩ 0
    · rw [decide_eq_false h2]; exact num_not i (fun h => h2 h.2) 0
  · rw [if_neg h1]; exact num_not i (fun h => h1 h.1) 0
end Go.Proofs.YtbbaokjkmcfceaaDoor.Pure
