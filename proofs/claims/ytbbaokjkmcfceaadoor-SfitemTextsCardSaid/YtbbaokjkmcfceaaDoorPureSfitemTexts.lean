/- Any text of plain bytes is read from its text as itself; one with another byte may not be: over the printed functions. -/
import Derived.Test.YtbbaokjkmcfceaaDoorQx9
import Derived.Test.YtbbaokjkmcfceaaDoorPl05D
namespace Go.Proofs.YtbbaokjkmcfceaaDoor.Pure
open Go.RowKit Go.Proofs.YtbbaokjkmcfceaaDoor.Q Go.Proofs.YtbbaokjkmcfceaaDoor.Sf Go.Proofs.YtbbaokjkmcfceaaDoor.Pl Go.Proofs.YtbbaokjkmcfceaaDoorW.PrintWords Go.Proofs.YtbbaokjkmcfceaaDoorW.PrintLast
set_option linter.unusedVariables false
def plB (l : List UInt8) : Bool := l.all fun c => decide (32 ≤ c.toNat ∧ c.toNat ≤ 126)
theorem plB_iff (l : List UInt8) : plB l = true ↔ Plain l := by
  unfold plB Plain; simp [List.all_eq_true]
theorem w64 (j : Nat) (h : j ≤ 100000) : wrap64 ((j : Int) + 1) = ((j + 1 : Nat) : Int) := by
  unfold wrap64; omega
theorem texts_loop (x : ByteArray) (x3 : Bool) (hx : (L x).length ≤ 1000) : ∀ (m j k : Nat), j + m = (L x).length → m < k →
    glacislaw05_SfitemTexts.l0 k x x3 (plB ((L x).take j)) (j : Int) = glacislaw05_SfitemTexts.l0 1 x x3 (plB (L x)) (((L x).length : Nat) : Int)
  | 0, j, k, hm, hk => by
    obtain ⟨k, rfl⟩ : ∃ k', k = k' + 1 := ⟨k - 1, by omega⟩
    have hj : j = (L x).length := by omega
    subst hj
    rw [List.take_length, glacislaw05_SfitemTexts.l0, glacislaw05_SfitemTexts.l0]
    rw [if_neg (by rw [size_L]; omega)]
    rw [if_neg (by rw [size_L]; omega)]
  | m + 1, j, k, hm, hk => by
    obtain ⟨k, rfl⟩ : ∃ k', k = k' + 1 := ⟨k - 1, by omega⟩
    have hj : j < (L x).length := by omega
    have ih := texts_loop x x3 hx m (j + 1) k (by omega) (by omega)
    rw [take_snoc _ _ hj] at ih
    have e : plB ((L x).take j ++ [(L x)[j]]) = (plB ((L x).take j) && decide (32 ≤ (L x)[j].toNat ∧ (L x)[j].toNat ≤ 126)) := by
      unfold plB; rw [List.all_append]; simp
    rw [e] at ih
    rw [glacislaw05_SfitemTexts.l0, if_pos (by rw [size_L]; omega), bt_get x j hj, w64 j (by omega)]
    cases hp : plB ((L x).take j) with
    | false =>
      rw [if_neg (by decide)]
      rw [hp, Bool.false_and] at ih
      exact ih
    | true =>
      rw [if_pos rfl, if_pos (by omega)]
      rw [hp, Bool.true_and] at ih
      by_cases h32 : ((L x)[j].toNat : Int) ≥ 32
      · rw [if_pos h32]
        have : decide (((L x)[j].toNat : Int) ≤ 126) = decide (32 ≤ (L x)[j].toNat ∧ (L x)[j].toNat ≤ 126) := by
          apply decide_eq_decide.2; omega
        rw [this]; exact ih
      · rw [if_neg h32]
        have : decide (32 ≤ (L x)[j].toNat ∧ (L x)[j].toNat ≤ 126) = false := decide_eq_false (by omega)
        rw [this] at ih; exact ih
theorem text_of (n i : Int) (t o : ByteArray) (b : Bool) (hv : sfitem_value.f ⟨#[]⟩ n i t = some (o, b)) (ho : o.size ≤ 1000000) : sfitem_Text.f n i t [] = if b = true then some (o, 0) else some (⟨#[]⟩, 50) := by
  unfold sfitem_Text.f sfitem_Tail.f
  rw [hv]
  simp only [Option.bind_some, List.length_nil]
  rw [if_pos (by omega), tailF]
  simp only [Option.bind_some]
  cases b with
  | false => rfl
  | true =>
    rw [if_pos rfl, if_pos rfl, if_pos trivial]
    have : (⟨#[]⟩ : ByteArray).size = 0 := rfl
    rw [if_pos (by omega), app_empty]
theorem SfitemTexts : ∀ (a0 : ByteArray), a0.size ≤ 140737488351232 → ∃ k, glacislaw05_SfitemTexts.f k a0 = some true := by
  intro x _
  refine ⟨x.size + 1, ?_⟩
  unfold glacislaw05_SfitemTexts.f
  rw [awake05]
  simp only [Option.bind_some]
  by_cases hx : (x.size : Int) > 1000
  · rw [if_pos hx]
  · rw [if_neg hx]
    have hl : (L x).length ≤ 1000 := by rw [← size_L]; omega
    have := texts_loop x true hl (L x).length 0 (x.size + 1) (by omega) (by rw [size_L]; omega)
    have e0 : plB ((L x).take 0) = true := rfl
    rw [e0] at this
    rw [show ((0 : Nat) : Int) = 0 from rfl] at this
    rw [this, glacislaw05_SfitemTexts.l0, if_neg (by rw [size_L]; omega)]
    have hz : ¬ ¬ x.size ≤ 2199023255540 := by omega
    have hv : sfitem_value.f ⟨#[]⟩ 3 0 x = some (textF 0 x) := by
      unfold sfitem_value.f
      rw [if_neg hz, if_neg (by omega), if_neg (by decide), if_neg (by decide), if_neg (by decide), if_pos rfl]
    by_cases hp : Plain (L x)
    · have hv' := hv
      rw [text_plain x 0 hp] at hv'
      have hsz := esc_len (L x)
      have hT := text_of 3 0 x _ _ hv' (by rw [size_L, L_B]; simp only [List.length_cons, List.length_append, List.length_nil]; omega)
      rw [if_pos (by decide)] at hT
      rw [hT]
      simp only [Option.bind_some]
      rw [(plB_iff _).2 hp, if_pos rfl]
      have hvt : VT (34 :: (esc (L x) ++ [34])) 3 0 (L x) := VT.quo _ _ (q_esc _ hp)
      rw [parse_read ⟨_, [], by simp, hvt, PT.nil []⟩ (by simp only [List.length_cons, List.length_append, List.length_nil]; omega) _ (L_B _)]
      simp only [Option.bind_some]
      rw [if_pos trivial, if_pos trivial, if_pos trivial, if_pos trivial, if_pos (by rw [L_toList, L_toList, L_B])]
      rfl
    · have hv' := hv
      rw [text_bad x 0 hp] at hv'
      have hT := text_of 3 0 x _ _ hv' (by decide)
      rw [if_neg (by decide)] at hT
      rw [hT]
      simp only [Option.bind_some]
      have : plB (L x) = false := by
        cases e : plB (L x) with
        | false => rfl
        | true => exact absurd ((plB_iff _).1 e) hp
      rw [this, if_neg (by decide), if_pos trivial, if_pos trivial, L_toList]
      rfl
end Go.Proofs.YtbbaokjkmcfceaaDoor.Pure
