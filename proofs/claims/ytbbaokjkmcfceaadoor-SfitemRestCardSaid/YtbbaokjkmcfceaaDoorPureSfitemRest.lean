/- What stands behind an item is the text's end, and the item alone is what is ahead of that: over the printed functions. -/
import Derived.Test.YtbbaokjkmcfceaaDoorQx6
import Derived.Test.YtbbaokjkmcfceaaDoorPl05E
namespace Go.Proofs.YtbbaokjkmcfceaaDoor.Pure
open Go.RowKit Go.Proofs.YtbbaokjkmcfceaaDoor.Q Go.Proofs.YtbbaokjkmcfceaaDoor.Sf Go.Proofs.YtbbaokjkmcfceaaDoor.Pl Go.Proofs.YtbbaokjkmcfceaaDoorW.PrintWords Go.Proofs.YtbbaokjkmcfceaaDoorW.PrintLast
set_option linter.unusedVariables false
theorem SfitemRest : ∀ (a0 : ByteArray), a0.size ≤ 140737488351232 → ∃ k, glacislaw05_SfitemRest.f k a0 = some true := by
  intro s _
  refine ⟨s.size + 2, ?_⟩
  unfold glacislaw05_SfitemRest.f
  rw [awake05]
  simp only [Option.bind_some]
  by_cases hs : (s.size : Int) > 4000
  · rw [if_pos hs]
  · rw [if_neg hs]
    unfold sfitem_Next.f
    rw [if_pos (by omega)]
    cases hn : rdNext s with
    | none =>
      simp only [Option.bind_some]
      rw [if_neg (by decide), if_pos trivial, if_pos (by rw [L_toList]; rfl)]
      rfl
    | some x =>
      obtain ⟨v, l, t⟩ := x
      obtain ⟨u, a1, a2, a3⟩ := next_inv hn
      have hu := a2.pos
      have hz : s.size = u.length + t.size := by rw [size_L, size_L, a1, List.length_append]
      have hw : wrap64 ((s.size : Int) - (t.size : Int)) = (u.length : Int) := by unfold wrap64; omega
      have hc := it_count a2
      simp only [Option.bind_some]
      rw [if_pos trivial, hw, if_neg (by omega), if_pos (by omega), if_pos (by omega)]
      have he : (s.extract (u.length : Int).toNat s.size).toList = t.toList := by
        rw [L_toList, L_toList]
        have : L (s.extract (u.length : Int).toNat s.size) = (L s).drop u.length := by
          unfold L
          rw [Lib.extract_data, Lib.size_eq, List.take_of_length_le (by simp)]
          rfl
        rw [this, a1]; simp
      rw [if_pos he]
      have hp : L (s.extract 0 (u.length : Int).toNat) = u := by
        have : L (s.extract 0 (u.length : Int).toNat) = (L s).take u.length := by
          unfold L
          rw [Lib.extract_data]; simp
        rw [this, a1]; simp
      have fin : ∀ k, l.length < k → glacislaw05_SfitemRest.j0 (k + 1) s true (u.length : Int) false v.1 v.2.1 v.2.2 l = some true := by
        intro k hk
        rw [glacislaw05_SfitemRest.j0, if_neg (by decide), if_pos (by omega), if_pos (by omega), parse_read a2 (by omega) _ hp, B_L]
        simp only [Option.bind_some]
        rw [same_refl l (by omega) _ _ _ k hk]
        simp only [Option.bind_some]
        rw [if_pos trivial, if_pos trivial]
      by_cases ht : (t.size : Int) > 0
      · rw [if_pos ht, if_pos (by omega)]
        obtain ⟨c, r, e⟩ := cons_of t (by omega)
        have hb : (bt t 0 == 59) = false := by
          rw [atF_cons e] at a3
          rw [bt0 e]
          exact beq_eq_false_iff_ne.2 (of_decide_eq_false a3)
        rw [hb]
        exact fin (s.size + 1) (by omega)
      · rw [if_neg ht]
        exact fin (s.size + 1) (by omega)
end Go.Proofs.YtbbaokjkmcfceaaDoor.Pure
