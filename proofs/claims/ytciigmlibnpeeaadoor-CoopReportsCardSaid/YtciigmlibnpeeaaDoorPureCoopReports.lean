/- CoopReports, in plain terms: what is but reported changes nothing else. -/
import Derived.Test.YtciigmlibnpeeaaDoorQx9
import Derived.Test.YtciigmlibnpeeaaDoorPl08Awake
namespace Go.Proofs.YtciigmlibnpeeaaDoor.Pure
set_option linter.unusedVariables false
set_option linter.unusedSimpArgs false
open Go.RowKit Go.Proofs.YtciigmlibnpeeaaDoor.Pl Go.Proofs.YtciigmlibnpeeaaDoor.Q Go.Proofs.YtciigmlibnpeeaaDoor.Sf Go.Proofs.YtciigmlibnpeeaaDoorW.PrintWords Go.Proofs.YtciigmlibnpeeaaDoorW.PrintLast
theorem low_names : lowBA nCoop ≠ lowBA nCoopR ∧ lowBA nCoop ≠ lowBA nCoepR ∧ lowBA nCoep ≠ lowBA nCoopR ∧ lowBA nCoep ≠ lowBA nCoepR := by decide +kernel
theorem plain_keeps (l : List S33) (name : ByteArray) (h1 : lowBA name ≠ lowBA nCoopR) (h2 : lowBA name ≠ lowBA nCoepR) : valsOf (l.filter plainQ) name = valsOf l name := by
  refine vals_filter l plainQ name (fun x _ hf => ?_)
  unfold plainQ
  rw [fold_ne hf h1, fold_ne hf h2]
  rfl
theorem plain_drops (l : List S33) : valsOf (l.filter plainQ) nCoopR = [] ∧ valsOf (l.filter plainQ) nCoepR = [] := by
  constructor <;>
  · refine vals_none _ _ (fun x hx => ?_)
    have := (List.mem_filter.1 hx).2
    unfold plainQ at this
    simp only [Bool.and_eq_true, Bool.not_eq_true'] at this
    first | exact this.1 | exact this.2
theorem CoopReportsAll (l : List S33) : ∃ k, glacislaw08_CoopReports.f k l = some true := by
  apply Evn.ex
  unfold glacislaw08_CoopReports.f
  refine Evn.bind awake8 ?_
  refine Evn.bind (few8_f l) ?_
  cases hf : few8s l with
  | false => exact Evn.iff_neg (by decide) (Evn.some _)
  | true =>
    have hs := small_up (small_few hf) (show 100 ≤ 1000 by omega) (show 4000 ≤ 5000 by omega)
    have hp := small_filter hs plainQ
    obtain ⟨n1, n2, n3, n4⟩ := low_names
    have w1 := word_vals hp hs nCoop (by decide) (plain_keeps l nCoop n1 n2)
    have w2 := word_vals hp hs nCoep (by decide) (plain_keeps l nCoep n3 n4)
    have w3 := word_nil hp nCoopR (by decide) (plain_drops l).1
    have w4 := word_nil hp nCoepR (by decide) (plain_drops l).2
    have c1 := coop_f hp
    have c2 := coep_f hp
    rw [w1, w2, w3, w4] at c1
    rw [w2, w4] at c2
    refine Evn.iff_pos rfl ?_
    refine Evn.bind (Evn.ret (coop_f hs)) ?_
    refine Evn.bind (plain_f hs) ?_
    refine Evn.bind (Evn.ret c1) ?_
    refine Evn.bind (Evn.ret (coep_f hs)) ?_
    refine Evn.bind (plain_f hs) ?_
    refine Evn.bind (Evn.ret c2) ?_
    refine Evn.iff_pos rfl ?_
    refine Evn.iff_pos ?_ ?_
    · simp only [beq_self_eq_true, nil_list, Bool.true_and, Bool.and_true]
      rw [opnV_nil]; rfl
    · refine Evn.ret ?_
      simp only [beq_self_eq_true, nil_list, Bool.true_and, Bool.and_true]
      rw [embV_nil]; rfl
theorem CoopReports : ∀ (a0 : List S33), a0.length * 32 ≤ 140737488351232 → (∀ x ∈ a0, x.f0.size ≤ 140737488351232 ∧ x.f1.size ≤ 140737488351232) → ∃ k, glacislaw08_CoopReports.f k a0 = some true := fun l _ _ => CoopReportsAll l
end Go.Proofs.YtciigmlibnpeeaaDoor.Pure
