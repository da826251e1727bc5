/- What stands behind a policy changes nothing of its directives: over the printed functions. -/
import Derived.Test.YtkjlhhhnananlaaDoorPl10First
import Derived.Test.YtkjlhhhnananlaaDoorQx8
namespace Go.Proofs.YtkjlhhhnananlaaDoor.Pure
set_option linter.unusedVariables false
set_option linter.unusedSimpArgs false
open Go.RowKit Go.Proofs.YtkjlhhhnananlaaDoor.Q Go.Proofs.YtkjlhhhnananlaaDoor.Pl Go.Proofs.YtkjlhhhnananlaaDoorW.PrintWords Go.Proofs.YtkjlhhhnananlaaDoorW.PrintLast
theorem first_j1 (s : ByteArray) (p q : Bool × List ByteArray × Bool × List ByteArray) (w0 : Bool) (w1 : List ByteArray) (hs : s.size ≤ 2000) (hp : p = polOf s) (e0 : w0 = (overPol p q).1) (e1 : w1 = (overPol p q).2.1)
    (n1 : p.2.1.length ≤ 100000) (n3 : p.2.2.2.length ≤ 100000) (m1 : q.2.1.length ≤ 100000) (m3 : q.2.2.2.length ≤ 100000) :
    Evn (fun k => glacislaw10_CspparseFirst.j1 k s true p.1 p.2.1 p.2.2.1 p.2.2.2 q.1 q.2.1 q.2.2.1 q.2.2.2 (overPol p q).1 (overPol p q).2.1 (overPol p q).2.2.1 (overPol p q).2.2.2 w0 w1 p.2.2.1 p.2.2.2) true := by
  subst e0 e1
  have o1 : (overPol p q).2.1.length ≤ 100000 := by unfold overPol; simp only []; split <;> assumption
  have o3 : (overPol p q).2.2.2.length ≤ 100000 := by unfold overPol; simp only []; split <;> assumption
  have hz : ((⟨#[105, 109, 103, 45, 115, 114, 99, 32, 120, 59]⟩ : ByteArray) ++ s).size ≤ 8796093022200 := by
    rw [ByteArray.size_append, show (⟨#[105, 109, 103, 45, 115, 114, 99, 32, 120, 59]⟩ : ByteArray).size = 10 from rfl]; omega
  have tail : ∀ b : Bool, b = true → Evn (fun k => if 10 + s.size ≤ 9223372036854775807 then ((cspparse_One.f ((⟨#[105, 109, 103, 45, 115, 114, 99, 32, 120, 59]⟩ : ByteArray) ++ s)).bind fun bt301 => ((glacisref10_SameOne.f k bt301.1 bt301.2.1 bt301.2.2.1 bt301.2.2.2 p.1 p.2.1 p.2.2.1 p.2.2.2).bind fun t309 => (if true = true then (if b = true then (some t309) else (none)) else (none)))) else (none)) true := by
    intro b hb
    refine Evn.iff_pos (by omega) ?_
    rw [one_f _ hz, pol_other s, ← hp]
    simp only [Option.bind_some]
    refine Evn.bind (same_one p p (by omega) (by omega)) (Evn.ret ?_)
    rw [(samePol_iff _ _).2 rfl]
    subst hb
    simp
  refine Evn.succ ?_
  simp only [glacislaw10_CspparseFirst.j1]
  by_cases hb : p.2.2.1 = true
  · refine Evn.iff_pos hb ?_
    refine Evn.bind (same_one (overPol p q) ((overPol p q).1, (overPol p q).2.1, p.2.2.1, p.2.2.2) (by omega) (by omega)) ?_
    refine tail _ ((samePol_iff _ _).2 ?_)
    unfold overPol; simp [hb]
  · refine Evn.iff_neg hb ?_
    refine Evn.bind (same_one (overPol p q) ((overPol p q).1, (overPol p q).2.1, q.2.2.1, q.2.2.2) (by omega) (by omega)) ?_
    refine tail _ ((samePol_iff _ _).2 ?_)
    unfold overPol; simp [hb]
theorem CspparseFirst (s : ByteArray) (m : ByteArray) (h0 : s.size ≤ 140737488351232) (h1 : m.size ≤ 140737488351232) : ∃ k, glacislaw10_CspparseFirst.f k s m = some true := by
  refine Evn.ex (g := fun k => glacislaw10_CspparseFirst.f k s m) ?_
  unfold glacislaw10_CspparseFirst.f
  refine Evn.bind awake10 ?_
  by_cases hs : s.size > 2000
  · refine Evn.iff_pos (by omega) (Evn.succ ?_)
    simp only [glacislaw10_CspparseFirst.j0]
    exact Evn.iff_pos trivial (Evn.ret rfl)
  · refine Evn.iff_neg (by omega) (Evn.succ ?_)
    simp only [glacislaw10_CspparseFirst.j0]
    by_cases hm : m.size > 2000
    · exact Evn.iff_pos (decide_eq_true (by omega)) (Evn.ret rfl)
    · refine Evn.iff_neg (fun h => by have := of_decide_eq_true h; omega) ?_
      have z1 : (s ++ (⟨#[59]⟩ : ByteArray)).size = s.size + 1 := by rw [ByteArray.size_append]; rfl
      have z2 : ((s ++ (⟨#[59]⟩ : ByteArray)) ++ m).size = s.size + 1 + m.size := by rw [ByteArray.size_append, z1]
      rw [one_f s (by omega), one_f m (by omega)]
      simp only [Option.bind_some]
      refine Evn.iff_pos (by omega) (Evn.iff_pos (by rw [z1]; omega) ?_)
      rw [one_f _ (by rw [z2]; omega), pol_glue]
      simp only [Option.bind_some]
      have n1 : (polOf s).2.1.length ≤ 100000 := Nat.le_trans (first_len ancName s) (by omega)
      have n3 : (polOf s).2.2.2.length ≤ 100000 := Nat.le_trans (first_len boxName s) (by omega)
      have m1 : (polOf m).2.1.length ≤ 100000 := Nat.le_trans (first_len ancName m) (by omega)
      have m3 : (polOf m).2.2.2.length ≤ 100000 := Nat.le_trans (first_len boxName m) (by omega)
      by_cases hp : (polOf s).1 = true
      · refine Evn.iff_pos hp (first_j1 s (polOf s) (polOf m) _ _ (by omega) rfl ?_ ?_ n1 n3 m1 m3) <;> (unfold overPol; simp [hp])
      · refine Evn.iff_neg hp (first_j1 s (polOf s) (polOf m) _ _ (by omega) rfl ?_ ?_ n1 n3 m1 m3) <;> (unfold overPol; simp [hp])
end Go.Proofs.YtkjlhhhnananlaaDoor.Pure
