/- The policies of two lines are those of one: over the printed functions. -/
import Derived.Test.YtkjlhhhnananlaaDoorPl10Lines
import Derived.Test.YtkjlhhhnananlaaDoorQx9
namespace Go.Proofs.YtkjlhhhnananlaaDoor.Pure
set_option linter.unusedVariables false
set_option linter.unusedSimpArgs false
open Go.RowKit Go.Proofs.YtkjlhhhnananlaaDoor.Q Go.Proofs.YtkjlhhhnananlaaDoor.Pl Go.Proofs.YtkjlhhhnananlaaDoorW.PrintWords Go.Proofs.YtkjlhhhnananlaaDoorW.PrintLast
theorem ones_small (m : Nat) (v : ByteArray) (hv : v.size ≤ m) : (onesL (commaParts v)).length ≤ m + 1 ∧ ∀ x ∈ onesL (commaParts v), x.f1.length ≤ m + 1 ∧ x.f3.length ≤ m + 1 := by
  constructor
  · have h1 := onesL_len (commaParts v)
    have h2 : (commaParts v).length ≤ v.size + 1 := cut_len true _ v
    omega
  · intro x hx
    exact headL_mem (m := m) (vs := [v]) (fun u hu => by rw [List.mem_singleton.1 hu]; exact hv) (by rw [headL_one]; exact hx)
theorem CspparseLines (a : ByteArray) (b : ByteArray) (h0 : a.size ≤ 140737488351232) (h1 : b.size ≤ 140737488351232) : ∃ k, glacislaw10_CspparseLines.f k a b = some true := by
  refine Evn.ex (g := fun k => glacislaw10_CspparseLines.f k a b) ?_
  unfold glacislaw10_CspparseLines.f
  refine Evn.bind awake10 ?_
  by_cases hs : a.size > 2000
  · refine Evn.iff_pos (by omega) (Evn.succ ?_)
    simp only [glacislaw10_CspparseLines.j0]
    exact Evn.iff_pos trivial (Evn.ret rfl)
  · refine Evn.iff_neg (by omega) (Evn.succ ?_)
    simp only [glacislaw10_CspparseLines.j0]
    by_cases hm : b.size > 2000
    · exact Evn.iff_pos (decide_eq_true (by omega)) (Evn.ret rfl)
    · refine Evn.iff_neg (fun h => by have := of_decide_eq_true h; omega) ?_
      have z1 : (a ++ (⟨#[44]⟩ : ByteArray)).size = a.size + 1 := by rw [ByteArray.size_append]; rfl
      have z2 : ((a ++ (⟨#[44]⟩ : ByteArray)) ++ b).size = a.size + 1 + b.size := by rw [ByteArray.size_append, z1]
      have csp : ∀ v : ByteArray, glacislaw10_csp.f v = some (cspH, v) := fun v => rfl
      have hA := ones_small 2000 a (by omega)
      have hB := ones_small 2000 b (by omega)
      have e1 : cspparse_Head.f [(⟨cspH, a⟩ : S38)] = some (onesL (commaParts a)) := by
        have := head_csp [a] 1 2000 (by simp) (fun v hv => by rw [List.mem_singleton.1 hv]; omega) (by decide) (by decide) (by decide)
        simpa using this
      have e2 : cspparse_Head.f [(⟨cspH, b⟩ : S38)] = some (onesL (commaParts b)) := by
        have := head_csp [b] 1 2000 (by simp) (fun v hv => by rw [List.mem_singleton.1 hv]; omega) (by decide) (by decide) (by decide)
        simpa using this
      have e3 : cspparse_Head.f [(⟨cspH, a⟩ : S38), ⟨cspH, b⟩] = some (onesL (commaParts a) ++ onesL (commaParts b)) := by
        have := head_csp [a, b] 2 2000 (by simp) (fun v hv => by
          rcases List.mem_cons.1 hv with rfl | hv
          · omega
          · rw [List.mem_singleton.1 hv]; omega) (by decide) (by decide) (by decide)
        simpa using this
      have e4 : cspparse_Head.f [(⟨cspH, (a ++ (⟨#[44]⟩ : ByteArray)) ++ b⟩ : S38)] = some (onesL (commaParts a) ++ onesL (commaParts b)) := by
        have := head_csp [(a ++ (⟨#[44]⟩ : ByteArray)) ++ b] 1 5000 (by simp) (fun v hv => by rw [List.mem_singleton.1 hv, z2]; omega) (by decide) (by decide) (by decide)
        rw [← onesL_app, ← comma_glue]
        simpa using this
      simp only [csp, Option.bind_some]
      rw [e3, e1, e2]
      simp only [Option.bind_some]
      refine Evn.iff_pos (by omega) (Evn.iff_pos (by omega) (Evn.iff_pos (by rw [z1]; omega) ?_))
      rw [e4]
      simp only [Option.bind_some]
      have hx : ∀ x ∈ onesL (commaParts a) ++ onesL (commaParts b), x.f1.length ≤ 4611686018427387904 ∧ x.f3.length ≤ 4611686018427387904 := by
        intro x hx
        rcases List.mem_append.1 hx with hx | hx
        · have := hA.2 x hx; omega
        · have := hB.2 x hx; omega
      have hl : (onesL (commaParts a) ++ onesL (commaParts b)).length ≤ 4611686018427387904 := by rw [List.length_append]; omega
      refine Evn.bind (same_refl _ hl hx) (Evn.bind (same_refl _ hl hx) (Evn.iff_pos trivial (Evn.iff_pos rfl (Evn.iff_pos rfl ?_))))
      rw [show octet_Split.f ((a ++ (⟨#[44]⟩ : ByteArray)) ++ b) 44 = some (commaParts ((a ++ (⟨#[44]⟩ : ByteArray)) ++ b)) from if_pos (by rw [z2]; omega)]
      simp only [Option.bind_some]
      refine Evn.ret ?_
      have hfin := headL_two_len a b
      rw [headL_two] at hfin
      rw [decide_eq_true (by omega)]
end Go.Proofs.YtkjlhhhnananlaaDoor.Pure
