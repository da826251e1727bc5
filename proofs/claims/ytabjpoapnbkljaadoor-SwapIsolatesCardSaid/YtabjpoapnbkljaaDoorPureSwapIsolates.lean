/- The pure statement of SwapIsolates: the law's own function answers yes. No condition. -/
import Derived.Test.YtabjpoapnbkljaaDoorQx9
import Derived.Test.YtabjpoapnbkljaaDoorPl19
namespace Go.Proofs.YtabjpoapnbkljaaDoor.Pure
open Go.RowKit Go.Proofs.YtabjpoapnbkljaaDoor.Q Go.Proofs.YtabjpoapnbkljaaDoor.Pl Go.Proofs.YtabjpoapnbkljaaDoorW.PrintWords Go.Proofs.YtabjpoapnbkljaaDoorW.PrintLast
theorem SwapIsolates : ∀ (a0 : Int) (a1_0 : Bool) (a1_1 : Int) (a1_2 : ByteArray) (a1_3 : ByteArray) (a1_4 : Bool) (a1_5 : Int) (a1_6 : Int) (a2_0 : Bool) (a2_1 : Int) (a2_2 : ByteArray) (a2_3 : ByteArray) (a2_4 : Bool) (a2_5 : Int) (a2_6 : Int) (a3 : Bool), (Lit.int .i64 a0).wf = true → (Lit.int .i64 a1_1).wf = true → a1_2.size ≤ 140737488351232 → a1_3.size ≤ 140737488351232 → (Lit.int .u32 a1_5).wf = true → (Lit.int .i64 a1_6).wf = true → (Lit.int .i64 a2_1).wf = true → a2_2.size ≤ 140737488351232 → a2_3.size ≤ 140737488351232 → (Lit.int .u32 a2_5).wf = true → (Lit.int .i64 a2_6).wf = true → ∃ k, glacislaw19_SwapIsolates.f k a0 a1_0 a1_1 a1_2 a1_3 a1_4 a1_5 a1_6 a2_0 a2_1 a2_2 a2_3 a2_4 a2_5 a2_6 a3 = some true := by
  intro a0 a1_0 a1_1 a1_2 a1_3 a1_4 a1_5 a1_6 a2_0 a2_1 a2_2 a2_3 a2_4 a2_5 a2_6 a3 _ _ _ _ _ _ _ _ _ _ _
  refine ⟨5, ?_⟩
  unfold glacislaw19_SwapIsolates.f
  rw [awake_f, short_f]
  simp only [Option.bind_some]
  by_cases hs : (decide ((a1_3.size : Int) ≤ 1000) && decide ((a2_3.size : Int) ≤ 1000)) = true
  · rw [if_pos hs]
    rw [swap_f, swap_f, same_f]
    simp only [Option.bind_some, if_true]
    unfold swapB matchB
    rw [same_comm a2_0 a2_1 a2_2 a2_3 a2_4 a2_5 a2_6 a1_0 a1_1 a1_2 a1_3 a1_4 a1_5 a1_6]
    by_cases h : a0 = 3
    · subst h
      cases sameO a1_0 a1_1 a1_2 a1_3 a1_4 a1_5 a1_6 a2_0 a2_1 a2_2 a2_3 a2_4 a2_5 a2_6 <;> cases a3 <;> simp
    · have h2 : (a0 == 3) = false := beq_eq_false_iff_ne.mpr h
      have h3 : (3 == a0) = false := beq_eq_false_iff_ne.mpr (Ne.symm h)
      rw [if_neg h]
      cases a3 <;> simp [h2, h3]
  · rw [if_neg hs]
end Go.Proofs.YtabjpoapnbkljaaDoor.Pure
