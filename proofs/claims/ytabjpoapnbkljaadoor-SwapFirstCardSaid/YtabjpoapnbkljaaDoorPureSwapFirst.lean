/- The pure statement of SwapFirst: the law's own function answers yes. No condition. -/
import Derived.Test.YtabjpoapnbkljaaDoorQx10
import Derived.Test.YtabjpoapnbkljaaDoorPl19
namespace Go.Proofs.YtabjpoapnbkljaaDoor.Pure
open Go.RowKit Go.Proofs.YtabjpoapnbkljaaDoor.Q Go.Proofs.YtabjpoapnbkljaaDoor.Pl Go.Proofs.YtabjpoapnbkljaaDoorW.PrintWords Go.Proofs.YtabjpoapnbkljaaDoorW.PrintLast
theorem SwapFirst : ∀ (a0 : Int) (a1_0 : Bool) (a1_1 : Int) (a1_2 : ByteArray) (a1_3 : ByteArray) (a1_4 : Bool) (a1_5 : Int) (a1_6 : Int) (a2 : Int) (a3_0 : Bool) (a3_1 : Int) (a3_2 : ByteArray) (a3_3 : ByteArray) (a3_4 : Bool) (a3_5 : Int) (a3_6 : Int), (Lit.int .i64 a0).wf = true → (Lit.int .i64 a1_1).wf = true → a1_2.size ≤ 140737488351232 → a1_3.size ≤ 140737488351232 → (Lit.int .u32 a1_5).wf = true → (Lit.int .i64 a1_6).wf = true → (Lit.int .i64 a2).wf = true → (Lit.int .i64 a3_1).wf = true → a3_2.size ≤ 140737488351232 → a3_3.size ≤ 140737488351232 → (Lit.int .u32 a3_5).wf = true → (Lit.int .i64 a3_6).wf = true → ∃ k, glacislaw19_SwapFirst.f k a0 a1_0 a1_1 a1_2 a1_3 a1_4 a1_5 a1_6 a2 a3_0 a3_1 a3_2 a3_3 a3_4 a3_5 a3_6 = some true := by
  intro a0 a1_0 a1_1 a1_2 a1_3 a1_4 a1_5 a1_6 a2 a3_0 a3_1 a3_2 a3_3 a3_4 a3_5 a3_6 _ _ _ _ _ _ _ _ _ _ _ _
  refine ⟨5, ?_⟩
  unfold glacislaw19_SwapFirst.f
  rw [awake_f, short_f]
  simp only [Option.bind_some]
  by_cases hs : (decide ((a1_3.size : Int) ≤ 1000) && decide ((a3_3.size : Int) ≤ 1000)) = true
  · rw [if_pos hs]
    rw [match_f, swap_f, swap_f]
    simp only [Option.bind_some, if_true]
    unfold swapB
    by_cases h1 : a0 = 1
    · by_cases h2 : a2 = 0
      · have e : matchB a0 a1_0 a1_1 a1_2 a1_3 a1_4 a1_5 a1_6 a2 a3_0 a3_1 a3_2 a3_3 a3_4 a3_5 a3_6 = false := by unfold matchB; simp [h1, h2]
        rw [e]
        simp [h1, h2]
      · cases matchB a0 a1_0 a1_1 a1_2 a1_3 a1_4 a1_5 a1_6 a2 a3_0 a3_1 a3_2 a3_3 a3_4 a3_5 a3_6 <;> simp [h1, h2]
    · cases matchB a0 a1_0 a1_1 a1_2 a1_3 a1_4 a1_5 a1_6 a2 a3_0 a3_1 a3_2 a3_3 a3_4 a3_5 a3_6 <;> simp [h1]
  · rw [if_neg hs]
end Go.Proofs.YtabjpoapnbkljaaDoor.Pure
