/- The pure statement of SwapReports: the law's own function answers yes. No condition. -/
import Derived.Test.YtabjpoapnbkljaaDoorQx11
import Derived.Test.YtabjpoapnbkljaaDoorPl19
namespace Go.Proofs.YtabjpoapnbkljaaDoor.Pure
open Go.RowKit Go.Proofs.YtabjpoapnbkljaaDoor.Q Go.Proofs.YtabjpoapnbkljaaDoor.Pl Go.Proofs.YtabjpoapnbkljaaDoorW.PrintWords Go.Proofs.YtabjpoapnbkljaaDoorW.PrintLast
theorem SwapReports : ∀ (a0 : Bool) (a1_0 : Int) (a1_1 : ByteArray) (a1_2 : Int) (a1_3 : ByteArray) (a2_0 : Bool) (a2_1 : Int) (a2_2 : ByteArray) (a2_3 : ByteArray) (a2_4 : Bool) (a2_5 : Int) (a2_6 : Int) (a3_0 : Int) (a3_1 : ByteArray) (a3_2 : Int) (a3_3 : ByteArray) (a4_0 : Bool) (a4_1 : Int) (a4_2 : ByteArray) (a4_3 : ByteArray) (a4_4 : Bool) (a4_5 : Int) (a4_6 : Int), (Lit.int .i64 a1_0).wf = true → a1_1.size ≤ 140737488351232 → (Lit.int .i64 a1_2).wf = true → a1_3.size ≤ 140737488351232 → (Lit.int .i64 a2_1).wf = true → a2_2.size ≤ 140737488351232 → a2_3.size ≤ 140737488351232 → (Lit.int .u32 a2_5).wf = true → (Lit.int .i64 a2_6).wf = true → (Lit.int .i64 a3_0).wf = true → a3_1.size ≤ 140737488351232 → (Lit.int .i64 a3_2).wf = true → a3_3.size ≤ 140737488351232 → (Lit.int .i64 a4_1).wf = true → a4_2.size ≤ 140737488351232 → a4_3.size ≤ 140737488351232 → (Lit.int .u32 a4_5).wf = true → (Lit.int .i64 a4_6).wf = true → ∃ k, glacislaw19_SwapReports.f k a0 a1_0 a1_1 a1_2 a1_3 a2_0 a2_1 a2_2 a2_3 a2_4 a2_5 a2_6 a3_0 a3_1 a3_2 a3_3 a4_0 a4_1 a4_2 a4_3 a4_4 a4_5 a4_6 = some true := by
  intro a0 a1_0 a1_1 a1_2 a1_3 a2_0 a2_1 a2_2 a2_3 a2_4 a2_5 a2_6 a3_0 a3_1 a3_2 a3_3 a4_0 a4_1 a4_2 a4_3 a4_4 a4_5 a4_6 _ _ _ _ _ _ _ _ _ _ _ _ _ _ _ _ _ _
  refine ⟨5, ?_⟩
  unfold glacislaw19_SwapReports.f
  rw [awake_f, short_f]
  simp only [Option.bind_some]
  by_cases hs : (decide ((a2_3.size : Int) ≤ 1000) && decide ((a4_3.size : Int) ≤ 1000)) = true
  · rw [if_pos hs]
    unfold swap_Reports.f
    rw [opens_f, opens_f, swap_f, swap_f]
    simp only [Option.bind_some, if_true]
    unfold opensB
    by_cases h1 : a3_2 = 0 <;> by_cases h2 : a1_2 = 0 <;> simp [h1, h2]
  · rw [if_neg hs]
end Go.Proofs.YtabjpoapnbkljaaDoor.Pure
