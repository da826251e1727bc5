-- Laid by this seat's own driver (wip/tools/drive.py) out of the translation.
import Derived.Test.YtabjpoapnbkljaaDoorQx0
namespace Go.Proofs.YtabjpoapnbkljaaDoor.Q
open Go.RowKit Go.Proofs.YtabjpoapnbkljaaDoorW.PrintWords Go.Proofs.YtabjpoapnbkljaaDoorW.PrintLast Go.Proofs.YtabjpoapnbkljaaDoorW.PrintMore
attribute [local go_sem] max2_int min2_int max_two min_two max_three min_three max_four min_four   -- for this text's walks alone
set_option linter.unusedVariables false
set_option linter.unusedSimpArgs false

theorem eqA26 (d : Nat) (w : World) (x0 y0 : ByteArray) (x1 y1 : Bool) (x2 y2 : Int) :
    (Op.equalIn (d + 2) 26 (.agg #[.string x0, .bool x1, .int .u32 x2]) (.agg #[.string y0, .bool y1, .int .u32 y2])).run Tryd.prog w = .ok (x0.toList == y0.toList && (x1 == y1 && (x2 == y2))) w := by
  refine eqA_of Tryd.underlying26 (by kernel_rfl) ?_
  refine eqf_cons (by rfl) (by go_simp; rfl) (by go_simp; rfl) (by go_simp) ?_
  refine eqf_cons (by rfl) (by go_simp; rfl) (by go_simp; rfl) (by go_simp) ?_
  exact eqf_last (by rfl) (by go_simp; rfl) (by go_simp; rfl) (by go_simp)
end Go.Proofs.YtabjpoapnbkljaaDoor.Q
