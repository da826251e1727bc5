-- Laid by this seat's own driver (wip/tools/drive.py) out of the translation.
import Derived.Test.YtdcnofkcaddkpaaDoorProg
import Derived.Below
import Derived.Deep.Draws
import Derived.Deep.AppendLies
import Derived.Maps.AppendAt
import Derived.OwnWalk
import Derived.Laws.BytesArg
import Derived.Laws.MakeOwn
import Derived.Laws.OwnMore
import Derived.Deep.OwnRows
import Derived.Tactics
import Derived.Lib.ConvBytes
import Derived.Laws.Slices
import Derived.WalkKit
import Derived.KernelRfl
import Derived.RowKit3
import Derived.Deep.LoopGhost
import Derived.Deep.QuietTactic
import Derived.BigQuiet
import Derived.WideLaws
import Derived.Deep.DeepCutAuto
import Derived.Deep.CutBlock
import Derived.Deep.RegionHeld3
import Derived.Laws.Rows
import Derived.Lib.AppendStr
import Derived.ArgAppend
import Derived.Laws.IdiomCopy
import Derived.OrdersHeld
import Derived.Laws.BitsLemmas
import Derived.RowKit
import Derived.Test.YtdcnofkcaddkpaaDoorShelf
import Derived.Test.YtdcnofkcaddkpaaDoorWWords
import Derived.Test.YtdcnofkcaddkpaaDoorWLast
import Derived.Test.YtdcnofkcaddkpaaDoorWTab
import Derived.Test.YtdcnofkcaddkpaaDoorWFour
import Derived.Test.YtdcnofkcaddkpaaDoorWQPut
import Derived.Test.YtdcnofkcaddkpaaDoorWApart
import Derived.Test.YtdcnofkcaddkpaaDoorWArr
import Derived.Test.YtdcnofkcaddkpaaDoorWZeros
import Derived.Test.YtdcnofkcaddkpaaDoorWFoot
import Derived.Test.YtdcnofkcaddkpaaDoorWKept
import Derived.Test.YtdcnofkcaddkpaaDoorWShare
import Derived.Test.YtdcnofkcaddkpaaDoorWN
import Derived.Test.YtdcnofkcaddkpaaDoorWFootNe
import Derived.Test.YtdcnofkcaddkpaaDoorWAt
import Derived.Test.YtdcnofkcaddkpaaDoorWEqStruct
import Derived.Test.YtdcnofkcaddkpaaDoorWRepsOne
import Derived.Test.YtdcnofkcaddkpaaDoorWInv
import Derived.Test.YtdcnofkcaddkpaaDoorWInvWords
import Derived.Test.YtdcnofkcaddkpaaDoorWGuard
import Derived.Test.YtdcnofkcaddkpaaDoorWNEv
import Derived.Test.YtdcnofkcaddkpaaDoorWMore
namespace Go.Proofs.YtdcnofkcaddkpaaDoor.Q
open Go.RowKit Go.Proofs.YtdcnofkcaddkpaaDoorW.PrintWords Go.Proofs.YtdcnofkcaddkpaaDoorW.PrintLast Go.Proofs.YtdcnofkcaddkpaaDoorW.PrintMore
attribute [local go_sem] max2_int min2_int max_two min_two max_three min_three max_four min_four   -- for this text's walks alone
set_option linter.unusedVariables false
set_option linter.unusedSimpArgs false

theorem q_ne_nil (l : List UInt8) : (l != []) = !l.isEmpty := by cases l <;> rfl



def errW : Option Int → Value
  | none => .nilIface
  | some c => .iface 0 (.int .i64 c)
theorem errW_none : errW none = .nilIface := rfl
theorem errW_some (c : Int) : errW (some c) = .iface 0 (.int .i64 c) := rfl

theorem info5 : (Tryd.prog.info? 5).map (fun i => (i.zero, i.size, i.bytes)) = some (some (.int .u8 0), 1, 1) := by kernel_rfl
theorem info9 : (Tryd.prog.info? 9).map (fun i => (i.zero, i.size, i.bytes)) = some (some (.string ⟨#[]⟩), 1, 16) := by kernel_rfl
-- the values' own types

end Go.Proofs.YtdcnofkcaddkpaaDoor.Q
