/- The world in which this seat's listed variables hold what the program's text lays: for the witnesses of its rows. -/
import Derived.Test.YtebkibohejjkcaaDoorCards
import Derived.Test.YtebkibohejjkcaaDoorTie
import Derived.WalkKit
import Derived.ProofKit
import Derived.OpenShut
import Derived.ShutString
import Derived.ChangeOld
import Derived.Below
import Derived.SizedLaws
import Derived.Deep.DeepHandedRow
import Derived.Lib.LaidTab
namespace Go.Proofs.YtebkibohejjkcaaDoor.rc
open Go.ChangeShapes Go.WideShapes Go.ChangeAt Go.RowKit
theorem own : ownKnob Tryd.prog.godebug = none := by kernel_rfl
theorem laidOut : laidOutB Tryd.prog = true := by kernel_rfl
noncomputable def low : Nat := (World.holding Tryd.prog default ⟨#[], #[], []⟩).heap.size
noncomputable def laidWorld (os : Os) : World :=
  { World.holding Tryd.prog os ⟨#[], #[], []⟩ with heap := ((World.holding Tryd.prog os ⟨#[], #[], []⟩).heap
      |>.modify 2 (fun | .cells _ t f => .cells #[.int .u8 128, .int .u8 191, .int .u8 160, .int .u8 191, .int .u8 128, .int .u8 159, .int .u8 144, .int .u8 191, .int .u8 128, .int .u8 143, .int .u8 0, .int .u8 0, .int .u8 0, .int .u8 0, .int .u8 0, .int .u8 0, .int .u8 0, .int .u8 0, .int .u8 0, .int .u8 0, .int .u8 0, .int .u8 0, .int .u8 0, .int .u8 0, .int .u8 0, .int .u8 0, .int .u8 0, .int .u8 0, .int .u8 0, .int .u8 0, .int .u8 0, .int .u8 0] t f | o => o)
      |>.modify 1 (fun | .cells _ t f => .cells (Go.Pinned.utf8FirstZ.map fun n : Nat => Value.int .u8 (n : Int)).toArray t f | o => o)
      ) }
theorem bulk_one {H : Type} (d : DataW H) (l : List (DataW H)) : Rows.uptoBulk d ≤ Rows.uptoBulkAll (d :: l) := by
  simp only [Rows.uptoBulkAll]; omega
theorem bulk_two {H : Type} {d : DataW H} {l : List (DataW H)} {n : Nat} (h : Rows.uptoBulkAll (d :: l) ≤ n) : Rows.uptoBulk d ≤ n ∧ Rows.uptoBulkAll l ≤ n := by
  simp only [Rows.uptoBulkAll] at h; omega
theorem bulk_string {H : Type} {b : List UInt8} {n : Nat} (h : Rows.uptoBulk (DataW.lit (H := H) (.string b)) ≤ n) : b.length ≤ n := by
  simp only [Rows.uptoBulk] at h; omega
end Go.Proofs.YtebkibohejjkcaaDoor.rc
