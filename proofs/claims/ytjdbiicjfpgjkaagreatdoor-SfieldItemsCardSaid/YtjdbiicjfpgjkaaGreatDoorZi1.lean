/- The law SfieldItems: contracts, words and plain lemmas that its proof reaches, part 1. Its conditions: the row's own. -/
import Derived.Test.YtjdbiicjfpgjkaaGreatDoorZi0
import Derived.ArgAppend
import Derived.Below
import Derived.BigQuiet
import Derived.ChangeOld
import Derived.Deep.AppendLies
import Derived.Deep.CutBlock
import Derived.Deep.DeepCutAuto
import Derived.Deep.DeepHandedRow
import Derived.Deep.Draws
import Derived.Deep.LoopGhost
import Derived.Deep.OwnRows
import Derived.Deep.QuietTactic
import Derived.Deep.RegionHeld3
import Derived.Defers
import Derived.KernelRfl
import Derived.Laws.BitsLemmas
import Derived.Laws.BytesArg
import Derived.Laws.IdiomCopy
import Derived.Laws.MakeOwn
import Derived.Laws.OwnMore
import Derived.Laws.Rows
import Derived.Laws.Slices
import Derived.Lib.AppendStr
import Derived.Lib.ConvBytes
import Derived.Lib.ItoaLen
import Derived.Lib.LaidTab
import Derived.LoopIn
import Derived.LoopNIn
import Derived.Maps.AppendAt
import Derived.Maps.OwnIn
import Derived.Maps.OwnOps
import Derived.Maps.OwnSet
import Derived.OpenShut
import Derived.OrdersHeld
import Derived.OwnWalk
import Derived.OwnWalkIn
import Derived.ProofKit
import Derived.RangeFuncBound
import Derived.RangeFuncBox
import Derived.RangeFuncCalls
import Derived.RangeFuncLeaves
import Derived.RangeFuncNested
import Derived.Recover
import Derived.RowKit
import Derived.RowKit3
import Derived.Scope
import Derived.Shelf.Abstract
import Derived.Shelf.LaysC
import Derived.Shelf.LaysM
import Derived.Shelf.Small.Strs
import Derived.Shelf.Small.Utf8
import Derived.Shelf.Small.Wraps
import Derived.Shelf.Strconv.Atoi
import Derived.Shelf.Strconv.AtoiAll
import Derived.Shelf.Strconv.AtoiErr
import Derived.Shelf.Strconv.AtoiErrFast
import Derived.Shelf.Strconv.AtoiFail
import Derived.Shelf.Strconv.AtoiInnerAll
import Derived.Shelf.Strconv.AtoiLong
import Derived.Shelf.Strconv.Clone
import Derived.Shelf.Strconv.ErrVarAll
import Derived.Shelf.Strconv.Itoa0
import Derived.Shelf.Strconv.Itoa1
import Derived.Shelf.Strconv.Itoa2
import Derived.Shelf.Strconv.Itoa3
import Derived.Shelf.Strconv.Lower
import Derived.Shelf.Strconv.ParseInt10
import Derived.Shelf.Strconv.ParseIntEmpty
import Derived.Shelf.Strconv.ParseUint10
import Derived.Shelf.Strconv.ParseUint10Any
import Derived.Shelf.Strconv.ParseUint10Empty
import Derived.Shelf.Strconv.RangeError
import Derived.Shelf.Strconv.SyntaxError
import Derived.Shelf.Strconv.ToError
import Derived.Shelf.Strconv.ToErrorRange
import Derived.Shelf.Strings.AsciiSet
import Derived.Shelf.Strings.Builder1
import Derived.Shelf.Strings.Builder2
import Derived.Shelf.Strings.OnBuilder
import Derived.Shelf.Strings.Prefix
import Derived.Shelf.Strings.Runes
import Derived.Shelf.Strings.Search1
import Derived.Shelf.Strings.SlTrimAscii
import Derived.Shelf.Strings.Trim
import Derived.Shelf.Unicode.DecodeSlow
import Derived.ShutString
import Derived.SizedLaws
import Derived.Sort.CutIn
import Derived.Stop.RegionWithIn
import Derived.Tactics
import Derived.TacticsInMore
import Derived.Test.YtjdbiicjfpgjkaaGreatDoorCards
import Derived.Test.YtjdbiicjfpgjkaaGreatDoorProg
import Derived.Test.YtjdbiicjfpgjkaaGreatDoorTie
import Derived.WalkKit
import Derived.WalkMore
import Derived.WideLaws
/- The world in which this seat's listed variables hold what the program's text lays: for the witnesses of its rows. -/
namespace Go.Proofs.YtjdbiicjfpgjkaaGreatDoor.rc
open Go.ChangeShapes Go.WideShapes Go.ChangeAt Go.RowKit
theorem own : ownKnob Tryz.prog.godebug = none := by kernel_rfl
theorem laidOut : laidOutB Tryz.prog = true := by kernel_rfl
noncomputable def low : Nat := (World.holding Tryz.prog default ⟨#[], #[], []⟩).heap.size
noncomputable def laidWorld (os : Os) : World :=
  { World.holding Tryz.prog os ⟨#[.cells #[.string ⟨#[118, 97, 108, 117, 101, 32, 111, 117, 116, 32, 111, 102, 32, 114, 97, 110, 103, 101]⟩] 163, .cells #[.string ⟨#[105, 110, 118, 97, 108, 105, 100, 32, 115, 121, 110, 116, 97, 120]⟩] 163], #[], []⟩ with heap := ((World.holding Tryz.prog os ⟨#[.cells #[.string ⟨#[118, 97, 108, 117, 101, 32, 111, 117, 116, 32, 111, 102, 32, 114, 97, 110, 103, 101]⟩] 163, .cells #[.string ⟨#[105, 110, 118, 97, 108, 105, 100, 32, 115, 121, 110, 116, 97, 120]⟩] 163], #[], []⟩).heap
      |>.modify 6 (fun | .cells _ t f => .cells #[.int .u8 0, .int .u8 1, .int .u8 28, .int .u8 2, .int .u8 29, .int .u8 14, .int .u8 24, .int .u8 3, .int .u8 30, .int .u8 22, .int .u8 20, .int .u8 15, .int .u8 25, .int .u8 17, .int .u8 4, .int .u8 8, .int .u8 31, .int .u8 27, .int .u8 13, .int .u8 23, .int .u8 21, .int .u8 19, .int .u8 16, .int .u8 7, .int .u8 26, .int .u8 12, .int .u8 18, .int .u8 6, .int .u8 11, .int .u8 5, .int .u8 10, .int .u8 9] t f | o => o)
      |>.modify 7 (fun | .cells _ t f => .cells #[.int .u8 0, .int .u8 1, .int .u8 56, .int .u8 2, .int .u8 57, .int .u8 49, .int .u8 28, .int .u8 3, .int .u8 61, .int .u8 58, .int .u8 42, .int .u8 50, .int .u8 38, .int .u8 29, .int .u8 17, .int .u8 4, .int .u8 62, .int .u8 47, .int .u8 59, .int .u8 36, .int .u8 45, .int .u8 43, .int .u8 51, .int .u8 22, .int .u8 53, .int .u8 39, .int .u8 33, .int .u8 30, .int .u8 24, .int .u8 18, .int .u8 12, .int .u8 5, .int .u8 63, .int .u8 55, .int .u8 48, .int .u8 27, .int .u8 60, .int .u8 41, .int .u8 37, .int .u8 16, .int .u8 46, .int .u8 35, .int .u8 44, .int .u8 21, .int .u8 52, .int .u8 32, .int .u8 23, .int .u8 11, .int .u8 54, .int .u8 26, .int .u8 40, .int .u8 15, .int .u8 34, .int .u8 20, .int .u8 31, .int .u8 10, .int .u8 25, .int .u8 14, .int .u8 19, .int .u8 9, .int .u8 13, .int .u8 8, .int .u8 7, .int .u8 6] t f | o => o)
      |>.modify 3 (fun | .cells _ t f => .cells #[.int .u64 1, .int .u64 10, .int .u64 100, .int .u64 1000, .int .u64 10000, .int .u64 100000, .int .u64 1000000, .int .u64 10000000, .int .u64 100000000, .int .u64 1000000000, .int .u64 10000000000, .int .u64 100000000000, .int .u64 1000000000000, .int .u64 10000000000000, .int .u64 100000000000000, .int .u64 1000000000000000, .int .u64 10000000000000000, .int .u64 100000000000000000, .int .u64 1000000000000000000, .int .u64 10000000000000000000] t f | o => o)
      |>.modify 1 (fun | .cells _ t f => .cells #[.int .u8 128, .int .u8 191, .int .u8 160, .int .u8 191, .int .u8 128, .int .u8 159, .int .u8 144, .int .u8 191, .int .u8 128, .int .u8 143, .int .u8 0, .int .u8 0, .int .u8 0, .int .u8 0, .int .u8 0, .int .u8 0, .int .u8 0, .int .u8 0, .int .u8 0, .int .u8 0, .int .u8 0, .int .u8 0, .int .u8 0, .int .u8 0, .int .u8 0, .int .u8 0, .int .u8 0, .int .u8 0, .int .u8 0, .int .u8 0, .int .u8 0, .int .u8 0] t f | o => o)
      |>.modify 5 (fun | .cells _ t f => .cells #[.iface 161 (.pointer (some ⟨low + 0, 0, none⟩))] t f | o => o)
      |>.modify 4 (fun | .cells _ t f => .cells #[.iface 161 (.pointer (some ⟨low + 1, 0, none⟩))] t f | o => o)
      |>.modify 0 (fun | .cells _ t f => .cells (Go.Pinned.utf8FirstZ.map fun n : Nat => Value.int .u8 (n : Int)).toArray t f | o => o)
      ) }
end Go.Proofs.YtjdbiicjfpgjkaaGreatDoor.rc
/-
  DERIVED: THE SHELF's CONTRACTS AT THIS DUMP, IN PLAIN WORDS (tools/lay-plain.mjs out of 'YtjdbiicjfpgjkaaGreatDoorShelfSrc.lean', which tools/lay-shelf.mjs wrote): THE SAME DECLARATIONS UNDER THE SAME NAMES: 'import', 'namespace', 'open', 'def', 'theorem' AND NOTHING ELSE: no command of the shelf's: FOR A HAND-IN. Each laying: the table of numbers ('.._ren') and one theorem, a field a fact of the dump's own or the kernel's comparison; each contract: ONE APPLICATION.
-/
namespace Go.Proofs
open Go.Shelf
def Tryz.lays156_ren : Go.Shelf.Ren := ⟨fun | 156 => 33 | 165 => 59 | 166 => 60 | 169 => 61 | 240 => 93 | 241 => 94 | 276 => 109 | 277 => 110 | n => n, fun | 31 => 61 | 9 => 9 | 3 => 3 | 4 => 4 | 0 => 0 | 20 => 20 | 72 => 95 | 76 => 99 | 70 => 92 | 37 => 93 | 75 => 98 | 127 => 116 | 164 => 121 | 5 => 5 | 80 => 101 | n => n, fun | n => n⟩
theorem Tryz.lays156 : Go.Proofs.Lays.n156 Tryz.prog Tryz.lays156_ren := {
  mixed := by kernel_rfl
  f156 := Tryz.func33.trans (congrArg some (by kernel_rfl))
  f165 := Tryz.func59.trans (congrArg some (by kernel_rfl))
  f166 := Tryz.func60.trans (congrArg some (by kernel_rfl))
  f169 := Tryz.func61.trans (congrArg some (by kernel_rfl))
  f240 := Tryz.func93.trans (congrArg some (by kernel_rfl))
  f241 := Tryz.func94.trans (congrArg some (by kernel_rfl))
  f276 := Tryz.func109.trans (congrArg some (by kernel_rfl))
  f277 := Tryz.func110.trans (congrArg some (by kernel_rfl))
  t0 := Tryz.underlying0
  a0 := Tryz.isAgg0
  z0 := Tryz.sizeOf0
  v0 := Tryz.zeroValue0
  t3 := Tryz.underlying3
  a3 := Tryz.isAgg3
  z3 := Tryz.sizeOf3
  v3 := Tryz.zeroValue3
  t4 := Tryz.underlying4
  a4 := Tryz.isAgg4
  z4 := Tryz.sizeOf4
  v4 := Tryz.zeroValue4
  t9 := Tryz.underlying9
  a9 := Tryz.isAgg9
  z9 := Tryz.sizeOf9
  v9 := Tryz.zeroValue9
  t20 := Tryz.underlying20
  a20 := Tryz.isAgg20
  z20 := Tryz.sizeOf20
  v20 := Tryz.zeroValue20
  t31 := Tryz.underlying61
  a31 := Tryz.isAgg61
  z31 := Tryz.sizeOf61
  v31 := Tryz.zeroValue61
  t37 := Tryz.underlying93
  a37 := Tryz.isAgg93
  z37 := Tryz.sizeOf93
  v37 := Tryz.zeroValue93
  t70 := Tryz.underlying92
  a70 := Tryz.isAgg92
  z70 := Tryz.sizeOf92
  v70 := Tryz.zeroValue92
  t72 := Tryz.underlying95
  a72 := Tryz.isAgg95
  z72 := Tryz.sizeOf95
  v72 := Tryz.zeroValue95
  t75 := Tryz.underlying98
  a75 := Tryz.isAgg98
  z75 := Tryz.sizeOf98
  v75 := Tryz.zeroValue98
  t76 := Tryz.underlying99
  a76 := Tryz.isAgg99
  z76 := Tryz.sizeOf99
  v76 := Tryz.zeroValue99
  t127 := Tryz.underlying116
  a127 := Tryz.isAgg116
  z127 := Tryz.sizeOf116
  v127 := Tryz.zeroValue116
  t164 := Tryz.underlying121
  a164 := Tryz.isAgg121
  z164 := Tryz.sizeOf121
  v164 := Tryz.zeroValue121 }
theorem Tryz.Builder_Extra_156 : Builder.Extra Tryz.prog Tryz.lays156_ren := {
  sizeBuilder := by kernel_rfl
  liesBuilder := by kernel_rfl
  t5 := Tryz.underlying5
  a5 := Tryz.isAgg5
  z5 := Tryz.sizeOf5
  v5 := Tryz.zeroValue5
  infoByte := by kernel_rfl
  cellsByte := by kernel_rfl
  sizeByte := by kernel_rfl
  neB5 := by decide }
open Go.RowKit in
/-- No element: the empty string; the world is as it was. (Whatever the slice's address and capacity: a nil slice too.) (LAID: no walk: one application.) -/
theorem Tryz.strings_Join_none (a : Option Addr) (c : Nat) (sep : ByteArray) (w : World) :
    Calls Tryz.prog 33 #[.slice a 0 c, .string sep] w fun e w' => e = .returned (.string ⟨#[]⟩) ∧ w' = w := Any.strings_Join_none Tryz.lays156 Tryz.Builder_Extra_156 a c sep w
open Go.RowKit in
/-- strings.Join: "Join concatenates the elements of its first argument to create a single string. The separator string sep is placed between elements in the resulting string.": HOWEVER MANY ELEMENTS. Below the heap's end the world is as it was. (LAID: no walk: one application.) -/
theorem Tryz.strings_Join (bk o c : Nat) (xs : List ByteArray) (sep : ByteArray) (w : World) (hcells : ∀ (j : Nat) x, xs[j]? = some x → w.cell? ⟨bk, o + j, none⟩ = some (.string x)) (hbk : bk < w.heap.size) (hN : xs.length ≤ 140737488355328) (hcap : xs.length ≤ c) (hlen : (Lib.join (xs.map (·.data.toList)) sep.data.toList).length ≤ 140737488355328) :
    Calls Tryz.prog 33 #[.slice (some ⟨bk, o, none⟩) xs.length c, .string sep] w fun e w' => e = .returned (.string ⟨(Lib.join (xs.map (·.data.toList)) sep.data.toList).toArray⟩) ∧ Below w.heap.size w w' := Any.strings_Join Tryz.lays156 Tryz.Builder_Extra_156 bk o c xs sep w hcells hbk hN hcap hlen
def Tryz.lays161_ren : Go.Shelf.Ren := ⟨fun | 161 => 40 | 231 => 52 | 227 => 54 | 233 => 55 | 235 => 57 | 228 => 89 | 197 => 90 | 151 => 91 | 260 => 106 | 152 => 107 | 137 => 100 | 119 => 122 | 224 => 123 | 225 => 124 | 217 => 118 | 266 => 132 | n => n, fun | 9 => 9 | 4 => 4 | 3 => 3 | 5 => 5 | 117 => 88 | 116 => 87 | 0 => 0 | 124 => 91 | 105 => 113 | 21 => 21 | 119 => 127 | 46 => 128 | 139 => 131 | 138 => 130 | n => n, fun | 3 => 0 | 4 => 1 | n => n⟩
theorem Tryz.lays161 : Go.Proofs.Lays.n161 Tryz.prog Tryz.lays161_ren := {
  mixed := by kernel_rfl
  f119 := Tryz.func122.trans (congrArg some (by kernel_rfl))
  f137 := Tryz.func100.trans (congrArg some (by kernel_rfl))
  f151 := Tryz.func91.trans (congrArg some (by kernel_rfl))
  f152 := Tryz.func107.trans (congrArg some (by kernel_rfl))
  f161 := Tryz.func40.trans (congrArg some (by kernel_rfl))
  f197 := Tryz.func90.trans (congrArg some (by kernel_rfl))
  f217 := Tryz.func118.trans (congrArg some (by kernel_rfl))
  f224 := Tryz.func123.trans (congrArg some (by kernel_rfl))
  f225 := Tryz.func124.trans (congrArg some (by kernel_rfl))
  f227 := Tryz.func54.trans (congrArg some (by kernel_rfl))
  f228 := Tryz.func89.trans (congrArg some (by kernel_rfl))
  f231 := Tryz.func52.trans (congrArg some (by kernel_rfl))
  f233 := Tryz.func55.trans (congrArg some (by kernel_rfl))
  f235 := Tryz.func57.trans (congrArg some (by kernel_rfl))
  f260 := Tryz.func106.trans (congrArg some (by kernel_rfl))
  f266 := Tryz.func132.trans (congrArg some (by kernel_rfl))
  t0 := Tryz.underlying0
  a0 := Tryz.isAgg0
  z0 := Tryz.sizeOf0
  v0 := Tryz.zeroValue0
  t3 := Tryz.underlying3
  a3 := Tryz.isAgg3
  z3 := Tryz.sizeOf3
  v3 := Tryz.zeroValue3
  t4 := Tryz.underlying4
  a4 := Tryz.isAgg4
  z4 := Tryz.sizeOf4
  v4 := Tryz.zeroValue4
  t5 := Tryz.underlying5
  a5 := Tryz.isAgg5
  z5 := Tryz.sizeOf5
  v5 := Tryz.zeroValue5
  t9 := Tryz.underlying9
  a9 := Tryz.isAgg9
  z9 := Tryz.sizeOf9
  v9 := Tryz.zeroValue9
  t21 := Tryz.underlying21
  a21 := Tryz.isAgg21
  z21 := Tryz.sizeOf21
  v21 := Tryz.zeroValue21
  t46 := Tryz.underlying128
  a46 := Tryz.isAgg128
  z46 := Tryz.sizeOf128
  v46 := Tryz.zeroValue128
  t105 := Tryz.underlying113
  a105 := Tryz.isAgg113
  z105 := Tryz.sizeOf113
  v105 := Tryz.zeroValue113
  t116 := Tryz.underlying87
  a116 := Tryz.isAgg87
  z116 := Tryz.sizeOf87
  t117 := Tryz.underlying88
  a117 := Tryz.isAgg88
  z117 := Tryz.sizeOf88
  v117 := Tryz.zeroValue88
  t119 := Tryz.underlying127
  a119 := Tryz.isAgg127
  z119 := Tryz.sizeOf127
  t124 := Tryz.underlying91
  a124 := Tryz.isAgg91
  z124 := Tryz.sizeOf91
  v124 := Tryz.zeroValue91
  t138 := Tryz.underlying130
  a138 := Tryz.isAgg130
  z138 := Tryz.sizeOf130
  v138 := Tryz.zeroValue130
  t139 := Tryz.underlying131
  a139 := Tryz.isAgg131
  z139 := Tryz.sizeOf131
  v139 := Tryz.zeroValue131
  g3 := by kernel_rfl
  g4 := by kernel_rfl }
def Tryz.lays162_ren : Go.Shelf.Ren := ⟨fun | 162 => 69 | 232 => 53 | 227 => 54 | 234 => 56 | 236 => 58 | 228 => 89 | 271 => 92 | 151 => 91 | 120 => 108 | 197 => 90 | 152 => 107 | 260 => 106 | 137 => 100 | 119 => 122 | 224 => 123 | 225 => 124 | 217 => 118 | 266 => 132 | n => n, fun | 9 => 9 | 4 => 4 | 3 => 3 | 5 => 5 | 117 => 88 | 116 => 87 | 0 => 0 | 124 => 91 | 21 => 21 | 105 => 113 | 46 => 128 | 119 => 127 | 139 => 131 | 138 => 130 | n => n, fun | 3 => 0 | 4 => 1 | n => n⟩
theorem Tryz.lays162 : Go.Proofs.Lays.n162 Tryz.prog Tryz.lays162_ren := {
  mixed := by kernel_rfl
  f119 := Tryz.func122.trans (congrArg some (by kernel_rfl))
  f120 := Tryz.func108.trans (congrArg some (by kernel_rfl))
  f137 := Tryz.func100.trans (congrArg some (by kernel_rfl))
  f151 := Tryz.func91.trans (congrArg some (by kernel_rfl))
  f152 := Tryz.func107.trans (congrArg some (by kernel_rfl))
  f162 := Tryz.func69.trans (congrArg some (by kernel_rfl))
  f197 := Tryz.func90.trans (congrArg some (by kernel_rfl))
  f217 := Tryz.func118.trans (congrArg some (by kernel_rfl))
  f224 := Tryz.func123.trans (congrArg some (by kernel_rfl))
  f225 := Tryz.func124.trans (congrArg some (by kernel_rfl))
  f227 := Tryz.func54.trans (congrArg some (by kernel_rfl))
  f228 := Tryz.func89.trans (congrArg some (by kernel_rfl))
  f232 := Tryz.func53.trans (congrArg some (by kernel_rfl))
  f234 := Tryz.func56.trans (congrArg some (by kernel_rfl))
  f236 := Tryz.func58.trans (congrArg some (by kernel_rfl))
  f260 := Tryz.func106.trans (congrArg some (by kernel_rfl))
  f266 := Tryz.func132.trans (congrArg some (by kernel_rfl))
  f271 := Tryz.func92.trans (congrArg some (by kernel_rfl))
  t0 := Tryz.underlying0
  a0 := Tryz.isAgg0
  z0 := Tryz.sizeOf0
  v0 := Tryz.zeroValue0
  t3 := Tryz.underlying3
  a3 := Tryz.isAgg3
  z3 := Tryz.sizeOf3
  v3 := Tryz.zeroValue3
  t4 := Tryz.underlying4
  a4 := Tryz.isAgg4
  z4 := Tryz.sizeOf4
  v4 := Tryz.zeroValue4
  t5 := Tryz.underlying5
  a5 := Tryz.isAgg5
  z5 := Tryz.sizeOf5
  v5 := Tryz.zeroValue5
  t9 := Tryz.underlying9
  a9 := Tryz.isAgg9
  z9 := Tryz.sizeOf9
  v9 := Tryz.zeroValue9
  t21 := Tryz.underlying21
  a21 := Tryz.isAgg21
  z21 := Tryz.sizeOf21
  v21 := Tryz.zeroValue21
  t46 := Tryz.underlying128
  a46 := Tryz.isAgg128
  z46 := Tryz.sizeOf128
  v46 := Tryz.zeroValue128
  t105 := Tryz.underlying113
  a105 := Tryz.isAgg113
  z105 := Tryz.sizeOf113
  v105 := Tryz.zeroValue113
  t116 := Tryz.underlying87
  a116 := Tryz.isAgg87
  z116 := Tryz.sizeOf87
  t117 := Tryz.underlying88
  a117 := Tryz.isAgg88
  z117 := Tryz.sizeOf88
  v117 := Tryz.zeroValue88
  t119 := Tryz.underlying127
  a119 := Tryz.isAgg127
  z119 := Tryz.sizeOf127
  t124 := Tryz.underlying91
  a124 := Tryz.isAgg91
  z124 := Tryz.sizeOf91
  v124 := Tryz.zeroValue91
  t138 := Tryz.underlying130
  a138 := Tryz.isAgg130
  z138 := Tryz.sizeOf130
  v138 := Tryz.zeroValue130
  t139 := Tryz.underlying131
  a139 := Tryz.isAgg131
  z139 := Tryz.sizeOf131
  v139 := Tryz.zeroValue131
  g3 := by kernel_rfl
  g4 := by kernel_rfl }
open Go.RowKit in
/-- strings.TrimRight: "TrimRight returns a slice of the string s, with all trailing Unicode code points contained in cutset removed.": AT A cutset OF ONE ASCII BYTE. The world is as it was. (LAID: no walk: one application.) -/
theorem Tryz.strings_TrimRight_one (s : ByteArray) (c : UInt8) (hc : c.toNat < 128) (w : World) (hs : s.size ≤ 9223372036854775807) :
    Calls Tryz.prog 69 #[.string s, .string ⟨#[c]⟩] w fun e w' => e = .returned (.string ⟨(Lib.trimRightB s.data.toList c).toArray⟩) ∧ w' = w := Any.strings_TrimRight_one Tryz.lays162 s c hc w hs
def Tryz.lays160_ren : Go.Shelf.Ren := ⟨fun | 160 => 31 | 232 => 53 | 231 => 52 | 227 => 54 | 234 => 56 | 233 => 55 | 236 => 58 | 235 => 57 | 228 => 89 | 271 => 92 | 151 => 91 | 197 => 90 | 120 => 108 | 152 => 107 | 260 => 106 | 137 => 100 | 119 => 122 | 224 => 123 | 225 => 124 | 217 => 118 | 266 => 132 | n => n, fun | 9 => 9 | 4 => 4 | 3 => 3 | 5 => 5 | 117 => 88 | 116 => 87 | 0 => 0 | 124 => 91 | 21 => 21 | 105 => 113 | 46 => 128 | 119 => 127 | 139 => 131 | 138 => 130 | n => n, fun | 3 => 0 | 4 => 1 | n => n⟩
theorem Tryz.lays160 : Go.Proofs.Lays.n160 Tryz.prog Tryz.lays160_ren := {
  mixed := by kernel_rfl
  f119 := Tryz.func122.trans (congrArg some (by kernel_rfl))
  f120 := Tryz.func108.trans (congrArg some (by kernel_rfl))
  f137 := Tryz.func100.trans (congrArg some (by kernel_rfl))
  f151 := Tryz.func91.trans (congrArg some (by kernel_rfl))
  f152 := Tryz.func107.trans (congrArg some (by kernel_rfl))
  f160 := Tryz.func31.trans (congrArg some (by kernel_rfl))
  f197 := Tryz.func90.trans (congrArg some (by kernel_rfl))
  f217 := Tryz.func118.trans (congrArg some (by kernel_rfl))
  f224 := Tryz.func123.trans (congrArg some (by kernel_rfl))
  f225 := Tryz.func124.trans (congrArg some (by kernel_rfl))
  f227 := Tryz.func54.trans (congrArg some (by kernel_rfl))
  f228 := Tryz.func89.trans (congrArg some (by kernel_rfl))
  f231 := Tryz.func52.trans (congrArg some (by kernel_rfl))
  f232 := Tryz.func53.trans (congrArg some (by kernel_rfl))
  f233 := Tryz.func55.trans (congrArg some (by kernel_rfl))
  f234 := Tryz.func56.trans (congrArg some (by kernel_rfl))
  f235 := Tryz.func57.trans (congrArg some (by kernel_rfl))
  f236 := Tryz.func58.trans (congrArg some (by kernel_rfl))
  f260 := Tryz.func106.trans (congrArg some (by kernel_rfl))
  f266 := Tryz.func132.trans (congrArg some (by kernel_rfl))
  f271 := Tryz.func92.trans (congrArg some (by kernel_rfl))
  t0 := Tryz.underlying0
  a0 := Tryz.isAgg0
  z0 := Tryz.sizeOf0
  v0 := Tryz.zeroValue0
  t3 := Tryz.underlying3
  a3 := Tryz.isAgg3
  z3 := Tryz.sizeOf3
  v3 := Tryz.zeroValue3
  t4 := Tryz.underlying4
  a4 := Tryz.isAgg4
  z4 := Tryz.sizeOf4
  v4 := Tryz.zeroValue4
  t5 := Tryz.underlying5
  a5 := Tryz.isAgg5
  z5 := Tryz.sizeOf5
  v5 := Tryz.zeroValue5
  t9 := Tryz.underlying9
  a9 := Tryz.isAgg9
  z9 := Tryz.sizeOf9
  v9 := Tryz.zeroValue9
  t21 := Tryz.underlying21
  a21 := Tryz.isAgg21
  z21 := Tryz.sizeOf21
  v21 := Tryz.zeroValue21
  t46 := Tryz.underlying128
  a46 := Tryz.isAgg128
  z46 := Tryz.sizeOf128
  v46 := Tryz.zeroValue128
  t105 := Tryz.underlying113
  a105 := Tryz.isAgg113
  z105 := Tryz.sizeOf113
  v105 := Tryz.zeroValue113
  t116 := Tryz.underlying87
  a116 := Tryz.isAgg87
  z116 := Tryz.sizeOf87
  t117 := Tryz.underlying88
  a117 := Tryz.isAgg88
  z117 := Tryz.sizeOf88
  v117 := Tryz.zeroValue88
  t119 := Tryz.underlying127
  a119 := Tryz.isAgg127
  z119 := Tryz.sizeOf127
  t124 := Tryz.underlying91
  a124 := Tryz.isAgg91
  z124 := Tryz.sizeOf91
  v124 := Tryz.zeroValue91
  t138 := Tryz.underlying130
  a138 := Tryz.isAgg130
  z138 := Tryz.sizeOf130
  v138 := Tryz.zeroValue130
  t139 := Tryz.underlying131
  a139 := Tryz.isAgg131
  z139 := Tryz.sizeOf131
  v139 := Tryz.zeroValue131
  g3 := by kernel_rfl
  g4 := by kernel_rfl }
open Go.RowKit in
/-- strings.Trim: "Trim returns a slice of the string s with all leading and trailing Unicode code points contained in cutset removed.": AT A cutset OF ONE ASCII BYTE. THE WORLD BEHIND IT: as it was, or (where s is not empty) with ONE DRAW MORE off the tape: the statement 'return trimLeftByte(trimRightByte(s, c), c)' draws its order of evaluation. (LAID: no walk: one application.) -/
theorem Tryz.strings_Trim_one (s : ByteArray) (c : UInt8) (hc : c.toNat < 128) (w : World) (hs : s.size ≤ 9223372036854775807) :
    Calls Tryz.prog 31 #[.string s, .string ⟨#[c]⟩] w fun e w' => e = .returned (.string ⟨(Lib.trimB s.data.toList c).toArray⟩) ∧ (w' = w ∨ w' = w.drew) := Any.strings_Trim_one Tryz.lays160 s c hc w hs
def Tryz.lays137_ren : Go.Shelf.Ren := ⟨fun | 137 => 100 | 217 => 118 | 266 => 132 | n => n, fun | 9 => 9 | 5 => 5 | 3 => 3 | n => n, fun | n => n⟩
theorem Tryz.lays137 : Go.Proofs.Lays.n137 Tryz.prog Tryz.lays137_ren := {
  mixed := by kernel_rfl
  f137 := Tryz.func100.trans (congrArg some (by kernel_rfl))
  f217 := Tryz.func118.trans (congrArg some (by kernel_rfl))
  f266 := Tryz.func132.trans (congrArg some (by kernel_rfl))
  t3 := Tryz.underlying3
  a3 := Tryz.isAgg3
  z3 := Tryz.sizeOf3
  v3 := Tryz.zeroValue3
  t5 := Tryz.underlying5
  a5 := Tryz.isAgg5
  z5 := Tryz.sizeOf5
  v5 := Tryz.zeroValue5
  t9 := Tryz.underlying9
  a9 := Tryz.isAgg9
  z9 := Tryz.sizeOf9
  v9 := Tryz.zeroValue9 }
open Go.RowKit in
/-- strings.IndexByte: "IndexByte returns the index of the first instance of c in s, or -1 if c is not present in s.": IT RETURNS 'Lib.indexByte s c'; the world is as it was. (LAID: no walk: one application.) -/
theorem Tryz.strings_IndexByte (s : ByteArray) (c : Int) (w : World) :
    Calls Tryz.prog 100 #[.string s, .int .u8 c] w fun e w' => e = .returned (.int .i64 (Lib.indexByte s.data.toList c.toNat.toUInt8)) ∧ w' = w := Any.strings_IndexByte Tryz.lays137 s c w
def Tryz.lays172_ren : Go.Shelf.Ren := ⟨fun | 172 => 105 | 244 => 120 | 245 => 121 | 247 => 133 | 279 => 134 | 280 => 135 | 281 => 136 | 282 => 137 | 287 => 144 | 316 => 145 | 171 => 68 | 205 => 146 | 321 => 149 | 322 => 150 | 243 => 99 | 246 => 117 | 283 => 128 | 284 => 129 | 285 => 130 | 286 => 131 | 129 => 140 | 317 => 139 | 318 => 141 | 319 => 142 | 320 => 143 | 337 => 147 | 338 => 148 | n => n, fun | 9 => 9 | 3 => 3 | 75 => 98 | 76 => 99 | 4 => 4 | 5 => 5 | 167 => 142 | 37 => 93 | 0 => 0 | 85 => 143 | 2 => 2 | 168 => 145 | 53 => 137 | 175 => 154 | 46 => 128 | 210 => 157 | 127 => 116 | 145 => 163 | 143 => 161 | 21 => 21 | 171 => 136 | 173 => 140 | 212 => 149 | 51 => 150 | 20 => 20 | 213 => 151 | 232 => 164 | 233 => 165 | 80 => 101 | n => n, fun | 15 => 4 | 16 => 5 | 17 => 3 | 18 => 6 | 19 => 7 | n => n⟩
theorem Tryz.lays172 : Go.Proofs.Lays.n172 Tryz.prog Tryz.lays172_ren := {
  mixed := by kernel_rfl
  f129 := Tryz.func140.trans (congrArg some (by kernel_rfl))
  f171 := Tryz.func68.trans (congrArg some (by kernel_rfl))
  f172 := Tryz.func105.trans (congrArg some (by kernel_rfl))
  f205 := Tryz.func146.trans (congrArg some (by kernel_rfl))
  f243 := Tryz.func99.trans (congrArg some (by kernel_rfl))
  f244 := Tryz.func120.trans (congrArg some (by kernel_rfl))
  f245 := Tryz.func121.trans (congrArg some (by kernel_rfl))
  f246 := Tryz.func117.trans (congrArg some (by kernel_rfl))
  f247 := Tryz.func133.trans (congrArg some (by kernel_rfl))
  f279 := Tryz.func134.trans (congrArg some (by kernel_rfl))
  f280 := Tryz.func135.trans (congrArg some (by kernel_rfl))
  f281 := Tryz.func136.trans (congrArg some (by kernel_rfl))
  f282 := Tryz.func137.trans (congrArg some (by kernel_rfl))
  f283 := Tryz.func128.trans (congrArg some (by kernel_rfl))
  f284 := Tryz.func129.trans (congrArg some (by kernel_rfl))
  f285 := Tryz.func130.trans (congrArg some (by kernel_rfl))
  f286 := Tryz.func131.trans (congrArg some (by kernel_rfl))
  f287 := Tryz.func144.trans (congrArg some (by kernel_rfl))
  f316 := Tryz.func145.trans (congrArg some (by kernel_rfl))
  f317 := Tryz.func139.trans (congrArg some (by kernel_rfl))
  f318 := Tryz.func141.trans (congrArg some (by kernel_rfl))
  f319 := Tryz.func142.trans (congrArg some (by kernel_rfl))
  f320 := Tryz.func143.trans (congrArg some (by kernel_rfl))
  f321 := Tryz.func149.trans (congrArg some (by kernel_rfl))
  f322 := Tryz.func150.trans (congrArg some (by kernel_rfl))
  f337 := Tryz.func147.trans (congrArg some (by kernel_rfl))
  f338 := Tryz.func148.trans (congrArg some (by kernel_rfl))
  t0 := Tryz.underlying0
  a0 := Tryz.isAgg0
  z0 := Tryz.sizeOf0
  v0 := Tryz.zeroValue0
  t2 := Tryz.underlying2
  a2 := Tryz.isAgg2
  z2 := Tryz.sizeOf2
  v2 := Tryz.zeroValue2
  t3 := Tryz.underlying3
  a3 := Tryz.isAgg3
  z3 := Tryz.sizeOf3
  v3 := Tryz.zeroValue3
  t4 := Tryz.underlying4
  a4 := Tryz.isAgg4
  z4 := Tryz.sizeOf4
  v4 := Tryz.zeroValue4
  t5 := Tryz.underlying5
  a5 := Tryz.isAgg5
  z5 := Tryz.sizeOf5
  v5 := Tryz.zeroValue5
  t9 := Tryz.underlying9
  a9 := Tryz.isAgg9
  z9 := Tryz.sizeOf9
  v9 := Tryz.zeroValue9
  t20 := Tryz.underlying20
  a20 := Tryz.isAgg20
  z20 := Tryz.sizeOf20
  v20 := Tryz.zeroValue20
  t21 := Tryz.underlying21
  a21 := Tryz.isAgg21
  z21 := Tryz.sizeOf21
  v21 := Tryz.zeroValue21
  t37 := Tryz.underlying93
  a37 := Tryz.isAgg93
  z37 := Tryz.sizeOf93
  v37 := Tryz.zeroValue93
  t46 := Tryz.underlying128
  a46 := Tryz.isAgg128
  z46 := Tryz.sizeOf128
  v46 := Tryz.zeroValue128
  t51 := Tryz.underlying150
  a51 := Tryz.isAgg150
  z51 := Tryz.sizeOf150
  v51 := Tryz.zeroValue150
  t53 := Tryz.underlying137
  a53 := Tryz.isAgg137
  z53 := Tryz.sizeOf137
  v53 := Tryz.zeroValue137
  t75 := Tryz.underlying98
  a75 := Tryz.isAgg98
  z75 := Tryz.sizeOf98
  v75 := Tryz.zeroValue98
  t76 := Tryz.underlying99
  a76 := Tryz.isAgg99
  z76 := Tryz.sizeOf99
  v76 := Tryz.zeroValue99
  t85 := Tryz.underlying143
  a85 := Tryz.isAgg143
  z85 := Tryz.sizeOf143
  v85 := Tryz.zeroValue143
  t127 := Tryz.underlying116
  a127 := Tryz.isAgg116
  z127 := Tryz.sizeOf116
  v127 := Tryz.zeroValue116
  t143 := Tryz.underlying161
  a143 := Tryz.isAgg161
  z143 := Tryz.sizeOf161
  v143 := Tryz.zeroValue161
  t145 := Tryz.underlying163
  a145 := Tryz.isAgg163
  z145 := Tryz.sizeOf163
  v145 := Tryz.zeroValue163
  t167 := Tryz.underlying142
  a167 := Tryz.isAgg142
  z167 := Tryz.sizeOf142
  v167 := Tryz.zeroValue142
  t168 := Tryz.underlying145
  a168 := Tryz.isAgg145
  z168 := Tryz.sizeOf145
  v168 := Tryz.zeroValue145
  t171 := Tryz.underlying136
  a171 := Tryz.isAgg136
  z171 := Tryz.sizeOf136
  v171 := Tryz.zeroValue136
  t173 := Tryz.underlying140
  a173 := Tryz.isAgg140
  z173 := Tryz.sizeOf140
  v173 := Tryz.zeroValue140
  t175 := Tryz.underlying154
  a175 := Tryz.isAgg154
  z175 := Tryz.sizeOf154
  v175 := Tryz.zeroValue154
  t210 := Tryz.underlying157
  a210 := Tryz.isAgg157
  z210 := Tryz.sizeOf157
  v210 := Tryz.zeroValue157
  t212 := Tryz.underlying149
  a212 := Tryz.isAgg149
  z212 := Tryz.sizeOf149
  v212 := Tryz.zeroValue149
  t213 := Tryz.underlying151
  a213 := Tryz.isAgg151
  z213 := Tryz.sizeOf151
  t232 := Tryz.underlying164
  a232 := Tryz.isAgg164
  z232 := Tryz.sizeOf164
  v232 := Tryz.zeroValue164
  t233 := Tryz.underlying165
  a233 := Tryz.isAgg165
  z233 := Tryz.sizeOf165
  v233 := Tryz.zeroValue165
  g15 := by kernel_rfl
  g16 := by kernel_rfl
  g17 := by kernel_rfl
  g18 := by kernel_rfl
  g19 := by kernel_rfl }
open Go.RowKit in
/-- strconv.Atoi: "Atoi is equivalent to ParseInt(s, 10, 0), converted to type int.": AT A DECIMAL NUMERAL OF AT MOST 18 BYTES: its value, and a nil error. The world behind the call: the one new row that the library's '[]byte(s)' lays. (LAID: no walk: one application.) -/
theorem Tryz.strconv_Atoi (s : ByteArray) (n : Int) (hl : s.size ≤ 18) (h : Lib.atoi s.data.toList = some n) (w : World) :
    Calls Tryz.prog 105 #[.string s] w fun e w' => e = .returned (.tuple #[.int .i64 n, .nilIface]) ∧ ∃ t, w' = Lib.bytesWorld w 5 t := Any.strconv_Atoi Tryz.lays172 s n hl h w
def Tryz.laysM171_ren : Go.Shelf.Ren := ⟨fun | 171 => 68 | 243 => 99 | 246 => 117 | 283 => 128 | 284 => 129 | 285 => 130 | 286 => 131 | 129 => 140 | 317 => 139 | 318 => 141 | 319 => 142 | 320 => 143 | 337 => 147 | 338 => 148 | n => n, fun | 3 => 3 | 9 => 9 | 2 => 2 | 4 => 4 | 171 => 136 | 0 => 0 | 53 => 137 | 37 => 93 | 5 => 5 | 173 => 140 | 212 => 149 | 51 => 150 | 20 => 20 | 213 => 151 | 46 => 128 | 232 => 164 | 233 => 165 | n => n, fun | 17 => 3 | 18 => 6 | 19 => 7 | n => n⟩
theorem Tryz.laysM171 : Go.Proofs.LaysM.n171 Tryz.prog Tryz.laysM171_ren := {
  mixed := by kernel_rfl
  f129 := Tryz.func140.trans (congrArg some (by kernel_rfl))
  f171 := Tryz.func68.trans (congrArg some (by kernel_rfl))
  f243 := Tryz.func99.trans (congrArg some (by kernel_rfl))
  f246 := Tryz.func117.trans (congrArg some (by kernel_rfl))
  f283 := Tryz.func128.trans (congrArg some (by kernel_rfl))
  f284 := Tryz.func129.trans (congrArg some (by kernel_rfl))
  f285 := Tryz.func130.trans (congrArg some (by kernel_rfl))
  f286 := Tryz.func131.trans (congrArg some (by kernel_rfl))
  f317 := Tryz.func139.trans (congrArg some (by kernel_rfl))
  f318 := Tryz.func141.trans (congrArg some (by kernel_rfl))
  f319 := Tryz.func142.trans (congrArg some (by kernel_rfl))
  f320 := Tryz.func143.trans (congrArg some (by kernel_rfl))
  f337 := Tryz.func147.trans (congrArg some (by kernel_rfl))
  f338 := Tryz.func148.trans (congrArg some (by kernel_rfl))
  t0 := Tryz.underlying0
  a0 := Tryz.isAgg0
  z0 := Tryz.sizeOf0
  v0 := Tryz.zeroValue0
  t2 := Tryz.underlying2
  a2 := Tryz.isAgg2
  z2 := Tryz.sizeOf2
  v2 := Tryz.zeroValue2
  t3 := Tryz.underlying3
  a3 := Tryz.isAgg3
  z3 := Tryz.sizeOf3
  v3 := Tryz.zeroValue3
  t4 := Tryz.underlying4
  a4 := Tryz.isAgg4
  z4 := Tryz.sizeOf4
  v4 := Tryz.zeroValue4
  t5 := Tryz.underlying5
  a5 := Tryz.isAgg5
  z5 := Tryz.sizeOf5
  v5 := Tryz.zeroValue5
  t9 := Tryz.underlying9
  a9 := Tryz.isAgg9
  z9 := Tryz.sizeOf9
  v9 := Tryz.zeroValue9
  t20 := Tryz.underlying20
  a20 := Tryz.isAgg20
  z20 := Tryz.sizeOf20
  v20 := Tryz.zeroValue20
  t37 := Tryz.underlying93
  a37 := Tryz.isAgg93
  z37 := Tryz.sizeOf93
  v37 := Tryz.zeroValue93
  t46 := Tryz.underlying128
  a46 := Tryz.isAgg128
  z46 := Tryz.sizeOf128
  v46 := Tryz.zeroValue128
  t51 := Tryz.underlying150
  a51 := Tryz.isAgg150
  z51 := Tryz.sizeOf150
  v51 := Tryz.zeroValue150
  t53 := Tryz.underlying137
  a53 := Tryz.isAgg137
  z53 := Tryz.sizeOf137
  v53 := Tryz.zeroValue137
  t171 := Tryz.underlying136
  a171 := Tryz.isAgg136
  z171 := Tryz.sizeOf136
  v171 := Tryz.zeroValue136
  t173 := Tryz.underlying140
  a173 := Tryz.isAgg140
  z173 := Tryz.sizeOf140
  v173 := Tryz.zeroValue140
  t212 := Tryz.underlying149
  a212 := Tryz.isAgg149
  z212 := Tryz.sizeOf149
  v212 := Tryz.zeroValue149
  t213 := Tryz.underlying151
  a213 := Tryz.isAgg151
  z213 := Tryz.sizeOf151
  t232 := Tryz.underlying164
  a232 := Tryz.isAgg164
  z232 := Tryz.sizeOf164
  v232 := Tryz.zeroValue164
  t233 := Tryz.underlying165
  a233 := Tryz.isAgg165
  z233 := Tryz.sizeOf165
  v233 := Tryz.zeroValue165
  g17 := by kernel_rfl
  g18 := by kernel_rfl
  g19 := by kernel_rfl
  i0 := by kernel_rfl
  i2 := by kernel_rfl
  i3 := by kernel_rfl
  i4 := by kernel_rfl
  i5 := by kernel_rfl
  i9 := by kernel_rfl
  i20 := by kernel_rfl
  i37 := by kernel_rfl
  i46 := by kernel_rfl
  i51 := by kernel_rfl
  i53 := by kernel_rfl
  i171 := by kernel_rfl
  i173 := by kernel_rfl
  i212 := by kernel_rfl
  i232 := by kernel_rfl
  i233 := by kernel_rfl
  m17 := by kernel_rfl
  m18 := by kernel_rfl
  m19 := by kernel_rfl }
open Go.RowKit Go.Sort Go.Lib in
/-- strconv.Itoa: "Itoa is equivalent to FormatInt(int64(i), 10).": i's DECIMAL NUMERAL ('Lib.itoa': a '-' where i is negative, then the digits), FOR EVERY int. The world behind the call: the world before it, new blocks behind the heap (the library's 'var a [24]byte'), draws. (LAID: no walk: one application.) -/
theorem Tryz.strconv_Itoa (n : Int) (h0 : -9223372036854775808 ≤ n) (h1 : n ≤ 9223372036854775807) (w : World) (htab : Lib.TabIs Tryz.prog w "internal/strconv.uint64pow10" .u64 Lib.pow10Tab) :
    Calls Tryz.prog 68 #[.int .i64 n] w fun e w' => e = .returned (.string ⟨(Lib.itoa n).toArray⟩) ∧ ∃ k os, w' = grow (w.drewN k) os := Any.strconv_Itoa Tryz.laysM171 n h0 h1 w htab
end Go.Proofs
/- A text's reader: a block of its own, with the text in its one cell. -/
set_option linter.unusedVariables false
set_option linter.unusedSimpArgs false
namespace Go.Proofs.YtjdbiicjfpgjkaaGreatDoor.Sf
open Go.RowKit Go.Proofs.YtjdbiicjfpgjkaaGreatDoorW.PrintWords Go.Proofs.YtjdbiicjfpgjkaaGreatDoorW.PrintLast Go.Proofs.YtjdbiicjfpgjkaaGreatDoorW.PrintMore
/-- A text's reader: a block of its own, with the text in its one cell. -/
def Rd (W : World) (g : Nat) (s : ByteArray) : Prop := W.heap[g]? = some (.cells #[.string s] 82 (0, 0))
theorem Rd.cell {W : World} {g : Nat} {s : ByteArray} (h : Rd W g s) : W.cell? ⟨g, 0, none⟩ = some (.string s) := (blk_cell h 0).trans rfl
theorem Rd.frozen {W : World} {g : Nat} {s : ByteArray} (h : Rd W g s) : W.frozen? ⟨g, 0, none⟩ = false := blk_frozen h 0
theorem Rd.set {W : World} {g : Nat} {s : ByteArray} (h : Rd W g s) (t : ByteArray) : Rd (W.setCell ⟨g, 0, none⟩ (.string t)) g t := by
  have := blk_set h 0 (.string t); simpa [Rd] using this
theorem Rd.drewN {W : World} {g : Nat} {s : ByteArray} (h : Rd W g s) (n : Nat) : Rd (W.drewN n) g s := h
theorem Rd.alloc {W : World} {g : Nat} {s : ByteArray} (h : Rd W g s) (o : Obj) : Rd (W.alloc o) g s := blk_alloc h o
theorem Rd.far {W : World} {g : Nat} {s : ByteArray} (h : Rd W g s) {p : Addr} (hp : g ≠ p.block) (u : Value) : Rd (W.setCell p u) g s := blk_far h hp u
theorem Rd.lt {W : World} {g : Nat} {s : ByteArray} (h : Rd W g s) : g < W.heap.size := blk_lt h
/-- Nothing that was there has turned, but the reader's block. -/
structure KB (g : Nat) (w w' : World) : Prop where
  os : w'.os = w.os
  tape : w'.tape = w.tape
  output : w'.output = w.output
  size : w.heap.size ≤ w'.heap.size
  block : ∀ k, k < w.heap.size → k ≠ g → w'.heap[k]? = w.heap[k]?
theorem KB.refl (g : Nat) (w : World) : KB g w w := ⟨rfl, rfl, rfl, Nat.le_refl _, fun _ _ _ => rfl⟩
theorem KB.trans {g : Nat} {w w1 w2 : World} (h : KB g w w1) (k : KB g w1 w2) : KB g w w2 :=
  ⟨k.os.trans h.os, k.tape.trans h.tape, k.output.trans h.output, Nat.le_trans h.size k.size, fun i hi hg => (k.block i (Nat.lt_of_lt_of_le hi h.size) hg).trans (h.block i hi hg)⟩
theorem KB.below {g : Nat} {w w1 w2 : World} (h : KB g w w1) (k : Below w1.heap.size w1 w2) : KB g w w2 :=
  ⟨k.os.trans h.os, k.tape.trans h.tape, k.output.trans h.output, Nat.le_trans h.size k.size, fun i hi hg => (k.block i (Nat.lt_of_lt_of_le hi h.size)).trans (h.block i hi hg)⟩
theorem KB.set {g : Nat} {w w1 : World} (h : KB g w w1) (j : Nat) (u : Value) : KB g w (w1.setCell ⟨g, j, none⟩ u) :=
  ⟨h.os, h.tape, h.output, by simpa [World.setCell] using h.size, fun i hi hg => (Below.heap_setCell w1 ⟨g, j, none⟩ u i hg).trans (h.block i hi hg)⟩
theorem KB.far {g : Nat} {w w1 : World} (h : KB g w w1) {p : Addr} (hp : w.heap.size ≤ p.block) (u : Value) : KB g w (w1.setCell p u) :=
  ⟨h.os, h.tape, h.output, by simpa [World.setCell] using h.size, fun i hi hg => (Below.heap_setCell w1 p u i (by omega)).trans (h.block i hi hg)⟩
theorem KB.alloc {g : Nat} {w w1 : World} (h : KB g w w1) (o : Obj) : KB g w (w1.alloc o) := h.below (below_alloc (Below.refl _ _) o)
theorem KB.drewN {g : Nat} {w w1 : World} (h : KB g w w1) (n : Nat) : KB g w (w1.drewN n) := h.below (pw_below_drewN (Below.refl _ _) n)
theorem KB.toBelow {g : Nat} {w0 w w' : World} (h : KB g w w') (hb : Below w0.heap.size w0 w) (hg : w0.heap.size ≤ g) : Below w0.heap.size w0 w' :=
  ⟨h.os.trans hb.os, h.tape.trans hb.tape, h.output.trans hb.output, Nat.le_trans hb.size h.size, fun k hk => (h.block k (Nat.lt_of_lt_of_le hk hb.size) (by omega)).trans (hb.block k hk)⟩
theorem KB.blk {g : Nat} {w w' : World} (h : KB g w w') {k : Nat} {o : Obj} (hb : w.heap[k]? = some o) (hg : k ≠ g) : w'.heap[k]? = some o := (h.block k (blk_lt hb) hg).trans hb
/-- The panic by which a reader gives up. -/
abbrev gave : Ending := .panicked [{ v := .iface 24 (.int .i64 50), recovered := false }]
theorem fail_calls (p : Option Addr) (w : World) : Calls Tryz.prog 77 #[.pointer p] w fun e w' => e = gave ∧ w' = w := by
  go_enter Tryz.func77, Tryz.ntmps77
  go_wp2
  exact ⟨rfl, rfl, rfl⟩
/-- Does a byte stand there? If so it is passed. -/
def atF (s : ByteArray) (c : Int) : Bool := decide (0 < s.size ∧ bt s 0 = c)
def tl (s : ByteArray) : ByteArray := s.extract 1 s.size
def atR (s : ByteArray) (c : Int) : ByteArray := if atF s c = true then tl s else s
set_option maxHeartbeats 2000000 in
theorem at_calls (g : Nat) (s : ByteArray) (c : Int) (w : World) (hI : Rd w g s) :
    Calls Tryz.prog 83 #[.pointer (some ⟨g, 0, none⟩), .int .u8 c] w fun e w' => e = .returned (.bool (atF s c)) ∧ Rd w' g (atR s c) ∧ KB g w w' := by
  have hc := hI.cell
  have hf := hI.frozen
  have HI := Aside0.mk hI
  clear hI
  by_cases h0 : 0 < s.size
  · have c1 : (s.toList == ([] : List UInt8)) = false := by
      rw [beq_eq_false_iff_ne]; intro he
      have := Lib.toList_data s
      rw [he] at this
      have h2 := congrArg List.length this
      rw [← Lib.size_eq] at h2
      simp at h2; omega
    have c1b : (s.toList != ([] : List UInt8)) = true := by simp [bne, c1]
    have hx6 : ∀ h : 0 < s.size, ((s[0]'h).toNat : Int) = bt s 0 := bt_at s 0
    have q6 := eq_true h0
    have qi6 : (0 < (s.size : Int)) = True := eq_true (by omega)
    by_cases hb : bt s 0 = c
    · have e1 : atF s c = true := decide_eq_true ⟨h0, hb⟩
      have e2 : atR s c = tl s := if_pos e1
      rw [e1, e2]
      have hbb : (bt s 0 == c) = true := beq_iff_eq.mpr hb
      have h1 : (1 ≤ (s.size : Int)) = True := eq_true (by omega)
      have h1d : decide (1 ≤ (s.size : Int)) = true := decide_eq_true (by omega)
      clear hb
      go_enter Tryz.func83, Tryz.ntmps83
      go_wp2
      go_ret
      exact ⟨by simp [hbb], HI.out.set _, (KB.refl _ _).set _ _⟩
    · have e1 : atF s c = false := decide_eq_false (fun h => hb h.2)
      have e2 : atR s c = s := if_neg (by rw [e1]; decide)
      rw [e1, e2]
      have hbb : (bt s 0 == c) = false := beq_eq_false_iff_ne.mpr hb
      clear hb
      go_enter Tryz.func83, Tryz.ntmps83
      go_wp2
      go_ret
      exact ⟨by simp [hbb], HI.out, KB.refl _ _⟩
  · have c1 : (s.toList == ([] : List UInt8)) = true := by
      rw [beq_iff_eq, Lib.toList_data]
      apply List.eq_nil_of_length_eq_zero
      rw [← Lib.size_eq]; omega
    have c1b : (s.toList != ([] : List UInt8)) = false := by simp [bne, c1]
    have e1 : atF s c = false := decide_eq_false (fun h => h0 h.1)
    have e2 : atR s c = s := if_neg (by rw [e1]; decide)
    rw [e1, e2]
    go_enter Tryz.func83, Tryz.ntmps83
    go_wp2
    go_ret
    exact ⟨rfl, HI.out, KB.refl _ _⟩
end Go.Proofs.YtjdbiicjfpgjkaaGreatDoor.Sf
/- What the reader asks of a byte. -/
set_option linter.unusedVariables false
set_option linter.unusedSimpArgs false
namespace Go.Proofs.YtjdbiicjfpgjkaaGreatDoor.Sf
open Go.RowKit Go.Proofs.YtjdbiicjfpgjkaaGreatDoorW.PrintWords Go.Proofs.YtjdbiicjfpgjkaaGreatDoorW.PrintLast Go.Proofs.YtjdbiicjfpgjkaaGreatDoorW.PrintMore
/-- What the reader asks of a byte. -/
def dgP (c : Int) : Bool := decide (48 ≤ c ∧ c ≤ 57)
def smP (c : Int) : Bool := decide (97 ≤ c ∧ c ≤ 122)
def leP (c : Int) : Bool := smP (Go.bits .or .u8 c 32)
def wiP (c : Int) (s : ByteArray) : Bool := decide (0 ≤ Lib.indexByte s.data.toList c.toNat.toUInt8)
def tokP (c : Int) : Bool := leP c || dgP c || wiP c ⟨#[58, 47, 33, 35, 36, 37, 38, 39, 42, 43, 45, 46, 94, 95, 124, 126, 96]⟩
def baP (c : Int) : Bool := leP c || dgP c || wiP c ⟨#[43, 47, 61]⟩
def keP (c : Int) : Bool := smP c || dgP c || wiP c ⟨#[95, 45, 46, 42]⟩
def spP (c : Int) : Bool := c == 32
/-- A function of the program that answers so at each byte, and leaves all as it was. -/
def Asks (n : Nat) (p : Int → Bool) : Prop := ∀ (c : Int) (W : World), Calls Tryz.prog n #[.int .u8 c] W fun e w' => e = .returned (.bool (p c)) ∧ Drawn0 W w'
theorem asks_digit : Asks 78 dgP := by
  intro c W
  have e : dgP c = (decide (48 ≤ c) && decide (c ≤ 57)) := Bool.decide_and ..
  rw [e]
  by_cases h : 48 ≤ c
  · have h1 : decide (48 ≤ c) = true := decide_eq_true h
    clear h
    go_enter Tryz.func78, Tryz.ntmps78
    go_wp2
    go_ret
    exact ⟨by rw [h1]; rfl, Drawn0.refl _⟩
  · have h1 : decide (48 ≤ c) = false := decide_eq_false h
    clear h
    go_enter Tryz.func78, Tryz.ntmps78
    go_wp2
    go_ret
    exact ⟨by rw [h1]; rfl, Drawn0.refl _⟩
theorem asks_small : Asks 95 smP := by
  intro c W
  have e : smP c = (decide (97 ≤ c) && decide (c ≤ 122)) := Bool.decide_and ..
  rw [e]
  by_cases h : 97 ≤ c
  · have h1 : decide (97 ≤ c) = true := decide_eq_true h
    clear h
    go_enter Tryz.func95, Tryz.ntmps95
    go_wp2
    go_ret
    exact ⟨by rw [h1]; rfl, Drawn0.refl _⟩
  · have h1 : decide (97 ≤ c) = false := decide_eq_false h
    clear h
    go_enter Tryz.func95, Tryz.ntmps95
    go_wp2
    go_ret
    exact ⟨by rw [h1]; rfl, Drawn0.refl _⟩
theorem asks_letter : Asks 80 leP := by
  intro c W
  go_enter Tryz.func80, Tryz.ntmps80
  go_wp2_with (go_at_call 95; refine (asks_small _ _).mono ?_; rintro e w' ⟨rfl, ⟨n, rfl⟩⟩)
  go_ret
  exact ⟨rfl, ⟨n, rfl⟩⟩
theorem asks_within (c : Int) (s : ByteArray) (W : World) : Calls Tryz.prog 70 #[.int .u8 c, .string s] W fun e w' => e = .returned (.bool (wiP c s)) ∧ Drawn0 W w' := by
  go_enter Tryz.func70, Tryz.ntmps70
  go_wp2_with (go_at_call 100; refine (Tryz.strings_IndexByte s c _).mono ?_; rintro e w' ⟨rfl, rfl⟩)
  go_ret
  exact ⟨rfl, Drawn0.refl _⟩
theorem asks_space : Asks 86 spP := by
  intro c W
  go_enter Tryz.func86, Tryz.ntmps86
  go_wp2
  go_ret
  exact ⟨rfl, Drawn0.refl _⟩
set_option maxHeartbeats 2000000 in
theorem asks_tokens : Asks 82 tokP := by
  intro c W
  unfold tokP
  cases h1 : leP c
  · cases h2 : dgP c
    · simp only [Bool.false_or]
      go_enter Tryz.func82, Tryz.ntmps82
      go_wp2_with (first | (go_at_call 80; refine (asks_letter c _).mono ?_; rw [h1]; rintro e w' ⟨rfl, ⟨n, rfl⟩⟩) | (go_at_call 78; refine (asks_digit c _).mono ?_; rw [h2]; rintro e w' ⟨rfl, ⟨m, rfl⟩⟩) | (go_at_call 70; refine (asks_within c _ _).mono ?_; rintro e w' ⟨rfl, ⟨k, rfl⟩⟩))
      go_ret
      exact ⟨by simp, by repeat (first | exact Drawn0.refl _ | apply Drawn0.step)⟩
    · simp only [Bool.false_or, Bool.true_or]
      go_enter Tryz.func82, Tryz.ntmps82
      go_wp2_with (first | (go_at_call 80; refine (asks_letter c _).mono ?_; rw [h1]; rintro e w' ⟨rfl, ⟨n, rfl⟩⟩) | (go_at_call 78; refine (asks_digit c _).mono ?_; rw [h2]; rintro e w' ⟨rfl, ⟨m, rfl⟩⟩))
      go_ret
      exact ⟨by simp, by repeat (first | exact Drawn0.refl _ | apply Drawn0.step)⟩
  · simp only [Bool.true_or]
    go_enter Tryz.func82, Tryz.ntmps82
    go_wp2_with (first | (go_at_call 80; refine (asks_letter c _).mono ?_; rw [h1]; rintro e w' ⟨rfl, ⟨n, rfl⟩⟩))
    go_ret
    exact ⟨by simp, by repeat (first | exact Drawn0.refl _ | apply Drawn0.step)⟩
set_option maxHeartbeats 2000000 in
theorem asks_base : Asks 85 baP := by
  intro c W
  unfold baP
  cases h1 : leP c
  · cases h2 : dgP c
    · simp only [Bool.false_or]
      go_enter Tryz.func85, Tryz.ntmps85
      go_wp2_with (first | (go_at_call 80; refine (asks_letter c _).mono ?_; rw [h1]; rintro e w' ⟨rfl, ⟨n, rfl⟩⟩) | (go_at_call 78; refine (asks_digit c _).mono ?_; rw [h2]; rintro e w' ⟨rfl, ⟨m, rfl⟩⟩) | (go_at_call 70; refine (asks_within c _ _).mono ?_; rintro e w' ⟨rfl, ⟨k, rfl⟩⟩))
      go_ret
      exact ⟨by simp, by repeat (first | exact Drawn0.refl _ | apply Drawn0.step)⟩
    · simp only [Bool.false_or, Bool.true_or]
      go_enter Tryz.func85, Tryz.ntmps85
      go_wp2_with (first | (go_at_call 80; refine (asks_letter c _).mono ?_; rw [h1]; rintro e w' ⟨rfl, ⟨n, rfl⟩⟩) | (go_at_call 78; refine (asks_digit c _).mono ?_; rw [h2]; rintro e w' ⟨rfl, ⟨m, rfl⟩⟩))
      go_ret
      exact ⟨by simp, by repeat (first | exact Drawn0.refl _ | apply Drawn0.step)⟩
  · simp only [Bool.true_or]
    go_enter Tryz.func85, Tryz.ntmps85
    go_wp2_with (first | (go_at_call 80; refine (asks_letter c _).mono ?_; rw [h1]; rintro e w' ⟨rfl, ⟨n, rfl⟩⟩))
    go_ret
    exact ⟨by simp, by repeat (first | exact Drawn0.refl _ | apply Drawn0.step)⟩
set_option maxHeartbeats 2000000 in
theorem asks_key : Asks 96 keP := by
  intro c W
  unfold keP
  cases h1 : smP c
  · cases h2 : dgP c
    · simp only [Bool.false_or]
      go_enter Tryz.func96, Tryz.ntmps96
      go_wp2_with (first | (go_at_call 95; refine (asks_small c _).mono ?_; rw [h1]; rintro e w' ⟨rfl, ⟨n, rfl⟩⟩) | (go_at_call 78; refine (asks_digit c _).mono ?_; rw [h2]; rintro e w' ⟨rfl, ⟨m, rfl⟩⟩) | (go_at_call 70; refine (asks_within c _ _).mono ?_; rintro e w' ⟨rfl, ⟨k, rfl⟩⟩))
      go_ret
      exact ⟨by simp, by repeat (first | exact Drawn0.refl _ | apply Drawn0.step)⟩
    · simp only [Bool.false_or, Bool.true_or]
      go_enter Tryz.func96, Tryz.ntmps96
      go_wp2_with (first | (go_at_call 95; refine (asks_small c _).mono ?_; rw [h1]; rintro e w' ⟨rfl, ⟨n, rfl⟩⟩) | (go_at_call 78; refine (asks_digit c _).mono ?_; rw [h2]; rintro e w' ⟨rfl, ⟨m, rfl⟩⟩))
      go_ret
      exact ⟨by simp, by repeat (first | exact Drawn0.refl _ | apply Drawn0.step)⟩
  · simp only [Bool.true_or]
    go_enter Tryz.func96, Tryz.ntmps96
    go_wp2_with (first | (go_at_call 95; refine (asks_small c _).mono ?_; rw [h1]; rintro e w' ⟨rfl, ⟨n, rfl⟩⟩))
    go_ret
    exact ⟨by simp, by repeat (first | exact Drawn0.refl _ | apply Drawn0.step)⟩
end Go.Proofs.YtjdbiicjfpgjkaaGreatDoor.Sf
/- What the reader takes while a byte is so. -/
set_option linter.unusedVariables false
set_option linter.unusedSimpArgs false
namespace Go.Proofs.YtjdbiicjfpgjkaaGreatDoor.Sf
open Go.RowKit Go.Proofs.YtjdbiicjfpgjkaaGreatDoorW.PrintWords Go.Proofs.YtjdbiicjfpgjkaaGreatDoorW.PrintLast Go.Proofs.YtjdbiicjfpgjkaaGreatDoorW.PrintMore
/-- What the reader takes while a byte is so. -/
def spanB (p : Int → Bool) (s : ByteArray) : Nat := (s.data.toList.takeWhile (fun c => p c.toNat)).length
theorem span_le (p : Int → Bool) (s : ByteArray) : spanB p s ≤ s.size := by
  unfold spanB
  rw [Lib.size_eq]
  exact (List.takeWhile_sublist _).length_le
theorem takeWhile_len {α : Type} (q : α → Bool) : ∀ (l : List α) (n : Nat), n ≤ l.length → (∀ j (h : j < l.length), j < n → q l[j] = true) → (∀ h : n < l.length, q l[n] = false) → (l.takeWhile q).length = n
  | [], n, hn, _, _ => by simp at hn; simp [hn]
  | x :: l, 0, _, _, h2 => by
    have := h2 (by simp)
    simp only [List.getElem_cons_zero] at this
    rw [List.takeWhile_cons, this]; simp
  | x :: l, n + 1, hn, h1, h2 => by
    have hx : q x = true := by have := h1 0 (by simp) (by omega); simpa using this
    rw [List.takeWhile_cons, hx]
    simp only [if_true, List.length_cons]
    rw [takeWhile_len q l n (by simpa using hn) (fun j h hj => by have := h1 (j + 1) (by simpa using h) (by omega); simpa using this) (fun h => by have := h2 (by simpa using h); simpa using this)]
theorem bt_list (s : ByteArray) (j : Nat) (h : j < s.data.toList.length) : bt s j = (s.data.toList[j].toNat : Int) := by
  have := bt_at s j (by rw [← Lib.size_eq] at h; exact h)
  rw [← this]
  rfl
theorem span_eq (p : Int → Bool) (s : ByteArray) (n : Nat) (hn : n ≤ s.size) (h1 : ∀ j : Nat, j < n → p (bt s j) = true) (h2 : n < s.size → p (bt s n) = false) : spanB p s = n := by
  refine takeWhile_len _ _ n (by rw [← Lib.size_eq]; exact hn) (fun j h hj => ?_) (fun h => ?_)
  · have := h1 j hj; rw [bt_list s j h] at this; exact this
  · have := h2 (by rw [← Lib.size_eq] at h; exact h); rw [bt_list s n h] at this; exact this
def takB (p : Int → Bool) (s : ByteArray) : ByteArray := s.extract 0 (spanB p s)
def drpB (p : Int → Bool) (s : ByteArray) : ByteArray := s.extract (spanB p s) s.size
set_option maxHeartbeats 2000000 in
set_option maxRecDepth 100000 in
theorem while_calls (n : Nat) (p : Int → Bool) (ha : Asks n p) (eg : ∀ (args : Array Value) (w : World), (callFunc n args).run Tryz.prog w = .ok (.enter n args) w) (g : Nat) (s : ByteArray) (w : World) (hs : s.size ≤ 9223372036854775806) (hI : Rd w g s) :
    Calls Tryz.prog 81 #[.pointer (some ⟨g, 0, none⟩), .func (.func n) #[] #[]] w fun e w' => e = .returned (.string (takB p s)) ∧ Rd w' g (drpB p s) ∧ KB g w w' := by
  have hc := hI.cell
  have hf := hI.frozen
  have HI := Aside0.mk hI
  have HA := Aside0.mk ha
  clear hI ha
  go_enter Tryz.func81, Tryz.ntmps81
  go_wp2
  clear hc hf
  go_loopw [5] (fun v5 wr => ∃ k : Nat, k ≤ s.size ∧ v5 = .int .i64 k ∧ Aside0 (∀ j : Nat, j < k → p (bt s j) = true) ∧ Aside0 (Rd wr g s) ∧ Aside0 (KB g w wr)) (fun v5 _ => s.size - (intOf v5).toNat)
  case atStart => exact ⟨0, Nat.zero_le _, rfl, ⟨fun j hj => by omega⟩, HI, ⟨KB.refl _ _⟩⟩
  case round =>
    clear HI
    obtain ⟨k, hk, rfl, hJ, hR, hB⟩ := hrel
    have hc := hR.out.cell
    have hf := hR.out.frozen
    by_cases hlt : k < s.size
    · have hx : ∀ h : k < s.size, ((s[k]'h).toNat : Int) = bt s k := fun h => by have := bt_at s k (by simpa using h); simpa using this
      have hltd : decide ((k : Int) < (s.size : Int)) = true := decide_eq_true (by omega)
      have hcall := HA.out (bt s k) wr
      have hbt := Aside0.mk (show p (bt s k) = p (bt s k) from rfl)
      cases hpk : p (bt s k) with
      | true =>
        rw [hpk] at hcall
        have hJ2 : Aside0 (∀ j : Nat, j < k + 1 → p (bt s j) = true) := ⟨fun j hj => by
          by_cases h : j < k
          · exact hJ.out j h
          · obtain rfl : j = k := by omega
            exact hpk⟩
        clear hbt hpk hJ
        generalize bt s k = c at *
        go_wp2_with (first | (go_at_fn n; refine hcall.mono ?_; rintro e w' ⟨rfl, ⟨q, rfl⟩⟩))
        go_roundw
        case rel => exact ⟨k + 1, by omega, by go_num, hJ2, ⟨hR.out.drewN _⟩, ⟨hB.out.drewN _⟩⟩
        case measure => simp [intOf]; omega
      | false =>
        rw [hpk] at hcall
        have hJ2 := Aside0.mk (span_eq p s k hk hJ.out (fun _ => hpk))
        clear hbt hpk hJ
        generalize bt s k = c at *
        go_wp2_with (first | (go_at_fn n; refine hcall.mono ?_; rintro e w' ⟨rfl, ⟨q, rfl⟩⟩))
        go_ret
        exact ⟨by unfold takB; rw [hJ2.out]; rfl, by unfold drpB; rw [hJ2.out]; exact (hR.out.drewN _).set _, (hB.out.drewN _).set _ _⟩
    · obtain rfl : k = s.size := by omega
      have hJ2 := Aside0.mk (span_eq p s s.size (Nat.le_refl _) hJ.out (fun h => absurd h (by omega)))
      have hltd : decide ((s.size : Int) < (s.size : Int)) = false := decide_eq_false (by omega)
      clear hJ
      go_wp2
      go_ret
      exact ⟨by unfold takB; rw [hJ2.out]; simp, by unfold drpB; rw [hJ2.out]; simpa using hR.out.set ByteArray.empty, hB.out.set _ _⟩
end Go.Proofs.YtjdbiicjfpgjkaaGreatDoor.Sf
/- What a reader's method gives: a value and what is left, or it gives up. -/
set_option linter.unusedVariables false
set_option linter.unusedSimpArgs false
namespace Go.Proofs.YtjdbiicjfpgjkaaGreatDoor.Sf
open Go.RowKit Go.Proofs.YtjdbiicjfpgjkaaGreatDoorW.PrintWords Go.Proofs.YtjdbiicjfpgjkaaGreatDoorW.PrintLast Go.Proofs.YtjdbiicjfpgjkaaGreatDoorW.PrintMore
/-- What a reader's method gives: a value and what is left, or it gives up. -/
def Gives {α : Type} (g : Nat) (w : World) (enc : α → Value) (r : Option (α × ByteArray)) (e : Ending) (w' : World) : Prop :=
  (match r with | some (x, t) => e = .returned (enc x) ∧ Rd w' g t | none => e = gave) ∧ KB g w w'
theorem Gives.dead {α : Type} {g : Nat} {w w' : World} {enc : α → Value} {r : Option (α × ByteArray)} (h : r = none) (hk : KB g w w') : Gives g w enc r gave w' := by subst h; exact ⟨rfl, hk⟩
theorem Gives.ok {α : Type} {g : Nat} {w w' : World} {enc : α → Value} {r : Option (α × ByteArray)} {x : α} {t : ByteArray} {e : Ending} (h : r = some (x, t)) (he : e = .returned (enc x)) (hR : Rd w' g t) (hk : KB g w w') : Gives g w enc r e w' := by subst h; exact ⟨⟨he, hR⟩, hk⟩
theorem nonempty_ne (s : ByteArray) (h0 : 0 < s.size) : (s.toList == ([] : List UInt8)) = false ∧ (s.toList != ([] : List UInt8)) = true := by
  have c1 : (s.toList == ([] : List UInt8)) = false := by
    rw [beq_eq_false_iff_ne]; intro he
    have := Lib.toList_data s
    rw [he] at this
    have h2 := congrArg List.length this
    rw [← Lib.size_eq] at h2
    simp at h2; omega
  exact ⟨c1, by simp [bne, c1]⟩
theorem empty_eq (s : ByteArray) (h0 : ¬ 0 < s.size) : (s.toList == ([] : List UInt8)) = true ∧ (s.toList != ([] : List UInt8)) = false := by
  have c1 : (s.toList == ([] : List UInt8)) = true := by
    rw [beq_iff_eq, Lib.toList_data]
    apply List.eq_nil_of_length_eq_zero
    rw [← Lib.size_eq]; omega
  exact ⟨c1, by simp [bne, c1]⟩
def rdKey (s : ByteArray) : Option (ByteArray × ByteArray) := if 0 < s.size ∧ (smP (bt s 0) = true ∨ bt s 0 = 42) then some (takB keP s, drpB keP s) else none
theorem while_key (g : Nat) (s : ByteArray) (w : World) (hs : s.size ≤ 9223372036854775806) (hI : Rd w g s) :
    Calls Tryz.prog 81 #[.pointer (some ⟨g, 0, none⟩), .func (.func 96) #[] #[]] w fun e w' => e = .returned (.string (takB keP s)) ∧ Rd w' g (drpB keP s) ∧ KB g w w' := while_calls 96 keP asks_key (Go.Proofs.enters_of Tryz.func96 (by kernel_rfl) rfl) g s w hs hI
set_option maxHeartbeats 2000000 in
set_option maxRecDepth 100000 in
theorem key_calls (g : Nat) (s : ByteArray) (w : World) (hs : s.size ≤ 9223372036854775806) (hI : Rd w g s) :
    Calls Tryz.prog 65 #[.pointer (some ⟨g, 0, none⟩)] w fun e w' => Gives g w Value.string (rdKey s) e w' := by
  have hc := hI.cell
  have hf := hI.frozen
  have hW := Aside0.mk (fun q : Nat => while_key g s (w.drewN q) hs (hI.drewN q))
  have HI := Aside0.mk hI
  clear hI
  by_cases h0 : 0 < s.size
  · obtain ⟨c1, c1b⟩ := nonempty_ne s h0
    have hx6 : ∀ h : 0 < s.size, ((s[0]'h).toNat : Int) = bt s 0 := bt_at s 0
    have q6 := eq_true h0
    have qi6 : (0 < (s.size : Int)) = True := eq_true (by omega)
    have hsm := asks_small (bt s 0)
    cases h1 : smP (bt s 0) with
    | true =>
      have e : rdKey s = some (takB keP s, drpB keP s) := if_pos ⟨h0, Or.inl h1⟩
      rw [e]
      rw [h1] at hsm
      clear h1 e
      generalize bt s 0 = c at *
      go_enter Tryz.func65, Tryz.ntmps65
      go_wp2_with (first | (go_at_call 95; refine (hsm _).mono ?_; rintro e w' ⟨rfl, ⟨q, rfl⟩⟩) | (go_at_call 81; refine (hW.out _).mono ?_; rintro e w' ⟨rfl, hR, hB⟩))
      go_ret
      exact ⟨⟨rfl, hR⟩, ((KB.refl _ _).drewN _).trans hB⟩
    | false =>
      rw [h1] at hsm
      by_cases h2 : bt s 0 = 42
      · have e : rdKey s = some (takB keP s, drpB keP s) := if_pos ⟨h0, Or.inr h2⟩
        rw [e]
        have h2a : (bt s 0 != 42) = false := by simp [h2]
        clear h1 e h2
        generalize bt s 0 = c at *
        go_enter Tryz.func65, Tryz.ntmps65
        go_wp2_with (first | (go_at_call 95; refine (hsm _).mono ?_; rintro e w' ⟨rfl, ⟨q, rfl⟩⟩) | (go_at_call 81; refine (hW.out _).mono ?_; rintro e w' ⟨rfl, hR, hB⟩))
        go_ret
        exact ⟨⟨rfl, hR⟩, ((KB.refl _ _).drewN _).trans hB⟩
      · have e : rdKey s = none := if_neg (fun h => by rcases h.2 with h | h <;> simp_all)
        rw [e]
        have h2a : (bt s 0 != 42) = true := by simp [h2]
        clear h1 e h2
        generalize bt s 0 = c at *
        go_enter Tryz.func65, Tryz.ntmps65
        go_wp2_with (first | (go_at_call 95; refine (hsm _).mono ?_; rintro e w' ⟨rfl, ⟨q, rfl⟩⟩) | (go_at_call 77; refine (fail_calls _ _).mono ?_; rintro e w' ⟨rfl, rfl⟩))
        exact ⟨rfl, rfl, (KB.refl _ _).drewN _⟩
  · obtain ⟨c1, c1b⟩ := empty_eq s h0
    have e : rdKey s = none := if_neg (fun h => h0 h.1)
    rw [e]
    go_enter Tryz.func65, Tryz.ntmps65
    go_wp2_with (first | (go_at_call 77; refine (fail_calls _ _).mono ?_; rintro e w' ⟨rfl, rfl⟩))
    exact ⟨rfl, rfl, KB.refl _ _⟩
end Go.Proofs.YtjdbiicjfpgjkaaGreatDoor.Sf
/- The number that a text begins with. -/
set_option linter.unusedVariables false
set_option linter.unusedSimpArgs false
namespace Go.Proofs.YtjdbiicjfpgjkaaGreatDoor.Sf
open Go.RowKit Go.Proofs.YtjdbiicjfpgjkaaGreatDoorW.PrintWords Go.Proofs.YtjdbiicjfpgjkaaGreatDoorW.PrintLast Go.Proofs.YtjdbiicjfpgjkaaGreatDoorW.PrintMore
/-- The number that a text begins with. -/
def numV (s : ByteArray) : Nat := s.data.toList.foldl (fun a c => a * 10 + (c.toNat - 48)) 0
theorem decFrom_all : ∀ (l : List UInt8) (acc : Nat), (∀ c ∈ l, dgP c.toNat = true) → Lib.decFrom acc l = some (l.foldl (fun a c => a * 10 + (c.toNat - 48)) acc)
  | [], acc, _ => by simp [Lib.decFrom]
  | c :: l, acc, h => by
    have h1 : dgP c.toNat = true := h c (List.mem_cons_self ..)
    have h2 : 48 ≤ (c.toNat : Int) ∧ (c.toNat : Int) ≤ 57 := of_decide_eq_true h1
    have hd : Lib.digitVal c = some (c.toNat - 48) := by
      unfold Lib.digitVal
      exact if_pos (by omega)
    simp only [Lib.decFrom, hd, List.foldl_cons]
    exact decFrom_all l _ (fun x hx => h x (List.mem_cons_of_mem _ hx))
theorem atoi_digits (s : ByteArray) (h0 : 0 < s.size) (h : ∀ c ∈ s.data.toList, dgP c.toNat = true) : Lib.atoi s.data.toList = some (numV s : Int) := by
  unfold numV
  rw [Lib.size_eq] at h0
  generalize s.data.toList = l at *
  cases l with
  | nil => simp at h0
  | cons b r =>
    have h1 : dgP b.toNat = true := h b (List.mem_cons_self ..)
    have h2 : 48 ≤ (b.toNat : Int) ∧ (b.toNat : Int) ≤ 57 := of_decide_eq_true h1
    have n1 : (b == 45) = false := by rw [beq_eq_false_iff_ne]; rintro rfl; simp at h2
    have n2 : (b == 43) = false := by rw [beq_eq_false_iff_ne]; rintro rfl; simp at h2
    simp only [Lib.atoi, n1, n2, Lib.decNat, decFrom_all _ _ h]
    simp
theorem num_bound : ∀ (l : List UInt8) (acc : Nat), (∀ c ∈ l, dgP c.toNat = true) → l.foldl (fun a c => a * 10 + (c.toNat - 48)) acc < (acc + 1) * 10 ^ l.length
  | [], acc, _ => by simp
  | c :: l, acc, h => by
    have h1 : dgP c.toNat = true := h c (List.mem_cons_self ..)
    have h2 : 48 ≤ (c.toNat : Int) ∧ (c.toNat : Int) ≤ 57 := of_decide_eq_true h1
    have ih := num_bound l (acc * 10 + (c.toNat - 48)) (fun x hx => h x (List.mem_cons_of_mem _ hx))
    simp only [List.foldl_cons, List.length_cons]
    refine Nat.lt_of_lt_of_le ih ?_
    rw [Nat.pow_succ, Nat.mul_comm (10 ^ l.length) 10, ← Nat.mul_assoc]
    exact Nat.mul_le_mul_right _ (by omega)
theorem numV_bound (s : ByteArray) (h : ∀ c ∈ s.data.toList, dgP c.toNat = true) (hs : s.size ≤ 18) : numV s < 1000000000000000000 := by
  have h1 := num_bound s.data.toList 0 h
  have h2 : 10 ^ s.data.toList.length ≤ 10 ^ 18 := Nat.pow_le_pow_right (by decide) (by rw [← Lib.size_eq]; exact hs)
  have h3 : (10 : Nat) ^ 18 = 1000000000000000000 := by decide
  unfold numV
  omega
theorem tak_data (p : Int → Bool) (s : ByteArray) : (takB p s).data.toList = s.data.toList.takeWhile (fun c => p c.toNat) := by
  unfold takB spanB
  rw [Lib.extract_data]
  simp only [List.drop_zero, Nat.sub_zero]
  exact (List.prefix_iff_eq_take.1 (List.takeWhile_prefix _)).symm
theorem mem_takeWhile {α : Type} (q : α → Bool) : ∀ (l : List α) (c : α), c ∈ l.takeWhile q → q c = true
  | [], c, h => by simp at h
  | x :: l, c, h => by
    rw [List.takeWhile_cons] at h
    by_cases hx : q x = true
    · rw [if_pos hx] at h
      rcases List.mem_cons.1 h with rfl | h
      · exact hx
      · exact mem_takeWhile q l c h
    · rw [if_neg hx] at h; cases h
theorem tak_all (p : Int → Bool) (s : ByteArray) : ∀ c ∈ (takB p s).data.toList, p c.toNat = true := by
  intro c hc
  rw [tak_data] at hc
  exact mem_takeWhile (fun c : UInt8 => p c.toNat) _ c hc
def zer (n : Nat) : ByteArray := (⟨#[48, 48, 48]⟩ : ByteArray).extract n 3
def rdNumber (s : ByteArray) : Option ((Int × Int × ByteArray) × ByteArray) :=
  let s1 := atR s 45
  let w := takB dgP s1
  let s2 := drpB dgP s1
  let sg : Int := if atF s 45 = true then -1 else 1
  if w.size = 0 then none
  else if atF s2 46 = true then
    let part := takB dgP (tl s2)
    if w.size > 12 ∨ part.size = 0 ∨ part.size > 3 then none
    else some ((2, sg * (numV (w ++ (part ++ zer part.size)) : Int), ⟨#[]⟩), drpB dgP (tl s2))
  else if w.size > 15 then none else some ((1, sg * (numV w : Int), ⟨#[]⟩), s2)
theorem tak_size (p : Int → Bool) (s : ByteArray) : (takB p s).size = spanB p s := by
  have := span_le p s
  unfold takB; rw [ByteArray.size_extract]; omega
theorem tl_size (s : ByteArray) : (tl s).size ≤ s.size := by unfold tl; rw [ByteArray.size_extract]; omega
theorem atR_size (s : ByteArray) (c : Int) : (atR s c).size ≤ s.size := by unfold atR; split; exact tl_size s; exact Nat.le_refl _
theorem drp_size (p : Int → Bool) (s : ByteArray) : (drpB p s).size ≤ s.size := by unfold drpB; rw [ByteArray.size_extract]; omega
/-- A block of a parameter. -/
def PB (W : World) (b : Nat) (k : ByteArray) (n i : Int) (t : ByteArray) : Prop := W.heap[b]? = some (.cells #[.string k, .int .i64 n, .int .i64 i, .string t] 60 (0, 0))
theorem PB.new (W : World) : PB (W.alloc (.cells #[.string ⟨#[]⟩, .int .i64 0, .int .i64 0, .string ⟨#[]⟩] 60)) W.heap.size ⟨#[]⟩ 0 0 ⟨#[]⟩ := by have := blk_new W (.cells #[.string ⟨#[]⟩, .int .i64 0, .int .i64 0, .string ⟨#[]⟩] 60); simpa [PB] using this
theorem PB.c0 {W : World} {b : Nat} {k t : ByteArray} {n i : Int} (h : PB W b k n i t) : W.cell? ⟨b, 0, none⟩ = some (.string k) := (blk_cell h 0).trans rfl
theorem PB.c1 {W : World} {b : Nat} {k t : ByteArray} {n i : Int} (h : PB W b k n i t) : W.cell? ⟨b, 1, none⟩ = some (.int .i64 n) := (blk_cell h 1).trans rfl
theorem PB.c2 {W : World} {b : Nat} {k t : ByteArray} {n i : Int} (h : PB W b k n i t) : W.cell? ⟨b, 2, none⟩ = some (.int .i64 i) := (blk_cell h 2).trans rfl
theorem PB.c3 {W : World} {b : Nat} {k t : ByteArray} {n i : Int} (h : PB W b k n i t) : W.cell? ⟨b, 3, none⟩ = some (.string t) := (blk_cell h 3).trans rfl
theorem PB.fr {W : World} {b : Nat} {k t : ByteArray} {n i : Int} (h : PB W b k n i t) (j : Nat) : W.frozen? ⟨b, j, none⟩ = false := blk_frozen h j
theorem PB.kb {W W' : World} {b g : Nat} {k t : ByteArray} {n i : Int} (h : PB W b k n i t) (hk : KB g W W') (hg : b ≠ g) : PB W' b k n i t := hk.blk h hg
theorem PB.alloc {W : World} {b : Nat} {k t : ByteArray} {n i : Int} (h : PB W b k n i t) (o : Obj) : PB (W.alloc o) b k n i t := blk_alloc h o
theorem PB.drewN {W : World} {b : Nat} {k t : ByteArray} {n i : Int} (h : PB W b k n i t) (m : Nat) : PB (W.drewN m) b k n i t := h
theorem PB.far {W : World} {b : Nat} {k t : ByteArray} {n i : Int} (h : PB W b k n i t) {p : Addr} (hp : b ≠ p.block) (u : Value) : PB (W.setCell p u) b k n i t := blk_far h hp u
def encP (x : Int × Int × ByteArray) : Value := .agg #[.string ⟨#[]⟩, .int .i64 x.1, .int .i64 x.2.1, .string x.2.2]
theorem while_digit (g : Nat) (s : ByteArray) (w : World) (hs : s.size ≤ 9223372036854775806) (hI : Rd w g s) :
    Calls Tryz.prog 81 #[.pointer (some ⟨g, 0, none⟩), .func (.func 78) #[] #[]] w fun e w' => e = .returned (.string (takB dgP s)) ∧ Rd w' g (drpB dgP s) ∧ KB g w w' := while_calls 78 dgP asks_digit (Go.Proofs.enters_of Tryz.func78 (by kernel_rfl) rfl) g s w hs hI
/-- A parameter that is laid over another, cell by cell. -/
def putP (W : World) (b : Nat) (k : ByteArray) (n i : Int) (t : ByteArray) : World := (((W.setCell ⟨b, 0, none⟩ (.string k)).setCell ⟨b, 1, none⟩ (.int .i64 n)).setCell ⟨b, 2, none⟩ (.int .i64 i)).setCell ⟨b, 3, none⟩ (.string t)
theorem PB.put {W : World} {b : Nat} {k t : ByteArray} {n i : Int} (h : PB W b k n i t) (k' : ByteArray) (n' i' : Int) (t' : ByteArray) : PB (putP W b k' n' i' t') b k' n' i' t' := by
  have h1 := blk_set h 0 (.string k'); have h2 := blk_set h1 1 (.int .i64 n'); have h3 := blk_set h2 2 (.int .i64 i'); have h4 := blk_set h3 3 (.string t')
  unfold putP PB
  simpa using h4
theorem Rd.put {W : World} {g b : Nat} {s : ByteArray} (h : Rd W g s) (hg : g ≠ b) (k : ByteArray) (n i : Int) (t : ByteArray) : Rd (putP W b k n i t) g s :=
  (((h.far (p := ⟨b, 0, none⟩) hg _).far (p := ⟨b, 1, none⟩) hg _).far (p := ⟨b, 2, none⟩) hg _).far (p := ⟨b, 3, none⟩) hg _
theorem KB.put {g b : Nat} {w w1 : World} (h : KB g w w1) (hb : w.heap.size ≤ b) (k : ByteArray) (n i : Int) (t : ByteArray) : KB g w (putP w1 b k n i t) :=
  (((h.far (p := ⟨b, 0, none⟩) hb _).far (p := ⟨b, 1, none⟩) hb _).far (p := ⟨b, 2, none⟩) hb _).far (p := ⟨b, 3, none⟩) hb _
/-- A number in a parameter's third cell. -/
theorem PB.set2 {W : World} {b : Nat} {k t : ByteArray} {n i : Int} (h : PB W b k n i t) (v : Int) : PB (W.setCell ⟨b, 2, none⟩ (.int .i64 v)) b k n v t := by have := blk_set h 2 (.int .i64 v); simpa [PB] using this
theorem zer_digits (n : Nat) : ∀ c ∈ (zer n).data.toList, dgP c.toNat = true := by
  intro c hc
  unfold zer at hc
  rw [Lib.extract_data] at hc
  have h := List.mem_of_mem_drop (List.mem_of_mem_take hc)
  have h : c ∈ ([48, 48, 48] : List UInt8) := h
  simp at h
  subst h
  decide
theorem zer_size (n : Nat) (h : n ≤ 3) : (zer n).size = 3 - n := by unfold zer; rw [ByteArray.size_extract, show (⟨#[48, 48, 48]⟩ : ByteArray).size = 3 from rfl]; omega
theorem app_digits {a b : ByteArray} (ha : ∀ c ∈ a.data.toList, dgP c.toNat = true) (hb : ∀ c ∈ b.data.toList, dgP c.toNat = true) : ∀ c ∈ (a ++ b).data.toList, dgP c.toNat = true := by
  intro c hc
  have e : (a ++ b).data.toList = a.data.toList ++ b.data.toList := by simp
  rw [e] at hc
  rcases List.mem_append.1 hc with h | h
  · exact ha c h
  · exact hb c h
def sgn (s : ByteArray) : Int := if atF s 45 = true then -1 else 1
theorem rdNumber_eq (s : ByteArray) : rdNumber s = if (takB dgP (atR s 45)).size = 0 then none
    else if atF (drpB dgP (atR s 45)) 46 = true then
      (if (takB dgP (atR s 45)).size > 12 ∨ (takB dgP (tl (drpB dgP (atR s 45)))).size = 0 ∨ (takB dgP (tl (drpB dgP (atR s 45)))).size > 3 then none
      else some ((2, sgn s * (numV (takB dgP (atR s 45) ++ (takB dgP (tl (drpB dgP (atR s 45))) ++ zer (takB dgP (tl (drpB dgP (atR s 45)))).size)) : Int), ⟨#[]⟩), drpB dgP (tl (drpB dgP (atR s 45)))))
    else if (takB dgP (atR s 45)).size > 15 then none else some ((1, sgn s * (numV (takB dgP (atR s 45)) : Int), ⟨#[]⟩), drpB dgP (atR s 45)) := rfl
/-- What the second half of number knows. -/
def Half (s : ByteArray) (kd : Int) (pt rest : ByteArray) : Prop :=
  (rdNumber s = if (takB dgP (atR s 45)).size = 0 ∨ (kd = 1 ∧ (takB dgP (atR s 45)).size > 15) then none else some ((kd, sgn s * (numV (takB dgP (atR s 45) ++ pt) : Int), ⟨#[]⟩), rest)) ∧
  (kd = 1 ∨ kd = 2) ∧ (kd = 2 → 0 < (takB dgP (atR s 45)).size ∧ (takB dgP (atR s 45)).size ≤ 12) ∧ pt.size ≤ 3 ∧ ∀ c ∈ pt.data.toList, dgP c.toNat = true
theorem app_empty (a : ByteArray) : a ++ (⟨#[]⟩ : ByteArray) = a := by apply ByteArray.ext; simp
theorem Half.none (s : ByteArray) (h : (takB dgP (atR s 45)).size = 0) (rest : ByteArray) : Half s 1 ⟨#[]⟩ rest := by
  refine ⟨?_, Or.inl rfl, fun h => absurd h (by decide), Nat.zero_le _, fun c hc => absurd hc (by simp)⟩
  rw [if_pos (Or.inl h)]
  rw [rdNumber_eq, if_pos h]
theorem Half.plain (s : ByteArray) (h : ¬ (takB dgP (atR s 45)).size = 0) (hd : atF (drpB dgP (atR s 45)) 46 = false) : Half s 1 ⟨#[]⟩ (drpB dgP (atR s 45)) := by
  refine ⟨?_, Or.inl rfl, fun h => absurd h (by decide), Nat.zero_le _, fun c hc => absurd hc (by simp)⟩
  rw [rdNumber_eq, if_neg h, if_neg (by rw [hd]; decide), app_empty]
  by_cases hb : (takB dgP (atR s 45)).size > 15
  · rw [if_pos hb, if_pos (Or.inr ⟨rfl, hb⟩)]
  · rw [if_neg hb, if_neg (fun h' => h'.elim h (fun h' => hb h'.2))]
theorem Half.dot (s : ByteArray) (h : ¬ (takB dgP (atR s 45)).size = 0) (hd : atF (drpB dgP (atR s 45)) 46 = true) (hn : ¬ ((takB dgP (atR s 45)).size > 12 ∨ (takB dgP (tl (drpB dgP (atR s 45)))).size = 0 ∨ (takB dgP (tl (drpB dgP (atR s 45)))).size > 3)) :
    Half s 2 (takB dgP (tl (drpB dgP (atR s 45))) ++ zer (takB dgP (tl (drpB dgP (atR s 45)))).size) (drpB dgP (tl (drpB dgP (atR s 45)))) := by
  refine ⟨?_, Or.inr rfl, fun _ => by omega, by rw [ByteArray.size_append, zer_size _ (by omega)]; omega, app_digits (tak_all _ _) (zer_digits _)⟩
  rw [rdNumber_eq, if_neg h, if_pos hd, if_neg hn]
  rw [if_neg (fun h' => h'.elim h (fun h' => absurd h'.1 (by decide)))]
theorem number_dead (s : ByteArray) (h : ¬ (takB dgP (atR s 45)).size = 0) (hd : atF (drpB dgP (atR s 45)) 46 = true) (hn : (takB dgP (atR s 45)).size > 12 ∨ (takB dgP (tl (drpB dgP (atR s 45)))).size = 0 ∨ (takB dgP (tl (drpB dgP (atR s 45)))).size > 3) : rdNumber s = none := by
  rw [rdNumber_eq, if_neg h, if_pos hd, if_pos hn]
set_option maxHeartbeats 4000000 in
set_option maxRecDepth 100000 in
theorem number_calls (g : Nat) (s : ByteArray) (w : World) (hs : s.size ≤ 9223372036854775806) (hI : Rd w g s) :
    Calls Tryz.prog 79 #[.pointer (some ⟨g, 0, none⟩)] w fun e w' => Gives g w encP (rdNumber s) e w' := by
  have hz1 : (atR s 45).size ≤ 9223372036854775806 := Nat.le_trans (atR_size _ _) hs
  have hz2 : (drpB dgP (atR s 45)).size ≤ 9223372036854775806 := Nat.le_trans (drp_size _ _) hz1
  have hz3 : (tl (drpB dgP (atR s 45))).size ≤ 9223372036854775806 := Nat.le_trans (tl_size _) hz2
  have hA1 := Aside0.mk (fun W (h : Rd W g s) => at_calls g s 45 W h)
  have hW1 := Aside0.mk (fun W (h : Rd W g (atR s 45)) => while_digit g (atR s 45) W hz1 h)
  have hA2 := Aside0.mk (fun W (h : Rd W g (drpB dgP (atR s 45))) => at_calls g _ 46 W h)
  have hW2 := Aside0.mk (fun W (h : Rd W g (tl (drpB dgP (atR s 45)))) => while_digit g _ W hz3 h)
  have hI1 := Aside0.mk (hI.alloc (.cells #[.string ⟨#[]⟩, .int .i64 0, .int .i64 0, .string ⟨#[]⟩] 60))
  have hP1 := Aside0.mk (PB.new w)
  have hK1 := Aside0.mk ((KB.refl g w).alloc (.cells #[.string ⟨#[]⟩, .int .i64 0, .int .i64 0, .string ⟨#[]⟩] 60))
  have hne : w.heap.size ≠ g := by have := hI.lt; omega
  clear hI
  go_enter Tryz.func79, Tryz.ntmps79
  go_upto_if 10 with (first | (go_at_call 83; refine (hA1.out _ hI1.out).mono ?_; rintro e w2 ⟨rfl, hR2, hB2⟩))
  have hP2 := Aside0.mk (hP1.out.kb hB2 hne)
  have hK2 := Aside0.mk (hK1.out.trans hB2)
  have hR2 := Aside0.mk hR2
  clear hI1 hP1 hK1 hA1 hB2
  go_cut [3] (fun v3 wc => v3 = .int .i64 (sgn s) ∧ Aside0 (Rd wc g (atR s 45)) ∧ Aside0 (PB wc w.heap.size ⟨#[]⟩ 0 0 ⟨#[]⟩) ∧ Aside0 (KB g w wc))
  case first =>
    cases h : atF s 45 with
    | true =>
      have hsg : sgn s = -1 := if_pos h
      go_wp2
      go_meet
      case rel => exact ⟨by rw [hsg], hR2, hP2, hK2⟩
    | false =>
      have hsg : sgn s = 1 := if_neg (by rw [h]; decide)
      go_wp2
      go_meet
      case rel => exact ⟨by rw [hsg], hR2, hP2, hK2⟩
  case rest =>
    clear hR2 hP2 hK2
    obtain ⟨rfl, hR2, hP2, hK2⟩ := hcut
    go_upto_region 7 with (first | (go_at_call 81; refine (hW1.out _ hR2.out).mono ?_; rintro e w3 ⟨rfl, hR3, hB3⟩))
    have hR4 := Aside0.mk (hR3.alloc (.cells #[.string ⟨#[]⟩, .int .i64 1, .int .i64 0, .string ⟨#[]⟩] 60))
    have hP4 := Aside0.mk ((hP2.out.kb hB3 hne).alloc (.cells #[.string ⟨#[]⟩, .int .i64 1, .int .i64 0, .string ⟨#[]⟩] 60))
    have hQ4 : Aside0 (PB (w3.alloc (.cells #[.string ⟨#[]⟩, .int .i64 1, .int .i64 0, .string ⟨#[]⟩] 60)) w3.heap.size ⟨#[]⟩ 1 0 ⟨#[]⟩) := ⟨by
      have := blk_new w3 (.cells #[.string ⟨#[]⟩, .int .i64 1, .int .i64 0, .string ⟨#[]⟩] 60); simpa [PB] using this⟩
    have hK4 := Aside0.mk ((hK2.out.trans hB3).alloc (.cells #[.string ⟨#[]⟩, .int .i64 1, .int .i64 0, .string ⟨#[]⟩] 60))
    have hne2 : w3.heap.size ≠ g := by have := hR3.lt; omega
    have hge : w.heap.size ≤ w3.heap.size := Nat.le_trans hK2.out.size hB3.size
    have hne3 : w.heap.size ≠ w3.heap.size := by have := blk_lt (hP2.out.kb hB3 hne); omega
    clear hR2 hP2 hK2 hB3 hR3 hW1
    generalize w3.alloc (.cells #[.string ⟨#[]⟩, .int .i64 1, .int .i64 0, .string ⟨#[]⟩] 60) = w4 at *
    generalize w3.heap.size = pb at *
    go_cut [20] (fun v20 wc => ∃ (b : Bool) (rest : ByteArray), v20 = .bool b ∧ Aside0 (Rd wc g rest) ∧ Aside0 (PB wc w.heap.size ⟨#[]⟩ 0 0 ⟨#[]⟩) ∧ Aside0 (PB wc pb ⟨#[]⟩ 1 0 ⟨#[]⟩) ∧ Aside0 (KB g w wc) ∧ Aside0 (if b = true then ¬ (takB dgP (atR s 45)).size = 0 ∧ atF (drpB dgP (atR s 45)) 46 = true ∧ rest = tl (drpB dgP (atR s 45)) else Half s 1 ⟨#[]⟩ rest))
    case first =>
      by_cases hn : (takB dgP (atR s 45)).size = 0
      · have hx := Aside0.mk (Half.none s hn (drpB dgP (atR s 45)))
        have hd : decide (0 < ((takB dgP (atR s 45)).size : Int)) = false := decide_eq_false (by omega)
        have hd2 : decide (0 < (takB dgP (atR s 45)).size) = false := decide_eq_false (by omega)
        clear hn
        go_wp2
        go_meet
        case rel => exact ⟨false, _, rfl, hR4, hP4, hQ4, hK4, by simpa using hx⟩
      · have hd : decide (0 < ((takB dgP (atR s 45)).size : Int)) = true := decide_eq_true (by omega)
        have hd2 : decide (0 < (takB dgP (atR s 45)).size) = true := decide_eq_true (by omega)
        cases h : atF (drpB dgP (atR s 45)) 46 with
        | false =>
          have hx := Aside0.mk (Half.plain s hn h)
          have er : atR (drpB dgP (atR s 45)) 46 = drpB dgP (atR s 45) := if_neg (by rw [h]; decide)
          clear hn
          go_wp2_with (first | (go_at_call 83; refine (hA2.out _ hR4.out).mono ?_; rw [h]; rintro e w5 ⟨rfl, hR5, hB5⟩))
          go_meet
          case rel => exact ⟨false, _, rfl, ⟨er ▸ hR5⟩, ⟨hP4.out.kb hB5 hne⟩, ⟨hQ4.out.kb hB5 hne2⟩, ⟨hK4.out.trans hB5⟩, by simpa using hx⟩
        | true =>
          have er : atR (drpB dgP (atR s 45)) 46 = tl (drpB dgP (atR s 45)) := if_pos h
          have hx : Aside0 (¬ (takB dgP (atR s 45)).size = 0 ∧ atF (drpB dgP (atR s 45)) 46 = true ∧ tl (drpB dgP (atR s 45)) = tl (drpB dgP (atR s 45))) := ⟨hn, h, rfl⟩
          clear hn
          go_wp2_with (first | (go_at_call 83; refine (hA2.out _ hR4.out).mono ?_; rw [h]; rintro e w5 ⟨rfl, hR5, hB5⟩))
          go_meet
          case rel => exact ⟨true, tl (drpB dgP (atR s 45)), rfl, ⟨er ▸ hR5⟩, ⟨hP4.out.kb hB5 hne⟩, ⟨hQ4.out.kb hB5 hne2⟩, ⟨hK4.out.trans hB5⟩, ⟨by rw [if_pos rfl]; exact ⟨hx.out.1, hx.out.2.1, rfl⟩⟩⟩
    case rest =>
      clear hR4 hP4 hQ4 hK4 hA2
      obtain ⟨b, rest, rfl, hR5, hP5, hQ5, hK5, hX⟩ := hcut
      go_upto_if 20 with (fail)
      go_cut [6] (fun v6 wc => ∃ (kd : Int) (pt rest : ByteArray), v6 = .string pt ∧ Aside0 (Rd wc g rest) ∧ Aside0 (PB wc w.heap.size ⟨#[]⟩ 0 0 ⟨#[]⟩) ∧ Aside0 (PB wc pb ⟨#[]⟩ kd 0 ⟨#[]⟩) ∧ Aside0 (KB g w wc) ∧ Aside0 (Half s kd pt rest))
      case first =>
        cases b with
        | false =>
          have hx : Aside0 (Half s 1 ⟨#[]⟩ rest) := by simpa using hX
          clear hX
          go_wp2
          go_meet
          case rel => exact ⟨1, _, rest, rfl, hR5, hP5, hQ5, hK5, hx⟩
        | true =>
          have hx : ¬ (takB dgP (atR s 45)).size = 0 ∧ atF (drpB dgP (atR s 45)) 46 = true ∧ rest = tl (drpB dgP (atR s 45)) := by have := hX.out; simpa using this
          obtain ⟨hn, hat, rfl⟩ := hx
          clear hX
          have hc1 := hQ5.out.c1
          have hf1 := hQ5.out.fr 1
          have hR6 : Aside0 (Rd (wc.setCell ⟨pb, 1, none⟩ (.int .i64 2)) g (tl (drpB dgP (atR s 45)))) := ⟨hR5.out.far (p := ⟨pb, 1, none⟩) (fun e => hne2 e.symm) _⟩
          have hP6 : Aside0 (PB (wc.setCell ⟨pb, 1, none⟩ (.int .i64 2)) w.heap.size ⟨#[]⟩ 0 0 ⟨#[]⟩) := ⟨hP5.out.far (p := ⟨pb, 1, none⟩) hne3 _⟩
          have hQ6 : Aside0 (PB (wc.setCell ⟨pb, 1, none⟩ (.int .i64 2)) pb ⟨#[]⟩ 2 0 ⟨#[]⟩) := ⟨by have := blk_set hQ5.out 1 (.int .i64 2); simpa [PB] using this⟩
          have hK6 : Aside0 (KB g w (wc.setCell ⟨pb, 1, none⟩ (.int .i64 2))) := ⟨hK5.out.far (p := ⟨pb, 1, none⟩) hge _⟩
          clear hR5 hP5 hQ5 hK5
          by_cases hbad : (takB dgP (atR s 45)).size > 12 ∨ (takB dgP (tl (drpB dgP (atR s 45)))).size = 0 ∨ (takB dgP (tl (drpB dgP (atR s 45)))).size > 3
          · have hdead := Aside0.mk (number_dead s hn hat hbad)
            by_cases e1 : (takB dgP (atR s 45)).size > 12
            · have d1 : decide (12 < ((takB dgP (atR s 45)).size : Int)) = true := decide_eq_true (by omega)
              have d1b : decide (12 < (takB dgP (atR s 45)).size) = true := decide_eq_true (by omega)
              clear hn hat hbad e1
              go_wp2_with (first | (go_at_call 81; refine (hW2.out _ hR6.out).mono ?_; rintro e w6 ⟨rfl, hR7, hB7⟩) | (go_at_call 77; refine (fail_calls _ _).mono ?_; rintro e w' ⟨rfl, rfl⟩))
              exact ⟨rfl, Gives.dead hdead.out (hK6.out.trans hB7)⟩
            · have d1 : decide (12 < ((takB dgP (atR s 45)).size : Int)) = false := decide_eq_false (by omega)
              have d1b : decide (12 < (takB dgP (atR s 45)).size) = false := decide_eq_false (by omega)
              by_cases e2 : 0 < (takB dgP (tl (drpB dgP (atR s 45)))).size
              · have d2 := (nonempty_ne _ e2).1
                have d3 : decide (3 < ((takB dgP (tl (drpB dgP (atR s 45)))).size : Int)) = true := decide_eq_true (by omega)
                have d3b : decide (3 < (takB dgP (tl (drpB dgP (atR s 45)))).size) = true := decide_eq_true (by omega)
                clear hn hat hbad e1 e2
                go_wp2_with (first | (go_at_call 81; refine (hW2.out _ hR6.out).mono ?_; rintro e w6 ⟨rfl, hR7, hB7⟩) | (go_at_call 77; refine (fail_calls _ _).mono ?_; rintro e w' ⟨rfl, rfl⟩))
                exact ⟨rfl, Gives.dead hdead.out (hK6.out.trans hB7)⟩
              · have d2 := (empty_eq _ e2).1
                clear hn hat hbad e1 e2
                go_wp2_with (first | (go_at_call 81; refine (hW2.out _ hR6.out).mono ?_; rintro e w6 ⟨rfl, hR7, hB7⟩) | (go_at_call 77; refine (fail_calls _ _).mono ?_; rintro e w' ⟨rfl, rfl⟩))
                exact ⟨rfl, Gives.dead hdead.out (hK6.out.trans hB7)⟩
          · have hx := Aside0.mk (Half.dot s hn hat hbad)
            have d1 : decide (12 < ((takB dgP (atR s 45)).size : Int)) = false := decide_eq_false (by omega)
            have d1b : decide (12 < (takB dgP (atR s 45)).size) = false := decide_eq_false (by omega)
            have d2 := (nonempty_ne (takB dgP (tl (drpB dgP (atR s 45)))) (by omega)).1
            have d3 : decide (3 < ((takB dgP (tl (drpB dgP (atR s 45)))).size : Int)) = false := decide_eq_false (by omega)
            have d3b : decide (3 < (takB dgP (tl (drpB dgP (atR s 45)))).size) = false := decide_eq_false (by omega)
            have d4 : (takB dgP (tl (drpB dgP (atR s 45)))).size ≤ 3 := by omega
            have d5 : ((takB dgP (tl (drpB dgP (atR s 45)))).size : Int) ≤ 3 := by omega
            clear hn hat hbad
            go_wp2_with (first | (go_at_call 81; refine (hW2.out _ hR6.out).mono ?_; rintro e w6 ⟨rfl, hR7, hB7⟩))
            go_meet
            case rel => exact ⟨2, _, _, rfl, ⟨hR7⟩, ⟨hP6.out.kb hB7 hne⟩, ⟨hQ6.out.kb hB7 hne2⟩, ⟨hK6.out.trans hB7⟩, hx⟩
      case rest =>
        clear hR5 hP5 hQ5 hK5 hX hW2
        obtain ⟨kd, pt, rest, rfl, hR6, hP6, hQ6, hK6, hH⟩ := hcut
        by_cases h0 : (takB dgP (atR s 45)).size = 0
        · have hdead := Aside0.mk (hH.out.1.trans (if_pos (Or.inl h0)))
          have d1 := (empty_eq (takB dgP (atR s 45)) (by omega)).1
          have hc1 := hQ6.out.c1
          have hf1 := hQ6.out.fr 1
          clear h0 hH
          go_wp2_with (first | (go_at_call 77; refine (fail_calls _ _).mono ?_; rintro e w' ⟨rfl, rfl⟩))
          exact ⟨rfl, Gives.dead hdead.out hK6.out⟩
        · rcases hH.out.2.1 with rfl | rfl
          · by_cases h15 : (takB dgP (atR s 45)).size > 15
            · have hdead := Aside0.mk (hH.out.1.trans (if_pos (Or.inr ⟨rfl, h15⟩)))
              have d1 := (nonempty_ne (takB dgP (atR s 45)) (by omega)).1
              have d2 : decide (15 < ((takB dgP (atR s 45)).size : Int)) = true := decide_eq_true (by omega)
              have d2b : decide (15 < (takB dgP (atR s 45)).size) = true := decide_eq_true (by omega)
              have hc1 := hQ6.out.c1
              have hf1 := hQ6.out.fr 1
              clear h0 hH h15
              go_wp2_with (first | (go_at_call 77; refine (fail_calls _ _).mono ?_; rintro e w' ⟨rfl, rfl⟩))
              exact ⟨rfl, Gives.dead hdead.out hK6.out⟩
            · skip
              obtain ⟨hE, _, hk2, hp3, hpd⟩ := hH.out
              have hG := Aside0.mk (hE.trans (if_neg (by omega)))
              have hsz : (takB dgP (atR s 45) ++ pt).size ≤ 18 := by rw [ByteArray.size_append]; omega
              have hpos : 0 < (takB dgP (atR s 45) ++ pt).size := by rw [ByteArray.size_append]; omega
              have hat := atoi_digits _ hpos (app_digits (tak_all dgP _) hpd)
              have hbd := numV_bound _ (app_digits (tak_all dgP (atR s 45)) hpd) hsz
              have hAt := Aside0.mk (fun W => Tryz.strconv_Atoi _ _ hsz hat W)
              have hm : wrap64 (sgn s * (numV (takB dgP (atR s 45) ++ pt) : Int)) = sgn s * (numV (takB dgP (atR s 45) ++ pt) : Int) := by
                refine IntWalk.wrap64_in _ ?_
                unfold sgn
                split <;> constructor <;> omega
              have hM := Aside0.mk hm
              have d1 := (nonempty_ne _ (show 0 < (takB dgP (atR s 45)).size by omega)).1
              have hlen : (takB dgP (atR s 45)).size + pt.size ≤ 18 := by rw [ByteArray.size_append] at hsz; exact hsz
              have d2 : decide (15 < ((takB dgP (atR s 45)).size : Int)) = false := decide_eq_false (by omega)
              have d2b : decide (15 < (takB dgP (atR s 45)).size) = false := decide_eq_false (by omega)
              have hc1 := hQ6.out.c1
              have hf1 := hQ6.out.fr 1
              clear hE hk2 hp3 hpd hH hsz hpos hat hbd hm
              generalize (numV (takB dgP (atR s 45) ++ pt) : Int) = nv at *
              generalize sgn s = sg at *
              clear h0
              go_upto_region 15 with (fail)
              clear hc1 hf1
              go_upto_region 16 with (first | (go_at_call 105; refine (hAt.out _).mono ?_; rintro e w7 ⟨rfl, t, hw7⟩; have hB7 : Below wc.heap.size wc w7 := (by rw [hw7]; exact bytes_below (Below.refl _ _) (Nat.le_refl _) _ _); clear hw7))
              have hR7 := Aside0.mk (show Rd w7 g rest from blk_below hR6.out hB7)
              have hP7 := Aside0.mk (show PB w7 w.heap.size ⟨#[]⟩ 0 0 ⟨#[]⟩ from blk_below hP6.out hB7)
              have hQ7 := Aside0.mk (show PB w7 pb ⟨#[]⟩ 1 0 ⟨#[]⟩ from blk_below hQ6.out hB7)
              have hK7 := Aside0.mk (hK6.out.below hB7)
              clear hB7 hR6 hP6 hQ6 hK6
              have hc2 := hQ7.out.c2
              have hf2 := hQ7.out.fr 2
              have hm := hM.out
              (try clear d1 d2 d2b); (try clear hlen)
              go_upto_region 17 with (fail)
              have hR8 := Aside0.mk (hR7.out.far (p := ⟨pb, 2, none⟩) (fun e => hne2 e.symm) (.int .i64 (sg * nv)))
              have hP8 := Aside0.mk (hP7.out.far (p := ⟨pb, 2, none⟩) hne3 (.int .i64 (sg * nv)))
              have hQ8 := Aside0.mk (hQ7.out.set2 (sg * nv))
              have hK8 := Aside0.mk (hK7.out.far (p := ⟨pb, 2, none⟩) hge (.int .i64 (sg * nv)))
              clear hR7 hP7 hQ7 hK7 hc2 hf2 hm hM
              generalize w7.setCell ⟨pb, 2, none⟩ (.int .i64 (sg * nv)) = w8 at *
              have hq0 := hQ8.out.c0
              have hq1 := hQ8.out.c1
              have hq2 := hQ8.out.c2
              have hq3 := hQ8.out.c3
              have hp0 := hP8.out.c0
              have hp1 := hP8.out.c1
              have hp2 := hP8.out.c2
              have hp3 := hP8.out.c3
              have hf0 := hP8.out.fr 0
              have hf1 := hP8.out.fr 1
              have hf2 := hP8.out.fr 2
              have hf3 := hP8.out.fr 3
              go_wp2
              refine bodyPost_ret (results_cell_row rfl _ _ w.heap.size 60 #[.string ⟨#[]⟩, .int .i64 1, .int .i64 (sg * nv), .string ⟨#[]⟩] (0, 0) _ rfl (hP8.out.put ⟨#[]⟩ 1 (sg * nv) ⟨#[]⟩) Tryz.underlying60 rfl (by kernel_rfl)) rfl ?_
              exact Gives.ok hG.out rfl (hR8.out.put (fun e => hne e.symm) _ _ _ _) (hK8.out.put (Nat.le_refl _) _ _ _ _)
          · skip
            obtain ⟨hE, _, hk2, hp3, hpd⟩ := hH.out
            have hG := Aside0.mk (hE.trans (if_neg (by omega)))
            have hsz : (takB dgP (atR s 45) ++ pt).size ≤ 18 := by rw [ByteArray.size_append]; omega
            have hpos : 0 < (takB dgP (atR s 45) ++ pt).size := by rw [ByteArray.size_append]; omega
            have hat := atoi_digits _ hpos (app_digits (tak_all dgP _) hpd)
            have hbd := numV_bound _ (app_digits (tak_all dgP (atR s 45)) hpd) hsz
            have hAt := Aside0.mk (fun W => Tryz.strconv_Atoi _ _ hsz hat W)
            have hm : wrap64 (sgn s * (numV (takB dgP (atR s 45) ++ pt) : Int)) = sgn s * (numV (takB dgP (atR s 45) ++ pt) : Int) := by
              refine IntWalk.wrap64_in _ ?_
              unfold sgn
              split <;> constructor <;> omega
            have hM := Aside0.mk hm
            have d1 := (nonempty_ne _ (show 0 < (takB dgP (atR s 45)).size by omega)).1
            have hlen : (takB dgP (atR s 45)).size + pt.size ≤ 18 := by rw [ByteArray.size_append] at hsz; exact hsz
            have hk := hk2 rfl
            have hc1 := hQ6.out.c1
            have hf1 := hQ6.out.fr 1
            clear hE hk2 hp3 hpd hH hsz hpos hat hbd hm
            generalize (numV (takB dgP (atR s 45) ++ pt) : Int) = nv at *
            generalize sgn s = sg at *
            clear h0 hk
            go_upto_region 15 with (fail)
            clear hc1 hf1
            go_upto_region 16 with (first | (go_at_call 105; refine (hAt.out _).mono ?_; rintro e w7 ⟨rfl, t, hw7⟩; have hB7 : Below wc.heap.size wc w7 := (by rw [hw7]; exact bytes_below (Below.refl _ _) (Nat.le_refl _) _ _); clear hw7))
            have hR7 := Aside0.mk (show Rd w7 g rest from blk_below hR6.out hB7)
            have hP7 := Aside0.mk (show PB w7 w.heap.size ⟨#[]⟩ 0 0 ⟨#[]⟩ from blk_below hP6.out hB7)
            have hQ7 := Aside0.mk (show PB w7 pb ⟨#[]⟩ 2 0 ⟨#[]⟩ from blk_below hQ6.out hB7)
            have hK7 := Aside0.mk (hK6.out.below hB7)
            clear hB7 hR6 hP6 hQ6 hK6
            have hc2 := hQ7.out.c2
            have hf2 := hQ7.out.fr 2
            have hm := hM.out
            (try clear d1 d2 d2b); (try clear hlen)
            go_upto_region 17 with (fail)
            have hR8 := Aside0.mk (hR7.out.far (p := ⟨pb, 2, none⟩) (fun e => hne2 e.symm) (.int .i64 (sg * nv)))
            have hP8 := Aside0.mk (hP7.out.far (p := ⟨pb, 2, none⟩) hne3 (.int .i64 (sg * nv)))
            have hQ8 := Aside0.mk (hQ7.out.set2 (sg * nv))
            have hK8 := Aside0.mk (hK7.out.far (p := ⟨pb, 2, none⟩) hge (.int .i64 (sg * nv)))
            clear hR7 hP7 hQ7 hK7 hc2 hf2 hm hM
            generalize w7.setCell ⟨pb, 2, none⟩ (.int .i64 (sg * nv)) = w8 at *
            have hq0 := hQ8.out.c0
            have hq1 := hQ8.out.c1
            have hq2 := hQ8.out.c2
            have hq3 := hQ8.out.c3
            have hp0 := hP8.out.c0
            have hp1 := hP8.out.c1
            have hp2 := hP8.out.c2
            have hp3 := hP8.out.c3
            have hf0 := hP8.out.fr 0
            have hf1 := hP8.out.fr 1
            have hf2 := hP8.out.fr 2
            have hf3 := hP8.out.fr 3
            go_wp2
            refine bodyPost_ret (results_cell_row rfl _ _ w.heap.size 60 #[.string ⟨#[]⟩, .int .i64 2, .int .i64 (sg * nv), .string ⟨#[]⟩] (0, 0) _ rfl (hP8.out.put ⟨#[]⟩ 2 (sg * nv) ⟨#[]⟩) Tryz.underlying60 rfl (by kernel_rfl)) rfl ?_
            exact Gives.ok hG.out rfl (hR8.out.put (fun e => hne e.symm) _ _ _ _) (hK8.out.put (Nat.le_refl _) _ _ _ _)
end Go.Proofs.YtjdbiicjfpgjkaaGreatDoor.Sf
/- A text in quotes, read byte by byte. -/
set_option linter.unusedVariables false
set_option linter.unusedSimpArgs false
namespace Go.Proofs.YtjdbiicjfpgjkaaGreatDoor.Sf
open Go.RowKit Go.Proofs.YtjdbiicjfpgjkaaGreatDoorW.PrintWords Go.Proofs.YtjdbiicjfpgjkaaGreatDoorW.PrintLast Go.Proofs.YtjdbiicjfpgjkaaGreatDoorW.PrintMore
/-- A text in quotes, read byte by byte. -/
def qF : Nat → ByteArray → List Int → Option (ByteArray × ByteArray)
  | 0, _, _ => none
  | d + 1, s, xs => if 0 < s.size then (if bt s 0 = 34 then some (strOfNums xs, tl s)
      else if bt s 0 < 32 ∨ 126 < bt s 0 ∨ (bt s 0 = 92 ∧ ¬ (0 < (tl s).size ∧ wiP (bt (tl s) 0) ⟨#[34, 92]⟩ = true)) then none
      else if bt s 0 = 92 then qF d (tl (tl s)) (xs ++ [bt (tl s) 0]) else qF d (tl s) (xs ++ [bt s 0])) else none
def mkQ (p : ByteArray × ByteArray) : (Int × Int × ByteArray) × ByteArray := ((3, 0, p.1), p.2)
def rdQuoted (s : ByteArray) : Option ((Int × Int × ByteArray) × ByteArray) := (qF (s.size + 1) s []).map mkQ
theorem tl_lt (s : ByteArray) (h : 0 < s.size) : (tl s).size + 1 = s.size := by unfold tl; rw [ByteArray.size_extract]; omega
theorem KB.belowB {g B : Nat} {w w1 w2 : World} (h : KB g w w1) (k : Below B w1 w2) (hB : w.heap.size ≤ B) : KB g w w2 :=
  ⟨k.os.trans h.os, k.tape.trans h.tape, k.output.trans h.output, Nat.le_trans h.size k.size, fun i hi hg => (k.block i (Nat.lt_of_lt_of_le hi hB)).trans (h.block i hi hg)⟩
theorem hx_at (t : ByteArray) (h0 : 0 < t.size) : ∀ h : 0 < t.size, ((t[0]'h).toNat : Int) = bt t 0 := bt_at t 0
set_option maxHeartbeats 4000000 in
set_option maxRecDepth 100000 in
theorem quoted_calls (g : Nat) (s : ByteArray) (w : World) (hs : s.size ≤ 140737488351232) (hI : Rd w g s) :
    Calls Tryz.prog 84 #[.pointer (some ⟨g, 0, none⟩)] w fun e w' => Gives g w encP (rdQuoted s) e w' := by
  have hI1 := Aside0.mk (hI.alloc (.cells #[.string ⟨#[]⟩, .int .i64 0, .int .i64 0, .string ⟨#[]⟩] 60))
  have hP1 := Aside0.mk (PB.new w)
  have hK1 := Aside0.mk ((KB.refl g w).alloc (.cells #[.string ⟨#[]⟩, .int .i64 0, .int .i64 0, .string ⟨#[]⟩] 60))
  have hne : w.heap.size ≠ g := by have := hI.lt; omega
  clear hI
  go_enter Tryz.func84, Tryz.ntmps84
  go_wp2
  go_loopg [3, 4] (s.size + 1) (fun gf v3 v4 wx => ∃ (t : ByteArray) (xs : List Int), Aside0 (Kd.R (Kd.int .u8) 5 wx (w.heap.size + 1) (fun _ => True) v3 xs) ∧ Aside0 (Rd wx g t) ∧ Aside0 (PB wx w.heap.size ⟨#[]⟩ 0 0 ⟨#[]⟩) ∧ Aside0 (KB g w wx) ∧ Aside0 (rdQuoted s = (qF gf t xs).map mkQ) ∧ t.size < gf ∧ xs.length + t.size ≤ s.size)
  case atStart => exact ⟨s, [], ⟨Kd.R_nil _ _ _ _ _⟩, hI1, hP1, hK1, ⟨rfl⟩, by omega, by simp⟩
  case round =>
    clear hI1 hP1 hK1
    obtain ⟨t, xs, HR, HD, HP, HK, HQ, hlt, hln⟩ := hrel
    obtain ⟨g', rfl⟩ : ∃ g', gk = g' + 1 := ⟨gk - 1, by omega⟩
    have hc := HD.out.cell
    have hf := HD.out.frozen
    have hS : w.heap.size + 1 ≤ wr.heap.size := by have := blk_lt HP.out; omega
    have hq : rdQuoted s = (qF (g' + 1) t xs).map mkQ := HQ.out
    clear HQ
    rw [qF] at hq
    by_cases h0 : 0 < t.size
    · rw [if_pos h0] at hq
      have htl := tl_lt t h0
      have n1 := (nonempty_ne t h0).1
      have n1b := (nonempty_ne t h0).2
      have hx6 := hx_at t h0
      have q6 := eq_true h0
      have qi6 : (0 < (t.size : Int)) = True := eq_true (by omega)
      have q7 : (1 ≤ (t.size : Int)) = True := eq_true (by omega)
      have q7b : (1 ≤ t.size) = True := eq_true (by omega)
      have HR2 := Aside0.mk (Kd.R_set HR.out HD.out (by decide) 0 (.string (t.extract 1 t.size)))
      have HD2 := Aside0.mk (show Rd (wr.setCell ⟨g, 0, none⟩ (.string (t.extract 1 t.size))) g (tl t) from HD.out.set (tl t))
      have HP2 := Aside0.mk (HP.out.far (p := ⟨g, 0, none⟩) hne (.string (t.extract 1 t.size)))
      have HK2 := Aside0.mk (HK.out.set 0 (.string (t.extract 1 t.size)))
      have hS2 : w.heap.size + 1 ≤ (wr.setCell ⟨g, 0, none⟩ (.string (t.extract 1 t.size))).heap.size := by simpa [World.setCell] using hS
      have hqq := hq
      clear hq
      have hcc : bt t 0 = bt t 0 := rfl
      by_cases e34 : bt t 0 = 34
      · rw [if_pos e34] at hqq
        have b34 : (bt t 0 == 34) = true := by simp [e34]
        have HG : Aside0 (rdQuoted s = some ((3, 0, strOfNums xs), tl t)) := ⟨hqq⟩
        clear hqq e34 hcc
        obtain ⟨A3, c3, hv3⟩ := Kd.R_slice HR.out
        subst hv3
        have hcv : (convert 93 9 (.slice A3 xs.length c3)).run Tryz.prog (wr.setCell ⟨g, 0, none⟩ (.string (t.extract 1 t.size))) = .ok (.string (strOfNums xs)) (wr.setCell ⟨g, 0, none⟩ (.string (t.extract 1 t.size))) := Kd.C_string Tryz.underlying93 Tryz.underlying5 Tryz.underlying9 (Kd.R_reads' HR2.out).2.2
        generalize bt t 0 = c at *
        have hp0 := HP2.out.c0
        have hp1 := HP2.out.c1
        have hp2 := HP2.out.c2
        have hp3 := HP2.out.c3
        have hf0 := HP2.out.fr 0
        have hf1 := HP2.out.fr 1
        have hf2 := HP2.out.fr 2
        have hf3 := HP2.out.fr 3
        go_wp2
        refine bodyPost_ret (results_cell_row rfl _ _ w.heap.size 60 #[.string ⟨#[]⟩, .int .i64 3, .int .i64 0, .string (strOfNums xs)] (0, 0) _ rfl (HP2.out.put ⟨#[]⟩ 3 0 (strOfNums xs)) Tryz.underlying60 rfl (by kernel_rfl)) rfl ?_
        exact Gives.ok HG.out rfl (HD2.out.put (fun e => hne e.symm) _ _ _ _) (HK2.out.put (Nat.le_refl _) _ _ _ _)
      · rw [if_neg e34] at hqq
        have b34 : (bt t 0 == 34) = false := by simp [e34]
        obtain ⟨t1, ht1⟩ : ∃ t1, tl t = t1 := ⟨_, rfl⟩
        have ht1' : t.extract 1 t.size = t1 := ht1
        rw [ht1] at hqq htl HD2
        rw [ht1'] at HR2 HD2 HP2 HK2 hS2
        clear e34 hcc
        by_cases e1 : bt t 0 < 32
        · rw [if_pos (Or.inl e1)] at hqq
          have HG : Aside0 (rdQuoted s = none) := ⟨hqq⟩
          have d1 : decide (bt t 0 < 32) = true := decide_eq_true e1
          clear hqq e1
          generalize bt t 0 = c at *
          go_wp2_with (first | (go_at_call 77; refine (fail_calls _ _).mono ?_; rintro e w' ⟨rfl, rfl⟩))
          exact ⟨rfl, Gives.dead HG.out HK2.out⟩
        · have d1 : decide (bt t 0 < 32) = false := decide_eq_false e1
          by_cases e2 : 126 < bt t 0
          · rw [if_pos (Or.inr (Or.inl e2))] at hqq
            have HG : Aside0 (rdQuoted s = none) := ⟨hqq⟩
            have d2 : decide (126 < bt t 0) = true := decide_eq_true e2
            clear hqq e1 e2
            generalize bt t 0 = c at *
            go_wp2_with (first | (go_at_call 77; refine (fail_calls _ _).mono ?_; rintro e w' ⟨rfl, rfl⟩))
            exact ⟨rfl, Gives.dead HG.out HK2.out⟩
          · have d2 : decide (126 < bt t 0) = false := decide_eq_false e2
            by_cases e3 : bt t 0 = 92
            · have d3 : (bt t 0 == 92) = true := by simp [e3]
              by_cases e4 : 0 < t1.size
              · have n2 := (nonempty_ne t1 e4).1
                have hx7 := hx_at t1 e4
                have q8 := eq_true e4
                have qi8 : (0 < (t1.size : Int)) = True := eq_true (by omega)
                have q9 : (1 ≤ (t1.size : Int)) = True := eq_true (by omega)
                have q9b : (1 ≤ t1.size) = True := eq_true (by omega)
                have htl2 := tl_lt t1 e4
                cases e5 : wiP (bt t1 0) ⟨#[34, 92]⟩ with
                | false =>
                  rw [if_pos (Or.inr (Or.inr ⟨e3, fun h => by rw [e5] at h; exact absurd h.2 (by decide)⟩))] at hqq
                  have HG : Aside0 (rdQuoted s = none) := ⟨hqq⟩
                  have hwi := fun W => asks_within (bt t1 0) ⟨#[34, 92]⟩ W
                  rw [e5] at hwi
                  clear hqq e1 e2 e3 e5
                  generalize bt t 0 = c at *
                  generalize bt t1 0 = c1 at *
                  go_wp2_with (first | (go_at_call 70; refine (hwi _).mono ?_; rintro e w' ⟨rfl, ⟨q, rfl⟩⟩) | (go_at_call 77; refine (fail_calls _ _).mono ?_; rintro e w' ⟨rfl, rfl⟩))
                  exact ⟨rfl, Gives.dead HG.out (HK2.out.drewN _)⟩
                | true =>
                  rw [if_neg (fun h => h.elim e1 (fun h => h.elim e2 (fun h => h.2 ⟨e4, e5⟩))), if_pos e3] at hqq
                  have hwi := fun W => asks_within (bt t1 0) ⟨#[34, 92]⟩ W
                  rw [e5] at hwi
                  obtain ⟨t2, ht2⟩ : ∃ t2, tl t1 = t2 := ⟨_, rfl⟩
                  have ht2' : t1.extract 1 t1.size = t2 := ht2
                  rw [ht2] at hqq htl2
                  have HG := Aside0.mk hqq
                  clear hqq e1 e2 e3 e5
                  generalize bt t 0 = c at *
                  generalize bt t1 0 = c1 at *
                  go_upto_region 12 with (first | (go_at_call 70; refine (hwi _).mono ?_; rintro e w' ⟨rfl, ⟨q, rfl⟩⟩))
                  have HRq := Aside0.mk (Kd.R_set (Kd.R_drewN HR2.out q) (HD2.out.drewN q) (by decide) 0 (.string t2))
                  have HDq := Aside0.mk ((HD2.out.drewN q).set t2)
                  have HPq := Aside0.mk ((HP2.out.drewN q).far (p := ⟨g, 0, none⟩) hne (.string t2))
                  have HKq := Aside0.mk ((HK2.out.drewN q).set 0 (.string t2))
                  have hSq : w.heap.size + 1 ≤ (((wr.setCell ⟨g, 0, none⟩ (.string t1)).drewN q).setCell ⟨g, 0, none⟩ (.string t2)).heap.size := by simpa [World.setCell] using hS
                  clear HR2 HD2 HP2 HK2 hS2 HR HD HP HK hc hf
                  generalize ((wr.setCell ⟨g, 0, none⟩ (.string t1)).drewN q).setCell ⟨g, 0, none⟩ (.string t2) = w9 at *
                  go_wp2_with (first | ((with_reducible refine gate_builtin (b := .append) (xs := #[.tmp 74, .tmp 76]) rfl ?_); at_builtin; refine Kd.R_append (Kd.int .u8) (w0 := w9) (w.heap.size + 1) rfl (.tmp 74) (.tmp 76) 93 5 (.int .u8 0) 1 rfl Tryz.underlying93 (by kernel_rfl) rfl (by decide) (by omega) u3 xs c1 [.int .u8 c1] (fun _ => True) (fun _ => False) rfl rfl ?aP (fun _ hk => hk.elim) ?aF ?aO ?aB ?aS ?aL ?_; (case aP => exact rfl); (case aF => exact (fun _ _ => trivial)); (case aO => exact HRq.out); (case aB => exact Below.refl _ _); (case aS => exact hSq); (case aL => omega); intro v1 w1 ho1 hb1 hg1 hat1; have hR1 : Rd w1 g _ := blk_grown HDq.out hg1 (Kd.R_ne HRq.out HDq.out (by decide)); have hP1 : PB w1 w.heap.size ⟨#[]⟩ 0 0 ⟨#[]⟩ := blk_grown HPq.out hg1 (Kd.R_ne HRq.out HPq.out (by decide)); have hK1 := HKq.out.belowB hb1 (by omega); have HO1 := Aside0.mk ho1; have HR1 := Aside0.mk hR1; have HP1 := Aside0.mk hP1; have HK1 := Aside0.mk hK1; clear ho1 hb1 hg1 hat1 hR1 hP1 hK1))
                  go_roundg g'
                  case measure => omega
                  case rel => exact ⟨t2, xs ++ [c1], HO1, HR1, HP1, HK1, HG, by omega, by simp only [List.length_append, List.length_cons, List.length_nil]; omega⟩
              · rw [if_pos (Or.inr (Or.inr ⟨e3, fun h => e4 h.1⟩))] at hqq
                have HG : Aside0 (rdQuoted s = none) := ⟨hqq⟩
                have n2 := (empty_eq t1 e4).1
                clear hqq e1 e2 e3
                generalize bt t 0 = c at *
                go_wp2_with (first | (go_at_call 77; refine (fail_calls _ _).mono ?_; rintro e w' ⟨rfl, rfl⟩))
                exact ⟨rfl, Gives.dead HG.out HK2.out⟩
            · have d3 : (bt t 0 == 92) = false := by simp [e3]
              rw [if_neg (fun h => h.elim e1 (fun h => h.elim e2 (fun h => e3 h.1))), if_neg e3] at hqq
              have HG := Aside0.mk hqq
              clear hqq e1 e2 e3
              generalize bt t 0 = c at *
              go_upto_region 12 with (fail)
              have HRq := HR2
              have HDq := HD2
              have HPq := HP2
              have HKq := HK2
              have hSq := hS2
              clear HR2 HD2 HP2 HK2 hS2 HR HD HP HK hc hf
              generalize wr.setCell ⟨g, 0, none⟩ (.string t1) = w9 at *
              go_wp2_with (first | ((with_reducible refine gate_builtin (b := .append) (xs := #[.tmp 74, .tmp 76]) rfl ?_); at_builtin; refine Kd.R_append (Kd.int .u8) (w0 := w9) (w.heap.size + 1) rfl (.tmp 74) (.tmp 76) 93 5 (.int .u8 0) 1 rfl Tryz.underlying93 (by kernel_rfl) rfl (by decide) (by omega) u3 xs c [.int .u8 c] (fun _ => True) (fun _ => False) rfl rfl ?aP (fun _ hk => hk.elim) ?aF ?aO ?aB ?aS ?aL ?_; (case aP => exact rfl); (case aF => exact (fun _ _ => trivial)); (case aO => exact HRq.out); (case aB => exact Below.refl _ _); (case aS => exact hSq); (case aL => omega); intro v1 w1 ho1 hb1 hg1 hat1; have hR1 : Rd w1 g _ := blk_grown HDq.out hg1 (Kd.R_ne HRq.out HDq.out (by decide)); have hP1 : PB w1 w.heap.size ⟨#[]⟩ 0 0 ⟨#[]⟩ := blk_grown HPq.out hg1 (Kd.R_ne HRq.out HPq.out (by decide)); have hK1 := HKq.out.belowB hb1 (by omega); have HO1 := Aside0.mk ho1; have HR1 := Aside0.mk hR1; have HP1 := Aside0.mk hP1; have HK1 := Aside0.mk hK1; clear ho1 hb1 hg1 hat1 hR1 hP1 hK1))
              go_roundg g'
              case measure => omega
              case rel => exact ⟨t1, xs ++ [c], HO1, HR1, HP1, HK1, HG, by omega, by simp only [List.length_append, List.length_cons, List.length_nil]; omega⟩
    · rw [if_neg h0] at hq
      have HG : Aside0 (rdQuoted s = none) := ⟨hq⟩
      have n1 := (empty_eq t h0).1
      have n1b := (empty_eq t h0).2
      clear hq
      go_wp2_with (first | (go_at_call 77; refine (fail_calls _ _).mono ?_; rintro e w' ⟨rfl, rfl⟩))
      exact ⟨rfl, Gives.dead HG.out HK.out⟩
end Go.Proofs.YtjdbiicjfpgjkaaGreatDoor.Sf
/- The value that a text begins with. -/
set_option linter.unusedVariables false
set_option linter.unusedSimpArgs false
namespace Go.Proofs.YtjdbiicjfpgjkaaGreatDoor.Sf
open Go.RowKit Go.Proofs.YtjdbiicjfpgjkaaGreatDoorW.PrintWords Go.Proofs.YtjdbiicjfpgjkaaGreatDoorW.PrintLast Go.Proofs.YtjdbiicjfpgjkaaGreatDoorW.PrintMore
/-- The value that a text begins with. -/
def rdBytes (t : ByteArray) : Option ((Int × Int × ByteArray) × ByteArray) := if atF (drpB baP t) 58 = true then some ((5, 0, takB baP t), tl (drpB baP t)) else none
def rdBool (t : ByteArray) : Option ((Int × Int × ByteArray) × ByteArray) := if atF t 49 = true then some ((6, 1, ⟨#[]⟩), tl t) else if atF t 48 = true then some ((6, 0, ⟨#[]⟩), tl t) else none
def rdValue (s : ByteArray) : Option ((Int × Int × ByteArray) × ByteArray) :=
  if 0 < s.size then
    if bt s 0 = 45 ∨ dgP (bt s 0) = true then rdNumber s
    else if leP (bt s 0) = true ∨ bt s 0 = 42 then some ((4, 0, takB tokP s), drpB tokP s)
    else if bt s 0 = 34 then rdQuoted (tl s)
    else if bt s 0 = 58 then rdBytes (tl s)
    else if bt s 0 = 63 then rdBool (tl s) else none
  else none
theorem PB.mk_new (W : World) (n i : Int) (t : ByteArray) : PB (W.alloc (.cells #[.string ⟨#[]⟩, .int .i64 n, .int .i64 i, .string t] 60)) W.heap.size ⟨#[]⟩ n i t := by have := blk_new W (.cells #[.string ⟨#[]⟩, .int .i64 n, .int .i64 i, .string t] 60); simpa [PB] using this
theorem gp {g : Nat} {W w' : World} {k i : Int} {tx t : ByteArray} {e : Ending} (h : Gives g W encP (some ((k, i, tx), t)) e w') : (e = .returned (.agg #[.string ⟨#[]⟩, .int .i64 k, .int .i64 i, .string tx]) ∧ Rd w' g t) ∧ KB g W w' := h
theorem while_tokens (g : Nat) (s : ByteArray) (w : World) (hs : s.size ≤ 9223372036854775806) (hI : Rd w g s) :
    Calls Tryz.prog 81 #[.pointer (some ⟨g, 0, none⟩), .func (.func 82) #[] #[]] w fun e w' => e = .returned (.string (takB tokP s)) ∧ Rd w' g (drpB tokP s) ∧ KB g w w' := while_calls 82 tokP asks_tokens (Go.Proofs.enters_of Tryz.func82 (by kernel_rfl) rfl) g s w hs hI
theorem while_base (g : Nat) (s : ByteArray) (w : World) (hs : s.size ≤ 9223372036854775806) (hI : Rd w g s) :
    Calls Tryz.prog 81 #[.pointer (some ⟨g, 0, none⟩), .func (.func 85) #[] #[]] w fun e w' => e = .returned (.string (takB baP s)) ∧ Rd w' g (drpB baP s) ∧ KB g w w' := while_calls 85 baP asks_base (Go.Proofs.enters_of Tryz.func85 (by kernel_rfl) rfl) g s w hs hI
theorem at_no (g : Nat) (s : ByteArray) (c : Int) (h : atF s c = false) (w : World) (hI : Rd w g s) :
    Calls Tryz.prog 83 #[.pointer (some ⟨g, 0, none⟩), .int .u8 c] w fun e w' => e = .returned (.bool false) ∧ Rd w' g s ∧ KB g w w' := by
  have := at_calls g s c w hI
  rwa [h, show atR s c = s from if_neg (by rw [h]; decide)] at this
theorem at_yes (g : Nat) (s : ByteArray) (c : Int) (h : atF s c = true) (w : World) (hI : Rd w g s) :
    Calls Tryz.prog 83 #[.pointer (some ⟨g, 0, none⟩), .int .u8 c] w fun e w' => e = .returned (.bool true) ∧ Rd w' g (tl s) ∧ KB g w w' := by
  have := at_calls g s c w hI
  rwa [h, show atR s c = tl s from if_pos h] at this
theorem atF_ne (s : ByteArray) (c : Int) (h : ¬ bt s 0 = c) : atF s c = false := decide_eq_false (fun h' => h h'.2)
theorem atF_yes (s : ByteArray) (c : Int) (h0 : 0 < s.size) (h : bt s 0 = c) : atF s c = true := decide_eq_true ⟨h0, h⟩
set_option maxHeartbeats 8000000 in
set_option maxRecDepth 100000 in
theorem value_calls (g : Nat) (s : ByteArray) (w : World) (hs : s.size ≤ 140737488351232) (hI : Rd w g s) :
    Calls Tryz.prog 50 #[.pointer (some ⟨g, 0, none⟩)] w fun e w' => Gives g w encP (rdValue s) e w' := by
  have hI1 := Aside0.mk (hI.alloc (.cells #[.string ⟨#[]⟩, .int .i64 0, .int .i64 0, .string ⟨#[]⟩] 60))
  have hP1 := Aside0.mk (PB.new w)
  have hK1 := Aside0.mk ((KB.refl g w).alloc (.cells #[.string ⟨#[]⟩, .int .i64 0, .int .i64 0, .string ⟨#[]⟩] 60))
  have hne : w.heap.size ≠ g := by have := hI.lt; omega
  have hcI := hI1.out.cell
  have hfI := hI1.out.frozen
  clear hI
  have hzt : (tl s).size ≤ 140737488351232 := Nat.le_trans (tl_size s) hs
  generalize hW1 : w.alloc (.cells #[.string ⟨#[]⟩, .int .i64 0, .int .i64 0, .string ⟨#[]⟩] 60) = wa at *
  have hV : rdValue s = rdValue s := rfl
  conv at hV => rhs; unfold rdValue
  by_cases h0 : 0 < s.size
  · rw [if_pos h0] at hV
    obtain ⟨n1, n1b⟩ := nonempty_ne s h0
    have hx6 := hx_at s h0
    have q6 := eq_true h0
    have qi6 : (0 < (s.size : Int)) = True := eq_true (by omega)
    by_cases e45 : bt s 0 = 45
    · rw [if_pos (Or.inl e45)] at hV
      have b45 : (bt s 0 == 45) = true := by simp [e45]
      clear e45
      have hNc := fun W (h : Rd W g s) => number_calls g s W (Nat.le_trans hs (by decide)) h
      cases hN : rdNumber s with
      | none =>
        rw [hN] at hNc hV
        have hNu := Aside0.mk hNc
        have hG := Aside0.mk hV
        clear hNc hV hN
        generalize bt s 0 = c at *
        go_enter Tryz.func50, Tryz.ntmps50
        go_wp2_with (first | (go_at_call 79; refine (hNu.out _ (hI1.out)).mono ?_; rintro e w5 ⟨rfl, hB5⟩) | (go_at_call 78; refine (hdg _).mono ?_; rintro e w' ⟨rfl, ⟨q, rfl⟩⟩))
        exact ⟨rfl, Gives.dead hG.out ((hK1.out).trans hB5)⟩
      | some y =>
        obtain ⟨⟨k, i, tx⟩, rest⟩ := y
        rw [hN] at hNc hV
        have hNu := Aside0.mk hNc
        have hG := Aside0.mk hV
        clear hNc hV hN
        generalize bt s 0 = c at *
        go_enter Tryz.func50, Tryz.ntmps50
        go_wp2_with (first | (go_at_call 79; refine ((hNu.out _ (hI1.out)).mono (fun e w' h => gp h)).mono ?_; rintro e w5 ⟨⟨rfl, hR5⟩, hB5⟩; have hP5 := (hP1.out).kb hB5 hne; have hp0 := hP5.c0; have hp1 := hP5.c1; have hp2 := hP5.c2; have hp3 := hP5.c3; have hf0 := hP5.fr 0; have hf1 := hP5.fr 1; have hf2 := hP5.fr 2; have hf3 := hP5.fr 3) | (go_at_call 78; refine (hdg _).mono ?_; rintro e w' ⟨rfl, ⟨q, rfl⟩⟩))
        refine bodyPost_ret (results_cell_row rfl _ _ w.heap.size 60 #[.string ⟨#[]⟩, .int .i64 k, .int .i64 i, .string tx] (0, 0) _ rfl (hP5.put ⟨#[]⟩ k i tx) Tryz.underlying60 rfl (by kernel_rfl)) rfl ?_
        exact Gives.ok hG.out rfl (hR5.put (fun e => hne e.symm) _ _ _ _) (((hK1.out).trans hB5).put (Nat.le_refl _) _ _ _ _)
    · have b45 : (bt s 0 == 45) = false := by simp [e45]
      have hdg := fun W => asks_digit (bt s 0) W
      cases edg : dgP (bt s 0) with
      | true =>
        rw [if_pos (Or.inr edg)] at hV
        rw [edg] at hdg
        clear e45 edg
        have hNc := fun W (h : Rd W g s) => number_calls g s W (Nat.le_trans hs (by decide)) h
        cases hN : rdNumber s with
        | none =>
          rw [hN] at hNc hV
          have hNu := Aside0.mk hNc
          have hG := Aside0.mk hV
          clear hNc hV hN
          generalize bt s 0 = c at *
          go_enter Tryz.func50, Tryz.ntmps50
          go_wp2_with (first | (go_at_call 79; refine (hNu.out _ (hI1.out.drewN _)).mono ?_; rintro e w5 ⟨rfl, hB5⟩) | (go_at_call 78; refine (hdg _).mono ?_; rintro e w' ⟨rfl, ⟨q, rfl⟩⟩))
          exact ⟨rfl, Gives.dead hG.out ((hK1.out.drewN _).trans hB5)⟩
        | some y =>
          obtain ⟨⟨k, i, tx⟩, rest⟩ := y
          rw [hN] at hNc hV
          have hNu := Aside0.mk hNc
          have hG := Aside0.mk hV
          clear hNc hV hN
          generalize bt s 0 = c at *
          go_enter Tryz.func50, Tryz.ntmps50
          go_wp2_with (first | (go_at_call 79; refine ((hNu.out _ (hI1.out.drewN _)).mono (fun e w' h => gp h)).mono ?_; rintro e w5 ⟨⟨rfl, hR5⟩, hB5⟩; have hP5 := (hP1.out.drewN _).kb hB5 hne; have hp0 := hP5.c0; have hp1 := hP5.c1; have hp2 := hP5.c2; have hp3 := hP5.c3; have hf0 := hP5.fr 0; have hf1 := hP5.fr 1; have hf2 := hP5.fr 2; have hf3 := hP5.fr 3) | (go_at_call 78; refine (hdg _).mono ?_; rintro e w' ⟨rfl, ⟨q, rfl⟩⟩))
          refine bodyPost_ret (results_cell_row rfl _ _ w.heap.size 60 #[.string ⟨#[]⟩, .int .i64 k, .int .i64 i, .string tx] (0, 0) _ rfl (hP5.put ⟨#[]⟩ k i tx) Tryz.underlying60 rfl (by kernel_rfl)) rfl ?_
          exact Gives.ok hG.out rfl (hR5.put (fun e => hne e.symm) _ _ _ _) (((hK1.out.drewN _).trans hB5).put (Nat.le_refl _) _ _ _ _)
      | false =>
        rw [if_neg (fun h => h.elim e45 (fun h => by rw [edg] at h; exact absurd h (by decide)))] at hV
        rw [edg] at hdg
        have hle := fun W => asks_letter (bt s 0) W
        have hWt := Aside0.mk (fun W (h : Rd W g s) => while_tokens g s W (Nat.le_trans hs (by decide)) h)
        cases ele : leP (bt s 0) with
        | true =>
          rw [if_pos (Or.inl ele)] at hV
          rw [ele] at hle
          have hG := Aside0.mk hV
          clear hV e45 edg ele
          generalize bt s 0 = c at *
          go_enter Tryz.func50, Tryz.ntmps50
          go_wp2_with (first | (go_at_call 81; refine (hWt.out _ (hI1.out.drewN _)).mono ?_; rintro e w5 ⟨rfl, hR5, hB5⟩; have hP5 := (hP1.out.drewN _).kb hB5 hne; have hp0 := hP5.c0; have hp1 := hP5.c1; have hp2 := hP5.c2; have hp3 := hP5.c3; have hf0 := hP5.fr 0; have hf1 := hP5.fr 1; have hf2 := hP5.fr 2; have hf3 := hP5.fr 3) | (go_at_call 80; refine (hle _).mono ?_; rintro e w' ⟨rfl, ⟨q2, rfl⟩⟩) | (go_at_call 78; refine (hdg _).mono ?_; rintro e w' ⟨rfl, ⟨q, rfl⟩⟩))
          refine bodyPost_ret (results_cell_row rfl _ _ w.heap.size 60 #[.string ⟨#[]⟩, .int .i64 4, .int .i64 0, .string (takB tokP s)] (0, 0) _ rfl (hP5.put ⟨#[]⟩ 4 0 (takB tokP s)) Tryz.underlying60 rfl (by kernel_rfl)) rfl ?_
          exact Gives.ok hG.out rfl (hR5.put (fun e => hne e.symm) _ _ _ _) (((hK1.out.drewN _).trans hB5).put (Nat.le_refl _) _ _ _ _)
        | false =>
          rw [ele] at hle
          by_cases e42 : bt s 0 = 42
          · rw [if_pos (Or.inr e42)] at hV
            have b42 : (bt s 0 == 42) = true := by simp [e42]
            have hG := Aside0.mk hV
            clear hV e45 edg ele e42
            generalize bt s 0 = c at *
            go_enter Tryz.func50, Tryz.ntmps50
            go_wp2_with (first | (go_at_call 81; refine (hWt.out _ (hI1.out.drewN _)).mono ?_; rintro e w5 ⟨rfl, hR5, hB5⟩; have hP5 := (hP1.out.drewN _).kb hB5 hne; have hp0 := hP5.c0; have hp1 := hP5.c1; have hp2 := hP5.c2; have hp3 := hP5.c3; have hf0 := hP5.fr 0; have hf1 := hP5.fr 1; have hf2 := hP5.fr 2; have hf3 := hP5.fr 3) | (go_at_call 80; refine (hle _).mono ?_; rintro e w' ⟨rfl, ⟨q2, rfl⟩⟩) | (go_at_call 78; refine (hdg _).mono ?_; rintro e w' ⟨rfl, ⟨q, rfl⟩⟩))
            refine bodyPost_ret (results_cell_row rfl _ _ w.heap.size 60 #[.string ⟨#[]⟩, .int .i64 4, .int .i64 0, .string (takB tokP s)] (0, 0) _ rfl (hP5.put ⟨#[]⟩ 4 0 (takB tokP s)) Tryz.underlying60 rfl (by kernel_rfl)) rfl ?_
            exact Gives.ok hG.out rfl (hR5.put (fun e => hne e.symm) _ _ _ _) (((hK1.out.drewN _).trans hB5).put (Nat.le_refl _) _ _ _ _)
          · rw [if_neg (fun h => h.elim (fun h => by rw [ele] at h; exact absurd h (by decide)) e42)] at hV
            have b42 : (bt s 0 == 42) = false := by simp [e42]
            clear hWt
            by_cases e34 : bt s 0 = 34
            · rw [if_pos e34] at hV
              have hA34 := Aside0.mk (at_yes g s 34 (atF_yes s 34 h0 e34))
              have hQc := fun W (h : Rd W g (tl s)) => quoted_calls g (tl s) W hzt h
              cases hN : rdQuoted (tl s) with
              | none =>
                rw [hN] at hQc hV
                have hQu := Aside0.mk hQc
                have hG := Aside0.mk hV
                clear hQc hV hN e45 edg ele e42 e34
                generalize bt s 0 = c at *
                go_enter Tryz.func50, Tryz.ntmps50
                go_wp2_with (first | (go_at_call 84; refine (hQu.out _ hR5).mono ?_; rintro e w6 ⟨rfl, hB6⟩) | (go_at_call 83; refine (hA34.out _ (hI1.out.drewN _)).mono ?_; rintro e w5 ⟨rfl, hR5, hB5⟩) | (go_at_call 80; refine (hle _).mono ?_; rintro e w' ⟨rfl, ⟨q2, rfl⟩⟩) | (go_at_call 78; refine (hdg _).mono ?_; rintro e w' ⟨rfl, ⟨q, rfl⟩⟩))
                exact ⟨rfl, Gives.dead hG.out (((hK1.out.drewN _).trans hB5).trans hB6)⟩
              | some y =>
                obtain ⟨⟨k, i, tx⟩, rest⟩ := y
                rw [hN] at hQc hV
                have hQu := Aside0.mk hQc
                have hG := Aside0.mk hV
                clear hQc hV hN e45 edg ele e42 e34
                generalize bt s 0 = c at *
                go_enter Tryz.func50, Tryz.ntmps50
                go_wp2_with (first | (go_at_call 84; refine ((hQu.out _ hR5).mono (fun e w' h => gp h)).mono ?_; rintro e w6 ⟨⟨rfl, hR6⟩, hB6⟩; have hP6 := ((hP1.out.drewN _).kb hB5 hne).kb hB6 hne; have hp0 := hP6.c0; have hp1 := hP6.c1; have hp2 := hP6.c2; have hp3 := hP6.c3; have hf0 := hP6.fr 0; have hf1 := hP6.fr 1; have hf2 := hP6.fr 2; have hf3 := hP6.fr 3) | (go_at_call 83; refine (hA34.out _ (hI1.out.drewN _)).mono ?_; rintro e w5 ⟨rfl, hR5, hB5⟩) | (go_at_call 80; refine (hle _).mono ?_; rintro e w' ⟨rfl, ⟨q2, rfl⟩⟩) | (go_at_call 78; refine (hdg _).mono ?_; rintro e w' ⟨rfl, ⟨q, rfl⟩⟩))
                refine bodyPost_ret (results_cell_row rfl _ _ w.heap.size 60 #[.string ⟨#[]⟩, .int .i64 k, .int .i64 i, .string tx] (0, 0) _ rfl (hP6.put ⟨#[]⟩ k i tx) Tryz.underlying60 rfl (by kernel_rfl)) rfl ?_
                exact Gives.ok hG.out rfl (hR6.put (fun e => hne e.symm) _ _ _ _) ((((hK1.out.drewN _).trans hB5).trans hB6).put (Nat.le_refl _) _ _ _ _)
            · rw [if_neg e34] at hV
              have hA34 := Aside0.mk (at_no g s 34 (atF_ne s 34 e34))
              by_cases e58 : bt s 0 = 58
              · rw [if_pos e58] at hV
                have hA58 := Aside0.mk (at_yes g s 58 (atF_yes s 58 h0 e58))
                have hWb := Aside0.mk (fun W (h : Rd W g (tl s)) => while_base g (tl s) W (Nat.le_trans hzt (by decide)) h)
                unfold rdBytes at hV
                cases hE : atF (drpB baP (tl s)) 58 with
                | false =>
                  rw [if_neg (by rw [hE]; decide)] at hV
                  have hG := Aside0.mk hV
                  have hA3 := Aside0.mk (at_no g _ 58 hE)
                  clear hV e45 edg ele e42 e34 e58 hE
                  generalize bt s 0 = c at *
                  go_enter Tryz.func50, Tryz.ntmps50
                  go_wp2_with (first | (go_at_call 77; refine (fail_calls _ _).mono ?_; rintro e w' ⟨rfl, rfl⟩) | (go_at_call 83; refine (hA3.out _ (hR7.alloc _)).mono ?_; rintro e w8 ⟨rfl, hR8, hB8⟩) | (go_at_call 81; refine (hWb.out _ hR6).mono ?_; rintro e w7 ⟨rfl, hR7, hB7⟩) | (go_at_call 83; refine (hA58.out _ hR5).mono ?_; rintro e w6 ⟨rfl, hR6, hB6⟩) | (go_at_call 83; refine (hA34.out _ (hI1.out.drewN _)).mono ?_; rintro e w5 ⟨rfl, hR5, hB5⟩) | (go_at_call 80; refine (hle _).mono ?_; rintro e w' ⟨rfl, ⟨q2, rfl⟩⟩) | (go_at_call 78; refine (hdg _).mono ?_; rintro e w' ⟨rfl, ⟨q, rfl⟩⟩))
                  exact ⟨rfl, Gives.dead hG.out (((((((hK1.out.drewN _).trans hB5).trans hB6).trans hB7).alloc _).trans hB8))⟩
                | true =>
                  rw [if_pos hE] at hV
                  have hG := Aside0.mk hV
                  have hA3 := Aside0.mk (at_yes g _ 58 hE)
                  clear hV e45 edg ele e42 e34 e58 hE
                  generalize bt s 0 = c at *
                  go_enter Tryz.func50, Tryz.ntmps50
                  go_wp2_with (first | (go_at_call 83; refine (hA3.out _ (hR7.alloc _)).mono ?_; rintro e w8 ⟨rfl, hR8, hB8⟩; have hP8 := (((((hP1.out.drewN _).kb hB5 hne).kb hB6 hne).kb hB7 hne).alloc _).kb hB8 hne; have hQ8 := (PB.mk_new w7 5 0 (takB baP (tl s))).kb hB8 (fun e => absurd (hR7.lt) (by omega)); have hp0 := hP8.c0; have hp1 := hP8.c1; have hp2 := hP8.c2; have hp3 := hP8.c3; have hf0 := hP8.fr 0; have hf1 := hP8.fr 1; have hf2 := hP8.fr 2; have hf3 := hP8.fr 3; have hq0 := hQ8.c0; have hq1 := hQ8.c1; have hq2 := hQ8.c2; have hq3 := hQ8.c3) | (go_at_call 81; refine (hWb.out _ hR6).mono ?_; rintro e w7 ⟨rfl, hR7, hB7⟩) | (go_at_call 83; refine (hA58.out _ hR5).mono ?_; rintro e w6 ⟨rfl, hR6, hB6⟩) | (go_at_call 83; refine (hA34.out _ (hI1.out.drewN _)).mono ?_; rintro e w5 ⟨rfl, hR5, hB5⟩) | (go_at_call 80; refine (hle _).mono ?_; rintro e w' ⟨rfl, ⟨q2, rfl⟩⟩) | (go_at_call 78; refine (hdg _).mono ?_; rintro e w' ⟨rfl, ⟨q, rfl⟩⟩))
                  refine bodyPost_ret (results_cell_row rfl _ _ w.heap.size 60 #[.string ⟨#[]⟩, .int .i64 5, .int .i64 0, .string (takB baP (tl s))] (0, 0) _ rfl (hP8.put ⟨#[]⟩ 5 0 (takB baP (tl s))) Tryz.underlying60 rfl (by kernel_rfl)) rfl ?_
                  exact Gives.ok hG.out rfl (hR8.put (fun e => hne e.symm) _ _ _ _) ((((((((hK1.out.drewN _).trans hB5).trans hB6).trans hB7).alloc _).trans hB8)).put (Nat.le_refl _) _ _ _ _)
              · rw [if_neg e58] at hV
                have hA58 := Aside0.mk (at_no g s 58 (atF_ne s 58 e58))
                by_cases e63 : bt s 0 = 63
                · rw [if_pos e63] at hV
                  have hA63 := Aside0.mk (at_yes g s 63 (atF_yes s 63 h0 e63))
                  unfold rdBool at hV
                  cases hE : atF (tl s) 49 with
                  | true =>
                    rw [if_pos hE] at hV
                    have hG := Aside0.mk hV
                    have hA3 := Aside0.mk (at_yes g _ 49 hE)
                    clear hV e45 edg ele e42 e34 e58 e63 hE
                    generalize bt s 0 = c at *
                    go_enter Tryz.func50, Tryz.ntmps50
                    go_wp2_with (first | (go_at_call 83; refine (hA3.out _ hR7).mono ?_; rintro e w8 ⟨rfl, hR8, hB8⟩; have hP8 := (((((hP1.out.drewN _).kb hB5 hne).kb hB6 hne).kb hB7 hne).kb hB8 hne); have hp0 := hP8.c0; have hp1 := hP8.c1; have hp2 := hP8.c2; have hp3 := hP8.c3; have hf0 := hP8.fr 0; have hf1 := hP8.fr 1; have hf2 := hP8.fr 2; have hf3 := hP8.fr 3) | (go_at_call 83; refine (hA63.out _ hR6).mono ?_; rintro e w7 ⟨rfl, hR7, hB7⟩) | (go_at_call 83; refine (hA58.out _ hR5).mono ?_; rintro e w6 ⟨rfl, hR6, hB6⟩) | (go_at_call 83; refine (hA34.out _ (hI1.out.drewN _)).mono ?_; rintro e w5 ⟨rfl, hR5, hB5⟩) | (go_at_call 80; refine (hle _).mono ?_; rintro e w' ⟨rfl, ⟨q2, rfl⟩⟩) | (go_at_call 78; refine (hdg _).mono ?_; rintro e w' ⟨rfl, ⟨q, rfl⟩⟩))
                    refine bodyPost_ret (results_cell_row rfl _ _ w.heap.size 60 #[.string ⟨#[]⟩, .int .i64 6, .int .i64 1, .string ⟨#[]⟩] (0, 0) _ rfl (hP8.put ⟨#[]⟩ 6 1 ⟨#[]⟩) Tryz.underlying60 rfl (by kernel_rfl)) rfl ?_
                    exact Gives.ok hG.out rfl (hR8.put (fun e => hne e.symm) _ _ _ _) ((((((hK1.out.drewN _).trans hB5).trans hB6).trans hB7).trans hB8).put (Nat.le_refl _) _ _ _ _)
                  | false =>
                    rw [if_neg (by rw [hE]; decide)] at hV
                    have hA3 := Aside0.mk (at_no g _ 49 hE)
                    cases hF : atF (tl s) 48 with
                    | true =>
                      rw [if_pos hF] at hV
                      have hG := Aside0.mk hV
                      have hA4 := Aside0.mk (at_yes g _ 48 hF)
                      clear hV e45 edg ele e42 e34 e58 e63 hE hF
                      generalize bt s 0 = c at *
                      go_enter Tryz.func50, Tryz.ntmps50
                      go_wp2_with (first | (go_at_call 83; refine (hA4.out _ hR8).mono ?_; rintro e w9 ⟨rfl, hR9, hB9⟩; have hP9 := ((((((hP1.out.drewN _).kb hB5 hne).kb hB6 hne).kb hB7 hne).kb hB8 hne).kb hB9 hne); have hp0 := hP9.c0; have hp1 := hP9.c1; have hp2 := hP9.c2; have hp3 := hP9.c3; have hf0 := hP9.fr 0; have hf1 := hP9.fr 1; have hf2 := hP9.fr 2; have hf3 := hP9.fr 3) | (go_at_call 83; refine (hA3.out _ hR7).mono ?_; rintro e w8 ⟨rfl, hR8, hB8⟩) | (go_at_call 83; refine (hA63.out _ hR6).mono ?_; rintro e w7 ⟨rfl, hR7, hB7⟩) | (go_at_call 83; refine (hA58.out _ hR5).mono ?_; rintro e w6 ⟨rfl, hR6, hB6⟩) | (go_at_call 83; refine (hA34.out _ (hI1.out.drewN _)).mono ?_; rintro e w5 ⟨rfl, hR5, hB5⟩) | (go_at_call 80; refine (hle _).mono ?_; rintro e w' ⟨rfl, ⟨q2, rfl⟩⟩) | (go_at_call 78; refine (hdg _).mono ?_; rintro e w' ⟨rfl, ⟨q, rfl⟩⟩))
                      refine bodyPost_ret (results_cell_row rfl _ _ w.heap.size 60 #[.string ⟨#[]⟩, .int .i64 6, .int .i64 0, .string ⟨#[]⟩] (0, 0) _ rfl (hP9.put ⟨#[]⟩ 6 0 ⟨#[]⟩) Tryz.underlying60 rfl (by kernel_rfl)) rfl ?_
                      exact Gives.ok hG.out rfl (hR9.put (fun e => hne e.symm) _ _ _ _) (((((((hK1.out.drewN _).trans hB5).trans hB6).trans hB7).trans hB8).trans hB9).put (Nat.le_refl _) _ _ _ _)
                    | false =>
                      rw [if_neg (by rw [hF]; decide)] at hV
                      have hG := Aside0.mk hV
                      have hA4 := Aside0.mk (at_no g _ 48 hF)
                      clear hV e45 edg ele e42 e34 e58 e63 hE hF
                      generalize bt s 0 = c at *
                      go_enter Tryz.func50, Tryz.ntmps50
                      go_wp2_with (first | (go_at_call 77; refine (fail_calls _ _).mono ?_; rintro e w' ⟨rfl, rfl⟩) | (go_at_call 83; refine (hA4.out _ hR8).mono ?_; rintro e w9 ⟨rfl, hR9, hB9⟩) | (go_at_call 83; refine (hA3.out _ hR7).mono ?_; rintro e w8 ⟨rfl, hR8, hB8⟩) | (go_at_call 83; refine (hA63.out _ hR6).mono ?_; rintro e w7 ⟨rfl, hR7, hB7⟩) | (go_at_call 83; refine (hA58.out _ hR5).mono ?_; rintro e w6 ⟨rfl, hR6, hB6⟩) | (go_at_call 83; refine (hA34.out _ (hI1.out.drewN _)).mono ?_; rintro e w5 ⟨rfl, hR5, hB5⟩) | (go_at_call 80; refine (hle _).mono ?_; rintro e w' ⟨rfl, ⟨q2, rfl⟩⟩) | (go_at_call 78; refine (hdg _).mono ?_; rintro e w' ⟨rfl, ⟨q, rfl⟩⟩))
                      exact ⟨rfl, Gives.dead hG.out ((((((hK1.out.drewN _).trans hB5).trans hB6).trans hB7).trans hB8).trans hB9)⟩
                · rw [if_neg e63] at hV
                  have hG := Aside0.mk hV
                  have hA63 := Aside0.mk (at_no g s 63 (atF_ne s 63 e63))
                  clear hV e45 edg ele e42 e34 e58 e63
                  generalize bt s 0 = c at *
                  go_enter Tryz.func50, Tryz.ntmps50
                  go_wp2_with (first | (go_at_call 77; refine (fail_calls _ _).mono ?_; rintro e w' ⟨rfl, rfl⟩) | (go_at_call 83; refine (hA63.out _ hR6).mono ?_; rintro e w7 ⟨rfl, hR7, hB7⟩) | (go_at_call 83; refine (hA58.out _ hR5).mono ?_; rintro e w6 ⟨rfl, hR6, hB6⟩) | (go_at_call 83; refine (hA34.out _ (hI1.out.drewN _)).mono ?_; rintro e w5 ⟨rfl, hR5, hB5⟩) | (go_at_call 80; refine (hle _).mono ?_; rintro e w' ⟨rfl, ⟨q2, rfl⟩⟩) | (go_at_call 78; refine (hdg _).mono ?_; rintro e w' ⟨rfl, ⟨q, rfl⟩⟩))
                  exact ⟨rfl, Gives.dead hG.out ((((hK1.out.drewN _).trans hB5).trans hB6).trans hB7)⟩
  · rw [if_neg h0] at hV
    have hG := Aside0.mk hV
    have n1 := (empty_eq s h0).1
    have n1b := (empty_eq s h0).2
    clear hV
    go_enter Tryz.func50, Tryz.ntmps50
    go_wp2_with (first | (go_at_call 77; refine (fail_calls _ _).mono ?_; rintro e w' ⟨rfl, rfl⟩))
    exact ⟨rfl, Gives.dead hG.out hK1.out⟩
end Go.Proofs.YtjdbiicjfpgjkaaGreatDoor.Sf
/- What an iterator promises where each element comes with a word of the world at which it is yielded. -/
set_option linter.unusedVariables false
set_option linter.unusedSimpArgs false
namespace Go.Proofs.YtjdbiicjfpgjkaaGreatDoor.Sf
open Go.RowKit Go.Proofs.YtjdbiicjfpgjkaaGreatDoorW.PrintWords Go.Proofs.YtjdbiicjfpgjkaaGreatDoorW.PrintLast Go.Proofs.YtjdbiicjfpgjkaaGreatDoorW.PrintMore
/-- What an iterator promises where each element comes with a word of the world at which it is yielded. -/
def Tells {α : Type} (F : Fence) (n : Nat) (P : Program) (g : Nat) (lb : Array Value) (encs : α → Array Value) (Px : List α → α → Nat → World → Prop) (Kp : World → World → Prop) (S Sp : List α → Prop) (w : World) : Prop :=
  ∀ (l : Nat) (J Jx : List α → World → Prop) (W : World), Below w.heap.size w W → AbidesFrom W.heap.size J → AbidesFrom W.heap.size Jx →
    (∀ pre x W0 W1, J pre W0 → Below W0.heap.size W0 W1 → Px pre x W0.heap.size W1 → YieldAt F (n - 1) P l (encs x) W1 fun e W' => (e = .returned (.bool true) ∧ J (pre ++ [x]) W' ∧ Kp W1 W') ∨ (e = .returned (.bool false) ∧ Jx (pre ++ [x]) W')) →
    J [] W → CallsIn F n P g (#[.func (.yield l) #[] #[]] ++ lb) W fun e W' => (∃ v, e = .returned v) ∧ ((∃ xs, S xs ∧ J xs W') ∨ (∃ pre, Sp pre ∧ Jx pre W'))
/-- The loop's record and the block of its deferred calls, as they lie between two rounds. -/
structure Books (b : Nat) (rec : LoopState → Option Code → Loop) (s : LoopState) (j : Option Code) (W : World) : Prop where
  loop : W.heap[b + 1]? = some (.loop (rec s j))
  defs : W.heap[b]? = some (.deferred (some []))
theorem Books.abides {b : Nat} {rec : LoopState → Option Code → Loop} {s : LoopState} {j : Option Code} {W W' : World} {row : Option Nat} (h : Books b rec s j W) (hg : W.grownBy W' row) (hr : ∀ r, row = some r → ∃ o : Obj, W.heap[r]? = some o ∧ o.isWalk = true) : Books b rec s j W' :=
  ⟨(grownBy_keeps hg hr h.loop rfl).trans h.loop, (grownBy_keeps hg hr h.defs rfl).trans h.defs⟩
theorem Books.keeps {b B : Nat} {rec : LoopState → Option Code → Loop} {s : LoopState} {j : Option Code} {W W' : World} (h : Books b rec s j W) (hk : KeepsFrom B W W') (hB : B ≤ b) : Books b rec s j W' :=
  ⟨hk.same _ _ (by omega) h.loop rfl, hk.same _ _ hB h.defs rfl⟩
theorem Books.put {b : Nat} {rec : LoopState → Option Code → Loop} {s s' : LoopState} {j j' : Option Code} {W : World} (h : Books b rec s j W) : Books b rec s' j' (W.putObj (b + 1) (.loop (rec s' j'))) :=
  ⟨World.putObj_heap_same (Array.getElem?_eq_some_iff.1 h.loop).1, (World.putObj_heap_other (by omega)).trans h.defs⟩
theorem range_told {α : Type} {F : Fence} {n : Nat} {P : Program} {w : World} {g : Operand} {ps : Array Tmp} {assign body : Code} {Q : Exit → Act → World → Prop} {a : Act}
    (hro : F.round = none) (h1 : 1 ≤ n) {gf : Nat} {lb : Array Value} (hg : a.eval g = .func (.func gf) #[] lb) (hFg : F.fn gf) (eg : ∀ args w, (callFunc gf args).run P w = .ok (.enter gf args) w)
    {encs : α → Array Value} {Px : List α → α → Nat → World → Prop} {Kp : World → World → Prop} {S Sp : List α → Prop} (hseq : Tells F (n - 1) P gf lb encs Px Kp S Sp w)
    (hKt : ∀ {A B C : World}, Kp A B → Kp B C → Kp A C) (hKb : ∀ (W : World) (l : Nat) (o o' : Obj), w.heap.size ≤ l → W.heap[l]? = some o → o.isCells = false → o.isWalk = false → Kp W (W.putObj l o')) (hps : ∀ x, (encs x).size = ps.size)
    (I : List α → World → Prop) (Ix : Code → List α → World → Prop) (hI : OwnFrom w.heap.size I) (hIx : ∀ c, OwnFrom w.heap.size (Ix c)) (h0 : I [] w) (Ax : List α → α → Act → World → Prop) (hAx : ∀ pre x a', OwnFrom w.heap.size (fun (_ : Unit) W => Ax pre x a' W))
    (hassign : ∀ (l : Nat) (pre : List α) (x : α) (W0 W : World) (K : Act → World → Prop), I pre W0 → Below W0.heap.size W0 W → I pre W → Px pre x W0.heap.size W → (∀ a' W', KeepsFrom w.heap.size W W' → Kp W W' → I pre W' → Ax pre x a' W' → K a' W') →
      assign.wpIn (F.inRound l) (n - 1 - 1) P (Exit.then K (fun _ _ _ => False)) { tmps := (ps.zip (encs x)).foldl (fun t (p, v) => t.setIfInBounds p v) a.tmps, defers := [] } W)
    (hbody : ∀ (l : Nat) (pre : List α) (x : α) (a' : Act) (W : World), I pre W → Ax pre x a' W → body.wpIn (F.inRound l) (n - 1 - 1) P (ownPostG w.heap.size Kp I Ix (pre ++ [x]) W) a' W)
    (hdone : ∀ (D : Nat) (xs : List α) (W : World), w.heap.size ≤ D → S xs → I xs W → W.heap[D]? = some (.deferred (some [])) → Q .normal { a with defers := { target := .collected D, args := #[] } :: a.defers } W)
    (hstop : ∀ (D : Nat) (c : Code) (pre : List α) (W : World), w.heap.size ≤ D → Sp pre → Ix c pre W → W.heap[D]? = some (.deferred (some [])) → c.wpIn F n P Q { a with defers := { target := .collected D, args := #[] } :: a.defers } W) :
    (Code.rangeFunc g ps assign body).wpIn F n P Q a w := by
  refine wpIn_rangeFunc fun fn hfn => ?_
  rw [hro]
  obtain ⟨rec, hrec⟩ : ∃ rec : LoopState → Option Code → Loop, rec = fun s j => { state := s, pending := j, fn, tmps := a.tmps, params := ps, assign, body, defers := w.heap.size } := ⟨_, rfl⟩
  obtain ⟨V, hV⟩ : ∃ V, V = (w.alloc (.deferred (some []))).alloc (.loop (rec .ready none)) := ⟨_, rfl⟩
  have hs1 : V.heap.size = w.heap.size + 2 := by rw [hV]; simp
  have hbk : Books w.heap.size rec .ready none V := by
    constructor
    · rw [hV]; have := World.alloc_heap_new (w.alloc (.deferred (some []))) (.loop (rec .ready none)); rwa [World.size_alloc] at this
    · rw [hV]; exact (Below.heap_alloc _ _ _ (by simp)).trans (World.alloc_heap_new w _)
  have hIV : I [] V := by rw [hV]; exact hI.alloc _ (hI.alloc _ h0)
  have hBV : Below w.heap.size w V := by rw [hV]; exact ((Below.refl _ w).alloc (Nat.le_refl _) _).alloc (by simp) _
  have hcells : ∀ {A : World} {row : Option Nat}, (∀ r, row = some r → V.heap.size ≤ r ∧ ∃ o : Obj, A.heap[r]? = some o ∧ o.isWalk = true) → ∀ r, row = some r → w.heap.size ≤ r ∧ ∃ o : Obj, A.heap[r]? = some o ∧ o.isCells = false := fun h r e => by
    obtain ⟨hB, o, ho, hw⟩ := h r e
    exact ⟨by omega, o, ho, Obj.not_cells_of_walk hw⟩
  refine ⟨w.heap.size + 1, [{ target := .collected w.heap.size, args := #[] }], V, { target := .fn (.func gf) lb, args := #[.func (.yield (w.heap.size + 1)) #[] #[]] }, V, gf, #[.func (.yield (w.heap.size + 1)) #[] #[]] ++ lb, V, ?_, ?_, ?_, ?_, fun _ => h1, ?_⟩
  · rw [hV, hrec]; exact run_enterLoop_outer _ _ _ _ _
  · simp only [resolve, hg]
    simp [go_sem]
  · intro f' hf'; simp [Target.leads] at hf'; subst hf'; exact hFg
  · simp [invoke, go_sem, eg]
  refine (hseq (w.heap.size + 1) (fun pre W => I pre W ∧ Books w.heap.size rec .ready none W) (fun pre W => ∃ c, Ix c pre W ∧ Books w.heap.size rec .done (some c) W) V hBV ?_ ?_ ?_ ⟨hIV, hbk⟩).mono ?_
  · rintro s A B row ⟨hs, hb⟩ hg' hr
    exact ⟨hI s A B row hs hg' (hcells hr), hb.abides hg' (fun r e => (hr r e).2)⟩
  · rintro s A B row ⟨c, hs, hb⟩ hg' hr
    exact ⟨c, hIx c s A B row hs hg' (hcells hr), hb.abides hg' (fun r e => (hr r e).2)⟩
  · rintro pre x W0 W ⟨hi0, hb0⟩ hbel hx
    have hgr : W0.grownBy W none := ⟨hbel.os, hbel.tape, hbel.output, hbel.size, fun i hi _ => hbel.block i hi⟩
    have hi : I pre W := hI _ _ _ none hi0 hgr (fun r e => by cases e)
    have hb : Books w.heap.size rec .ready none W := hb0.abides hgr (fun r e => by cases e)
    have hy := run_yield (P := P) (args := encs x) hb.loop (by rw [hrec]; exact hps x)
    rw [hrec] at hy
    refine ⟨fn, _, assign, body, hy, ?_⟩
    refine roundIn_of_wpIn hfn (hassign _ pre x W0 W _ hi0 hbel hi hx ?_)
    intro a' X hkX hpX hiX hax
    have hbX := hb.keeps hkX (Nat.le_refl _)
    refine ⟨_, run_beginRound hbX.loop (by rw [hrec]), ?_⟩
    obtain ⟨Y, hY⟩ : ∃ Y, Y = X.putObj (w.heap.size + 1) (.loop (rec .busy none)) := ⟨_, rfl⟩
    have hbY : Books w.heap.size rec .busy none Y := by rw [hY]; exact hbX.put
    have hiY : I pre Y := by rw [hY]; exact hI.putObj _ hiX (by omega) hbX.loop rfl
    have haY : Ax pre x a' Y := by rw [hY]; exact (hAx pre x a').putObj (s := ()) _ hax (by omega) hbX.loop rfl
    have hpY : Kp W Y := by rw [hY]; exact hKt hpX (hKb _ _ _ _ (by omega) hbX.loop rfl rfl)
    rw [show (X.putObj (w.heap.size + 1) (.loop { rec .ready none with state := .busy })) = Y by rw [hY, hrec]]
    refine wpIn_mono (hbody _ pre x a' Y hiY haY) ?_
    have fin : ∀ (j : Option Code) (Z : World), KeepsFrom w.heap.size Y Z → ∃ Z', Z' = Z.putObj (w.heap.size + 1) (.loop (rec (if j.isNone then .ready else .done) j)) ∧ (Instr.endRound (w.heap.size + 1) j).run P Z = .ok (.bool j.isNone) Z' ∧ Books w.heap.size rec .busy none Z ∧ Books w.heap.size rec (if j.isNone then .ready else .done) j Z' := fun j Z hk => by
      have hbZ := hbY.keeps hk (Nat.le_refl _)
      refine ⟨_, rfl, ?_, hbZ, hbZ.put⟩
      have := run_endRound (P := P) j hbZ.loop
      rw [hrec] at this ⊢
      exact this
    rintro e a3 Z hp
    cases e with
    | normal =>
      obtain ⟨hk, hkp, hi3⟩ := hp
      obtain ⟨Z', rfl, hr, hbZ, hbZ'⟩ := fin none Z hk
      exact ⟨_, _, hr, .inl ⟨rfl, ⟨hI.putObj _ hi3 (by omega) hbZ.loop rfl, hbZ'⟩, hKt hpY (hKt hkp (hKb _ _ _ _ (by omega) hbZ.loop rfl rfl))⟩⟩
    | ret =>
      obtain ⟨hk, hi3⟩ := hp
      obtain ⟨Z', rfl, hr, hbZ, hbZ'⟩ := fin (some .ret) Z hk
      exact ⟨_, _, hr, .inr ⟨rfl, .ret, (hIx _).putObj _ hi3 (by omega) hbZ.loop rfl, hbZ'⟩⟩
    | exit id =>
      obtain ⟨hk, hi3⟩ := hp
      obtain ⟨Z', rfl, hr, hbZ, hbZ'⟩ := fin (some (.exit id)) Z hk
      exact ⟨_, _, hr, .inr ⟨rfl, .exit id, (hIx _).putObj _ hi3 (by omega) hbZ.loop rfl, hbZ'⟩⟩
    | goto t =>
      obtain ⟨hk, hi3⟩ := hp
      obtain ⟨Z', rfl, hr, hbZ, hbZ'⟩ := fin (some (.goto t)) Z hk
      exact ⟨_, _, hr, .inr ⟨rfl, .goto t, (hIx _).putObj _ hi3 (by omega) hbZ.loop rfl, hbZ'⟩⟩
    | panic ch => exact hp.elim
    | outgrown => exact hp.elim
  · rintro e W ⟨⟨v, rfl⟩, ⟨xs, hS, hi, hb⟩ | ⟨pre, hSp, c, hi, hb⟩⟩
    · have he := run_endLoop (P := P) hb.loop (by rw [hrec]; simp)
      rw [hrec] at he
      exact ⟨none, _, he, hdone _ xs _ (Nat.le_refl _) hS (hI.putObj _ hi (Nat.le_succ _) hb.loop rfl) ((World.putObj_heap_other (by omega)).trans hb.defs)⟩
    · have he := run_endLoop (P := P) hb.loop (by rw [hrec]; simp)
      rw [hrec] at he
      exact ⟨some c, _, he, hstop _ c pre _ (Nat.le_refl _) hSp ((hIx c).putObj _ hi (Nat.le_succ _) hb.loop rfl) ((World.putObj_heap_other (by omega)).trans hb.defs)⟩
end Go.Proofs.YtjdbiicjfpgjkaaGreatDoor.Sf
/- Short names for what printed walks show again and again. -/
namespace Go.Proofs.YtjdbiicjfpgjkaaGreatDoor
open Go.RowKit Go.Proofs.YtjdbiicjfpgjkaaGreatDoorW.PrintWords Go.Proofs.YtjdbiicjfpgjkaaGreatDoorW.PrintLast Go.Proofs.YtjdbiicjfpgjkaaGreatDoorW.PrintMore
set_option linter.unusedVariables false
/-- All that lay in w lies in W. -/
class Lf (w W : World) : Prop where
  b : Below w.heap.size w W
instance Lf.r (w : World) : Lf w w := ⟨Below.refl _ _⟩
instance Lf.a (w W : World) (o : Obj) [h : Lf w W] : Lf w (W.alloc o) := ⟨below_alloc h.b o⟩
instance Lf.n (w W : World) (m : Nat) [h : Lf w W] : Lf w (W.drewN m) := ⟨pw_below_drewN h.b m⟩
instance Lf.d (w W : World) [h : Lf w W] : Lf w W.drew := ⟨below_drew h.b⟩
theorem lq_ {w W : World} {n : Nat} (h : World.drewN w n = W) : Lf w W := ⟨h ▸ pw_below_drewN (Below.refl _ _) n⟩
theorem bl_ {w0 w W : World} (h : Below w0.heap.size w0 w) [k : Lf w W] : Below w0.heap.size w0 W := below_then h h.size k.b
theorem rl_ {α : Type} {d : Kd α} {e : Nat} {w W : World} {base : Nat} {ok : Nat → Prop} {v : Value} {xs : List α} (h : Kd.R d e w base ok v xs) [k : Lf w W] : Kd.R d e W base ok v xs := Kd.R_below h k.b
theorem sl_ {α : Type} {d : Kd α} {e : Nat} {w W : World} {base : Nat} {ok : Nat → Prop} {v : Value} {xs : List α} (h : Kd.S d e w base ok v xs) [k : Lf w W] : Kd.S d e W base ok v xs := Kd.S_below h k.b
theorem cl_ {α : Type} {d : Kd α} {w W : World} {A : Option Addr} {n : Nat} {xs : List α} (h : Kd.C d w A n xs) [k : Lf w W] : Kd.C d W A n xs := Kd.C_below h k.b
theorem kl_ {w W : World} {g : Nat} {o : Obj} (h : w.heap[g]? = some o) [k : Lf w W] : W.heap[g]? = some o := blk_below h k.b
/-- One step back: the world that was drawn, or laid upon. -/
class L1 (w : outParam World) (W : World) : Prop where
  b : Below w.heap.size w W
instance L1.a (W : World) (o : Obj) : L1 W (W.alloc o) := ⟨below_alloc (Below.refl _ _) o⟩
instance L1.n (W : World) (m : Nat) : L1 W (W.drewN m) := ⟨pw_below_drewN (Below.refl _ _) m⟩
instance L1.d (W : World) : L1 W W.drew := ⟨below_drew (Below.refl _ _)⟩
theorem kq_ {w W : World} {g : Nat} {o : Obj} [k : L1 w W] (h : w.heap[g]? = some o) : W.heap[g]? = some o := blk_below h k.b
theorem hg_ {w W : World} {g : Nat} (h : g = W.heap.size) (hb : Below w.heap.size w W) : w.heap.size ≤ g := h ▸ hb.size
/-- A block's cells. -/
theorem c4_ {w : World} {g t : Nat} {a0 a1 a2 a3 : Value} (h : w.heap[g]? = some (.cells #[a0, a1, a2, a3] t (0, 0))) : w.cell? ⟨g, 0, none⟩ = some a0 ∧ w.cell? ⟨g, 1, none⟩ = some a1 ∧ w.cell? ⟨g, 2, none⟩ = some a2 ∧ w.cell? ⟨g, 3, none⟩ = some a3 :=
  ⟨(blk_cell h 0).trans rfl, (blk_cell h 1).trans rfl, (blk_cell h 2).trans rfl, (blk_cell h 3).trans rfl⟩
theorem c8_ {w : World} {g t : Nat} {a0 a1 a2 a3 a4 a5 a6 a7 : Value} (h : w.heap[g]? = some (.cells #[a0, a1, a2, a3, a4, a5, a6, a7] t (0, 0))) : w.cell? ⟨g, 0, none⟩ = some a0 ∧ w.cell? ⟨g, 1, none⟩ = some a1 ∧ w.cell? ⟨g, 2, none⟩ = some a2 ∧ w.cell? ⟨g, 3, none⟩ = some a3 ∧ w.cell? ⟨g, 4, none⟩ = some a4 ∧ w.cell? ⟨g, 5, none⟩ = some a5 ∧ w.cell? ⟨g, 6, none⟩ = some a6 ∧ w.cell? ⟨g, 7, none⟩ = some a7 :=
  ⟨(blk_cell h 0).trans rfl, (blk_cell h 1).trans rfl, (blk_cell h 2).trans rfl, (blk_cell h 3).trans rfl, (blk_cell h 4).trans rfl, (blk_cell h 5).trans rfl, (blk_cell h 6).trans rfl, (blk_cell h 7).trans rfl⟩
theorem f4_ {w : World} {g t : Nat} {cs : Array Value} (h : w.heap[g]? = some (.cells cs t (0, 0))) : w.frozen? ⟨g, 0, none⟩ = false ∧ w.frozen? ⟨g, 1, none⟩ = false ∧ w.frozen? ⟨g, 2, none⟩ = false ∧ w.frozen? ⟨g, 3, none⟩ = false :=
  ⟨blk_frozen h 0, blk_frozen h 1, blk_frozen h 2, blk_frozen h 3⟩
theorem f8_ {w : World} {g t : Nat} {cs : Array Value} (h : w.heap[g]? = some (.cells cs t (0, 0))) : w.frozen? ⟨g, 0, none⟩ = false ∧ w.frozen? ⟨g, 1, none⟩ = false ∧ w.frozen? ⟨g, 2, none⟩ = false ∧ w.frozen? ⟨g, 3, none⟩ = false ∧ w.frozen? ⟨g, 4, none⟩ = false ∧ w.frozen? ⟨g, 5, none⟩ = false ∧ w.frozen? ⟨g, 6, none⟩ = false ∧ w.frozen? ⟨g, 7, none⟩ = false :=
  ⟨blk_frozen h 0, blk_frozen h 1, blk_frozen h 2, blk_frozen h 3, blk_frozen h 4, blk_frozen h 5, blk_frozen h 6, blk_frozen h 7⟩
/-- A cell of w's in a later world. -/
theorem lb_ {w W : World} {a : Addr} {v : Value} (hb : Below w.heap.size w W) (h : w.cell? a = some v) : W.cell? a = some v := (hb.cell (World.block_lt_of_cell? w a h)).trans h
theorem lc_ {w w1 W : World} {a : Addr} {v : Value} (hb : Below w.heap.size w w1) (h : w.cell? a = some v) [k : Lf w1 W] : W.cell? a = some v := lb_ k.b (lb_ hb h)
/-- A test's two forms. -/
theorem eT_ {α : Type} [BEq α] [LawfulBEq α] {a b : α} (h : a = b) : (a == b) = true ∧ (a != b) = false := ⟨beq_iff_eq.mpr h, bne_eq_false_iff_eq.mpr h⟩
theorem eF_ {α : Type} [BEq α] [LawfulBEq α] {a b : α} (h : ¬ a = b) : (a == b) = false ∧ (a != b) = true := ⟨beq_eq_false_iff_ne.mpr h, bne_iff_ne.mpr h⟩
end Go.Proofs.YtjdbiicjfpgjkaaGreatDoor
namespace Go.Proofs.YtjdbiicjfpgjkaaGreatDoor.Q
open Go.RowKit Go.Proofs.YtjdbiicjfpgjkaaGreatDoorW.PrintWords Go.Proofs.YtjdbiicjfpgjkaaGreatDoorW.PrintLast Go.Proofs.YtjdbiicjfpgjkaaGreatDoorW.PrintMore
set_option linter.unusedVariables false
set_option linter.unusedSimpArgs false
theorem q_ne_nil (l : List UInt8) : (l != []) = !l.isEmpty := by cases l <;> rfl
def errW : Option Int → Value
  | none => .nilIface
  | some c => .iface 0 (.int .i64 c)
theorem errW_none : errW none = .nilIface := rfl
theorem errW_some (c : Int) : errW (some c) = .iface 0 (.int .i64 c) := rfl
theorem info9 : (Tryz.prog.info? 9).map (fun i => (i.zero, i.size, i.bytes)) = some (some (.string ⟨#[]⟩), 1, 16) := by kernel_rfl
theorem info31 : (Tryz.prog.info? 31).map (fun i => (i.zero, i.size, i.bytes)) = some (some (.agg #[(.int .i64 0), (.int .i64 0), (.string ⟨#[]⟩), (.slice none 0 0)]), 4, 56) := by kernel_rfl
theorem info34 : (Tryz.prog.info? 34).map (fun i => (i.zero, i.size, i.bytes)) = some (some (.agg #[(.string ⟨#[]⟩), (.bool false), (.int .i64 0), (.int .i64 0), (.string ⟨#[]⟩), (.slice none 0 0), (.slice none 0 0), (.slice none 0 0)]), 8, 128) := by kernel_rfl
structure S60 where
  f0 : ByteArray
  f1 : Int
  f2 : Int
  f3 : ByteArray
def z60 : S60 := ⟨(⟨#[]⟩ : ByteArray), (0 : Int), (0 : Int), (⟨#[]⟩ : ByteArray)⟩
def k60 : Kd S60 := Kd.iso (Kd.pair Kd.string (Kd.pair (Kd.int .i64) (Kd.pair (Kd.int .i64) Kd.string))) (fun x : S60 => (x.f0, x.f1, x.f2, x.f3))
theorem k60_open {w : World} {x : S60} {cs : List Value} (h : k60.K w x cs) : cs = [.string x.f0, .int .i64 x.f1, .int .i64 x.f2, .string x.f3] := by
  obtain ⟨_, _, rfl, rfl, ⟨_, _, rfl, rfl, ⟨_, _, rfl, rfl, rfl⟩⟩⟩ := h
  exact rfl
theorem k60_mk (w : World) (x : S60)  : k60.K w x [.string x.f0, .int .i64 x.f1, .int .i64 x.f2, .string x.f3] := ⟨[.string x.f0], [.int .i64 x.f1, .int .i64 x.f2, .string x.f3], rfl, rfl, ⟨[.int .i64 x.f1], [.int .i64 x.f2, .string x.f3], rfl, rfl, ⟨[.int .i64 x.f2], [.string x.f3], rfl, rfl, rfl⟩⟩⟩
theorem k60_mkM (w : World) (base : Nat) (ok : Nat → Prop) (x : S60)  : k60.M w base ok x [.string x.f0, .int .i64 x.f1, .int .i64 x.f2, .string x.f3] := ⟨[.string x.f0], [.int .i64 x.f1, .int .i64 x.f2, .string x.f3], rfl, rfl, ⟨[.int .i64 x.f1], [.int .i64 x.f2, .string x.f3], rfl, rfl, ⟨[.int .i64 x.f2], [.string x.f3], rfl, rfl, rfl⟩⟩⟩
def rd_T60 (xs : List S60) (i : Int) : S60 := xs.getD i.toNat z60
theorem at_T60 {w : World} {A : Option Addr} {n : Nat} {xs : List S60} (h : Kd.C k60 w A n xs) (i : Int) (h0 : 0 ≤ i) (h1 : i < n) : ∃ ad , A = some ad ∧ w.cell? (ad.add (i.toNat * 4)) = some (.string (rd_T60 xs i).f0) ∧ w.cell? ⟨(ad.add (i.toNat * 4)).block, (ad.add (i.toNat * 4)).off + 1, none⟩ = some (.int .i64 (rd_T60 xs i).f1) ∧ w.cell? ⟨(ad.add (i.toNat * 4)).block, (ad.add (i.toNat * 4)).off + 2, none⟩ = some (.int .i64 (rd_T60 xs i).f2) ∧ w.cell? ⟨(ad.add (i.toNat * 4)).block, (ad.add (i.toNat * 4)).off + 3, none⟩ = some (.string (rd_T60 xs i).f3) := by
  obtain ⟨ad, c, e, _, hK, hc0⟩ := Kd.C_get h z60 i h0 h1
  have hc : ∀ j u, c[j]? = some u → w.cell? (ad.add (i.toNat * 4 + j)) = some u := hc0
  obtain rfl := k60_open hK
  exact ⟨ad, e, hc 0 _ rfl, by rw [← add_field _ _ 1 (by omega)]; exact hc 1 _ rfl, by rw [← add_field _ _ 2 (by omega)]; exact hc 2 _ rfl, by rw [← add_field _ _ 3 (by omega)]; exact hc 3 _ rfl⟩
structure S31 where
  f0 : Int
  f1 : Int
  f2 : ByteArray
  f3 : (List S60)
def z31 : S31 := ⟨(0 : Int), (0 : Int), (⟨#[]⟩ : ByteArray), ([] : List S60)⟩
def k31 : Kd S31 := Kd.iso (Kd.pair (Kd.int .i64) (Kd.pair (Kd.int .i64) (Kd.pair Kd.string (Kd.slice 60 k60)))) (fun x : S31 => (x.f0, x.f1, x.f2, x.f3))
theorem k31_open {w : World} {x : S31} {cs : List Value} (h : k31.K w x cs) : ∃ A3 c3, cs = [.int .i64 x.f0, .int .i64 x.f1, .string x.f2, .slice A3 x.f3.length c3] ∧ x.f3.length ≤ c3 ∧ k60.C w A3 x.f3.length x.f3 := by
  obtain ⟨_, _, rfl, rfl, ⟨_, _, rfl, rfl, ⟨_, _, rfl, rfl, ⟨A3, c3, rfl, l3, g3⟩⟩⟩⟩ := h
  exact ⟨A3, c3, rfl, l3, g3⟩
theorem k31_openM {w : World} {base : Nat} {ok : Nat → Prop} {x : S31} {cs : List Value} (h : k31.M w base ok x cs) : ∃ v3, cs = [.int .i64 x.f0, .int .i64 x.f1, .string x.f2, v3] ∧ k60.R 60 w base ok v3 x.f3 := by
  obtain ⟨_, _, rfl, rfl, ⟨_, _, rfl, rfl, ⟨_, _, rfl, rfl, ⟨v3, rfl, g3⟩⟩⟩⟩ := h
  exact ⟨v3, rfl, g3⟩
theorem k31_mk (w : World) (x : S31) {A3 : Option Addr} {c3 : Nat} (l3 : x.f3.length ≤ c3) (g3 : k60.C w A3 x.f3.length x.f3) : k31.K w x [.int .i64 x.f0, .int .i64 x.f1, .string x.f2, .slice A3 x.f3.length c3] := ⟨[.int .i64 x.f0], [.int .i64 x.f1, .string x.f2, .slice A3 x.f3.length c3], rfl, rfl, ⟨[.int .i64 x.f1], [.string x.f2, .slice A3 x.f3.length c3], rfl, rfl, ⟨[.string x.f2], [.slice A3 x.f3.length c3], rfl, rfl, ⟨A3, c3, rfl, l3, g3⟩⟩⟩⟩
theorem k31_mkM (w : World) (base : Nat) (ok : Nat → Prop) (x : S31) {v3 : Value} (g3 : k60.R 60 w base ok v3 x.f3) : k31.M w base ok x [.int .i64 x.f0, .int .i64 x.f1, .string x.f2, v3] := ⟨[.int .i64 x.f0], [.int .i64 x.f1, .string x.f2, v3], rfl, rfl, ⟨[.int .i64 x.f1], [.string x.f2, v3], rfl, rfl, ⟨[.string x.f2], [v3], rfl, rfl, ⟨v3, rfl, g3⟩⟩⟩⟩
def rd_T31 (xs : List S31) (i : Int) : S31 := xs.getD i.toNat z31
theorem at_T31 {w : World} {A : Option Addr} {n : Nat} {xs : List S31} (h : Kd.C k31 w A n xs) (i : Int) (h0 : 0 ≤ i) (h1 : i < n) : ∃ ad A3 c3, A = some ad ∧ w.cell? (ad.add (i.toNat * 4)) = some (.int .i64 (rd_T31 xs i).f0) ∧ w.cell? ⟨(ad.add (i.toNat * 4)).block, (ad.add (i.toNat * 4)).off + 1, none⟩ = some (.int .i64 (rd_T31 xs i).f1) ∧ w.cell? ⟨(ad.add (i.toNat * 4)).block, (ad.add (i.toNat * 4)).off + 2, none⟩ = some (.string (rd_T31 xs i).f2) ∧ w.cell? ⟨(ad.add (i.toNat * 4)).block, (ad.add (i.toNat * 4)).off + 3, none⟩ = some (.slice A3 (rd_T31 xs i).f3.length c3) ∧ (rd_T31 xs i).f3.length ≤ c3 ∧ k60.C w A3 (rd_T31 xs i).f3.length (rd_T31 xs i).f3 := by
  obtain ⟨ad, c, e, _, hK, hc0⟩ := Kd.C_get h z31 i h0 h1
  have hc : ∀ j u, c[j]? = some u → w.cell? (ad.add (i.toNat * 4 + j)) = some u := hc0
  obtain ⟨A3, c3, rfl, l3, g3⟩ := k31_open hK
  exact ⟨ad, A3, c3, e, hc 0 _ rfl, by rw [← add_field _ _ 1 (by omega)]; exact hc 1 _ rfl, by rw [← add_field _ _ 2 (by omega)]; exact hc 2 _ rfl, by rw [← add_field _ _ 3 (by omega)]; exact hc 3 _ rfl, l3, g3⟩
structure S34 where
  f0 : ByteArray
  f1 : Bool
  f2 : S31
  f3 : (List S31)
  f4 : (List S60)
def z34 : S34 := ⟨(⟨#[]⟩ : ByteArray), false, z31, ([] : List S31), ([] : List S60)⟩
def k34 : Kd S34 := Kd.iso (Kd.pair Kd.string (Kd.pair Kd.bool (Kd.pair k31 (Kd.pair (Kd.slice 31 k31) (Kd.slice 60 k60))))) (fun x : S34 => (x.f0, x.f1, x.f2, x.f3, x.f4))
theorem k34_open {w : World} {x : S34} {cs : List Value} (h : k34.K w x cs) : ∃ A5 c5 A6 c6 A7 c7, cs = [.string x.f0, .bool x.f1, .int .i64 x.f2.f0, .int .i64 x.f2.f1, .string x.f2.f2, .slice A5 x.f2.f3.length c5, .slice A6 x.f3.length c6, .slice A7 x.f4.length c7] ∧ x.f2.f3.length ≤ c5 ∧ k60.C w A5 x.f2.f3.length x.f2.f3 ∧ x.f3.length ≤ c6 ∧ k31.C w A6 x.f3.length x.f3 ∧ x.f4.length ≤ c7 ∧ k60.C w A7 x.f4.length x.f4 := by
  obtain ⟨_, _, rfl, rfl, ⟨_, _, rfl, rfl, ⟨_, _, rfl, s2, ⟨_, _, rfl, ⟨A6, c6, rfl, l6, g6⟩, ⟨A7, c7, rfl, l7, g7⟩⟩⟩⟩⟩ := h
  obtain ⟨A5, c5, rfl, l5, g5⟩ := k31_open s2
  exact ⟨A5, c5, A6, c6, A7, c7, rfl, l5, g5, l6, g6, l7, g7⟩
theorem k34_openM {w : World} {base : Nat} {ok : Nat → Prop} {x : S34} {cs : List Value} (h : k34.M w base ok x cs) : ∃ v5 v6 v7, cs = [.string x.f0, .bool x.f1, .int .i64 x.f2.f0, .int .i64 x.f2.f1, .string x.f2.f2, v5, v6, v7] ∧ k60.R 60 w base ok v5 x.f2.f3 ∧ k31.R 31 w base ok v6 x.f3 ∧ k60.R 60 w base ok v7 x.f4 := by
  obtain ⟨_, _, rfl, rfl, ⟨_, _, rfl, rfl, ⟨_, _, rfl, s2, ⟨_, _, rfl, ⟨v6, rfl, g6⟩, ⟨v7, rfl, g7⟩⟩⟩⟩⟩ := h
  obtain ⟨v5, rfl, g5⟩ := k31_openM s2
  exact ⟨v5, v6, v7, rfl, g5, g6, g7⟩
theorem k34_mk (w : World) (x : S34) {A5 : Option Addr} {c5 : Nat} (l5 : x.f2.f3.length ≤ c5) (g5 : k60.C w A5 x.f2.f3.length x.f2.f3) {A6 : Option Addr} {c6 : Nat} (l6 : x.f3.length ≤ c6) (g6 : k31.C w A6 x.f3.length x.f3) {A7 : Option Addr} {c7 : Nat} (l7 : x.f4.length ≤ c7) (g7 : k60.C w A7 x.f4.length x.f4) : k34.K w x [.string x.f0, .bool x.f1, .int .i64 x.f2.f0, .int .i64 x.f2.f1, .string x.f2.f2, .slice A5 x.f2.f3.length c5, .slice A6 x.f3.length c6, .slice A7 x.f4.length c7] := ⟨[.string x.f0], [.bool x.f1, .int .i64 x.f2.f0, .int .i64 x.f2.f1, .string x.f2.f2, .slice A5 x.f2.f3.length c5, .slice A6 x.f3.length c6, .slice A7 x.f4.length c7], rfl, rfl, ⟨[.bool x.f1], [.int .i64 x.f2.f0, .int .i64 x.f2.f1, .string x.f2.f2, .slice A5 x.f2.f3.length c5, .slice A6 x.f3.length c6, .slice A7 x.f4.length c7], rfl, rfl, ⟨[.int .i64 x.f2.f0, .int .i64 x.f2.f1, .string x.f2.f2, .slice A5 x.f2.f3.length c5], [.slice A6 x.f3.length c6, .slice A7 x.f4.length c7], rfl, (k31_mk w x.f2 l5 g5), ⟨[.slice A6 x.f3.length c6], [.slice A7 x.f4.length c7], rfl, ⟨A6, c6, rfl, l6, g6⟩, ⟨A7, c7, rfl, l7, g7⟩⟩⟩⟩⟩
theorem k34_mkM (w : World) (base : Nat) (ok : Nat → Prop) (x : S34) {v5 : Value} (g5 : k60.R 60 w base ok v5 x.f2.f3) {v6 : Value} (g6 : k31.R 31 w base ok v6 x.f3) {v7 : Value} (g7 : k60.R 60 w base ok v7 x.f4) : k34.M w base ok x [.string x.f0, .bool x.f1, .int .i64 x.f2.f0, .int .i64 x.f2.f1, .string x.f2.f2, v5, v6, v7] := ⟨[.string x.f0], [.bool x.f1, .int .i64 x.f2.f0, .int .i64 x.f2.f1, .string x.f2.f2, v5, v6, v7], rfl, rfl, ⟨[.bool x.f1], [.int .i64 x.f2.f0, .int .i64 x.f2.f1, .string x.f2.f2, v5, v6, v7], rfl, rfl, ⟨[.int .i64 x.f2.f0, .int .i64 x.f2.f1, .string x.f2.f2, v5], [v6, v7], rfl, (k31_mkM w base ok x.f2 g5), ⟨[v6], [v7], rfl, ⟨v6, rfl, g6⟩, ⟨v7, rfl, g7⟩⟩⟩⟩⟩
def rd_T34 (xs : List S34) (i : Int) : S34 := xs.getD i.toNat z34
theorem at_T34 {w : World} {A : Option Addr} {n : Nat} {xs : List S34} (h : Kd.C k34 w A n xs) (i : Int) (h0 : 0 ≤ i) (h1 : i < n) : ∃ ad A5 c5 A6 c6 A7 c7, A = some ad ∧ w.cell? (ad.add (i.toNat * 8)) = some (.string (rd_T34 xs i).f0) ∧ w.cell? ⟨(ad.add (i.toNat * 8)).block, (ad.add (i.toNat * 8)).off + 1, none⟩ = some (.bool (rd_T34 xs i).f1) ∧ w.cell? ⟨(ad.add (i.toNat * 8)).block, (ad.add (i.toNat * 8)).off + 2, none⟩ = some (.int .i64 (rd_T34 xs i).f2.f0) ∧ w.cell? ⟨(ad.add (i.toNat * 8)).block, (ad.add (i.toNat * 8)).off + 3, none⟩ = some (.int .i64 (rd_T34 xs i).f2.f1) ∧ w.cell? ⟨(ad.add (i.toNat * 8)).block, (ad.add (i.toNat * 8)).off + 4, none⟩ = some (.string (rd_T34 xs i).f2.f2) ∧ w.cell? ⟨(ad.add (i.toNat * 8)).block, (ad.add (i.toNat * 8)).off + 5, none⟩ = some (.slice A5 (rd_T34 xs i).f2.f3.length c5) ∧ w.cell? ⟨(ad.add (i.toNat * 8)).block, (ad.add (i.toNat * 8)).off + 6, none⟩ = some (.slice A6 (rd_T34 xs i).f3.length c6) ∧ w.cell? ⟨(ad.add (i.toNat * 8)).block, (ad.add (i.toNat * 8)).off + 7, none⟩ = some (.slice A7 (rd_T34 xs i).f4.length c7) ∧ (rd_T34 xs i).f2.f3.length ≤ c5 ∧ k60.C w A5 (rd_T34 xs i).f2.f3.length (rd_T34 xs i).f2.f3 ∧ (rd_T34 xs i).f3.length ≤ c6 ∧ k31.C w A6 (rd_T34 xs i).f3.length (rd_T34 xs i).f3 ∧ (rd_T34 xs i).f4.length ≤ c7 ∧ k60.C w A7 (rd_T34 xs i).f4.length (rd_T34 xs i).f4 := by
  obtain ⟨ad, c, e, _, hK, hc0⟩ := Kd.C_get h z34 i h0 h1
  have hc : ∀ j u, c[j]? = some u → w.cell? (ad.add (i.toNat * 8 + j)) = some u := hc0
  obtain ⟨A5, c5, A6, c6, A7, c7, rfl, l5, g5, l6, g6, l7, g7⟩ := k34_open hK
  exact ⟨ad, A5, c5, A6, c6, A7, c7, e, hc 0 _ rfl, by rw [← add_field _ _ 1 (by omega)]; exact hc 1 _ rfl, by rw [← add_field _ _ 2 (by omega)]; exact hc 2 _ rfl, by rw [← add_field _ _ 3 (by omega)]; exact hc 3 _ rfl, by rw [← add_field _ _ 4 (by omega)]; exact hc 4 _ rfl, by rw [← add_field _ _ 5 (by omega)]; exact hc 5 _ rfl, by rw [← add_field _ _ 6 (by omega)]; exact hc 6 _ rfl, by rw [← add_field _ _ 7 (by omega)]; exact hc 7 _ rfl, l5, g5, l6, g6, l7, g7⟩
end Go.Proofs.YtjdbiicjfpgjkaaGreatDoor.Q
namespace Go.Proofs.YtjdbiicjfpgjkaaGreatDoor.Q
open Go.RowKit Go.Proofs.YtjdbiicjfpgjkaaGreatDoorW.PrintWords Go.Proofs.YtjdbiicjfpgjkaaGreatDoorW.PrintLast Go.Proofs.YtjdbiicjfpgjkaaGreatDoorW.PrintMore
set_option linter.unusedVariables false
set_option linter.unusedSimpArgs false
open Go.Proofs.YtjdbiicjfpgjkaaGreatDoor.Sf
theorem str_eq (s t : ByteArray) : (s.toList == t.toList) = decide (s = t) := by
  by_cases h : s = t
  · subst h; simp
  · have : ¬ s.toList = t.toList := fun e => h (by
      rw [Lib.toList_data, Lib.toList_data] at e
      exact ByteArray.ext (Array.toList_inj.1 e))
    rw [decide_eq_false h]; exact beq_eq_false_iff_ne.mpr this
/-- A block that holds a text. -/
def SB (W : World) (b : Nat) (s : ByteArray) : Prop := W.heap[b]? = some (.cells #[.string s] 9 (0, 0))
theorem SB.cell {W : World} {b : Nat} {s : ByteArray} (h : SB W b s) : W.cell? ⟨b, 0, none⟩ = some (.string s) := (blk_cell h 0).trans rfl
set_option maxHeartbeats 2000000 in
theorem same_key (q : S60) (kb : Nat) (key : ByteArray) (W : World) (hk : SB W kb key) :
    Calls Tryz.prog 88 #[.agg #[.string q.f0, .int .i64 q.f1, .int .i64 q.f2, .string q.f3], .pointer (some ⟨kb, 0, none⟩)] W fun e w' => e = .returned (.bool (q.f0.toList == key.toList)) ∧ Below W.heap.size W w' := by
  have hc := hk.cell
  have hc2 : (W.alloc (.cells #[.string q.f0, .int .i64 q.f1, .int .i64 q.f2, .string q.f3] 60)).cell? ⟨kb, 0, none⟩ = some (.string key) := (show SB (W.alloc _) kb key from blk_alloc hk _).cell
  clear hk
  go_enter Tryz.func88, Tryz.ntmps88
  go_wp2
  go_ret
  exact ⟨rfl, below_alloc (Below.refl _ _) _⟩
/-- Where a key stands. -/
def IdxAt (key : ByteArray) (l : List S60) (r : Int) : Prop := (∃ i : Nat, r = i ∧ i < l.length ∧ (rd_T60 l i).f0 = key ∧ ∀ j : Nat, j < i → (rd_T60 l j).f0 ≠ key) ∨ (r = -1 ∧ ∀ j : Nat, j < l.length → (rd_T60 l j).f0 ≠ key)
theorem SB.below {W W' : World} {b : Nat} {s : ByteArray} (h : SB W b s) (hb : Below W.heap.size W W') : SB W' b s := blk_below h hb
set_option maxHeartbeats 2000000 in
set_option maxRecDepth 100000 in
theorem index_calls (A : Option Addr) (c : Nat) (l : List S60) (kb : Nat) (key : ByteArray) (w : World) (hC : Kd.C k60 w A l.length l) (hk : SB w kb key) (hl : l.length ≤ 4611686018427387904) :
    Calls Tryz.prog 87 #[.slice A l.length c, .func (.func 88) #[] #[.pointer (some ⟨kb, 0, none⟩)]] w fun e w' => (∃ r : Int, e = .returned (.int .i64 r) ∧ IdxAt key l r) ∧ Below w.heap.size w w' := by
  have hu60 := Tryz.underlying60
  have HC := Aside0.mk hC
  have HK := Aside0.mk hk
  clear hC hk
  go_enter Tryz.func87, Tryz.ntmps87
  go_wp2
  go_loopw [8] (fun v8 wr => ∃ k : Nat, k ≤ l.length ∧ v8 = .int .i64 k ∧ Aside0 (∀ j : Nat, j < k → (rd_T60 l j).f0 ≠ key) ∧ Aside0 (Below w.heap.size w wr)) (fun v8 _ => l.length - (intOf v8).toNat)
  case atStart => exact ⟨0, Nat.zero_le _, rfl, ⟨fun j hj => by omega⟩, ⟨Below.refl _ _⟩⟩
  case round =>
    obtain ⟨k, hk, rfl, hJ, hB⟩ := hrel
    by_cases hlt : k < l.length
    · have hltd : decide ((k : Int) < (l.length : Int)) = true := decide_eq_true (by omega)
      have hK2 := HK.out.below hB.out
      obtain ⟨ad, hA, h0, h1, h2, h3⟩ := at_T60 (Kd.C_below HC.out hB.out) (k : Int) (by omega) (by omega)
      subst hA
      simp only [Int.toNat_natCast] at h0 h1 h2 h3
      have p1 : (0 ≤ (k : Int)) = True := eq_true (by omega)
      have p2 : ((k : Int) < (l.length : Int)) = True := eq_true (by omega)
      have hcall := same_key (rd_T60 l k) kb key wr hK2
      rw [str_eq] at hcall
      by_cases hm : (rd_T60 l k).f0 = key
      · rw [decide_eq_true hm] at hcall
        have hI : Aside0 (IdxAt key l (k : Int)) := ⟨Or.inl ⟨k, rfl, hlt, hm, hJ.out⟩⟩
        clear hm hJ
        generalize hq : rd_T60 l k = q at *
        clear hq
        go_wp2_with (first | (go_at_call 88; refine hcall.mono ?_; rintro e w' ⟨rfl, hb⟩))
        go_ret
        exact ⟨⟨_, rfl, hI.out⟩, hB.out.trans (hb.mono hB.out.size)⟩
      · rw [decide_eq_false hm] at hcall
        have hI : Aside0 (∀ j : Nat, j < k + 1 → (rd_T60 l j).f0 ≠ key) := ⟨fun j hj => by
          by_cases h : j < k
          · exact hJ.out j h
          · obtain rfl : j = k := by omega
            exact hm⟩
        clear hm hJ
        generalize hq : rd_T60 l k = q at *
        clear hq
        go_wp2_with (first | (go_at_call 88; refine hcall.mono ?_; rintro e w' ⟨rfl, hb⟩))
        go_roundw
        case rel => exact ⟨k + 1, by omega, by go_num, hI, ⟨hB.out.trans (hb.mono hB.out.size)⟩⟩
        case measure => simp [intOf]; omega
    · obtain rfl : k = l.length := by omega
      have hltd : decide ((l.length : Int) < (l.length : Int)) = false := decide_eq_false (by omega)
      have hI : Aside0 (IdxAt key l (-1)) := ⟨Or.inr ⟨rfl, hJ.out⟩⟩
      clear hJ
      go_wp2
      go_ret
      exact ⟨⟨_, rfl, hI.out⟩, hB.out⟩
/-- The parameters that a text begins with. -/
def withP (key : ByteArray) (l : List S60) (p : S60) : List S60 :=
  match l.findIdx? (fun q => decide (q.f0 = key)) with | some i => l.set i p | none => l ++ [p]
def pF : Nat → ByteArray → List S60 → Option (List S60 × ByteArray)
  | 0, _, _ => none
  | d + 1, s, l => if atF s 59 = true then
      (rdKey (drpB spP (tl s))).bind fun kr =>
        if atF kr.2 61 = true then (rdValue (tl kr.2)).bind fun vr => pF d vr.2 (withP kr.1 l ⟨kr.1, vr.1.1, vr.1.2.1, vr.1.2.2⟩)
        else pF d kr.2 (withP kr.1 l ⟨kr.1, 6, 1, ⟨#[]⟩⟩)
    else some (l, s)
def rdParams (s : ByteArray) : Option (List S60 × ByteArray) := pF (s.size + 1) s []
theorem withP_len (key : ByteArray) (l : List S60) (p : S60) : (withP key l p).length ≤ l.length + 1 := by
  unfold withP
  split
  · rw [List.length_set]; omega
  · simp
theorem rd_get (l : List S60) (j : Nat) (h : j < l.length) : rd_T60 l j = l[j] := by
  unfold rd_T60
  simp [List.getD_eq_getElem?_getD, List.getElem?_eq_getElem h]
theorem withP_at (key : ByteArray) (l : List S60) (p : S60) (i : Nat) (hi : i < l.length) (h1 : (rd_T60 l i).f0 = key) (h2 : ∀ j : Nat, j < i → (rd_T60 l j).f0 ≠ key) : withP key l p = l.set i p := by
  have : l.findIdx? (fun q => decide (q.f0 = key)) = some i := by
    rw [List.findIdx?_eq_some_iff_getElem]
    refine ⟨hi, by rw [rd_get l i hi] at h1; exact decide_eq_true h1, fun j hj => ?_⟩
    have := h2 j hj
    rw [rd_get l j (by omega)] at this
    simpa using this
  unfold withP; rw [this]
theorem withP_none (key : ByteArray) (l : List S60) (p : S60) (h : ∀ j : Nat, j < l.length → (rd_T60 l j).f0 ≠ key) : withP key l p = l ++ [p] := by
  have : l.findIdx? (fun q => decide (q.f0 = key)) = none := by
    rw [List.findIdx?_eq_none_iff]
    intro x hx
    obtain ⟨j, hj, rfl⟩ := List.getElem_of_mem hx
    have := h j hj
    rw [rd_get l j hj] at this
    simpa using this
  unfold withP; rw [this]
theorem key_rest {s : ByteArray} {k t : ByteArray} (h : rdKey s = some (k, t)) : t.size ≤ s.size := by
  unfold rdKey at h
  by_cases c : 0 < s.size ∧ (smP (bt s 0) = true ∨ bt s 0 = 42)
  · rw [if_pos c] at h
    have := (Prod.mk.inj (Option.some.inj h)).2
    rw [← this]; exact drp_size _ _
  · rw [if_neg c] at h; cases h
theorem some_rest {α : Type} {a v : α} {b t : ByteArray} {n : Nat} (h : some (a, b) = some (v, t)) (hb : b.size ≤ n) : t.size ≤ n := by
  have := (Prod.mk.inj (Option.some.inj h)).2
  rw [← this]; exact hb
theorem none_rest {α : Type} {v : α} {t : ByteArray} {P : Prop} (h : (none : Option (α × ByteArray)) = some (v, t)) : P := nomatch h
theorem number_rest {s : ByteArray} {v : Int × Int × ByteArray} {t : ByteArray} (h : rdNumber s = some (v, t)) : t.size ≤ s.size := by
  rw [rdNumber_eq] at h
  have h1 := atR_size s 45
  have h2 := drp_size dgP (atR s 45)
  have h3 := tl_size (drpB dgP (atR s 45))
  have h4 := drp_size dgP (tl (drpB dgP (atR s 45)))
  by_cases c1 : (takB dgP (atR s 45)).size = 0
  · rw [if_pos c1] at h; exact none_rest h
  · rw [if_neg c1] at h
    by_cases c2 : atF (drpB dgP (atR s 45)) 46 = true
    · rw [if_pos c2] at h
      by_cases c3 : (takB dgP (atR s 45)).size > 12 ∨ (takB dgP (tl (drpB dgP (atR s 45)))).size = 0 ∨ (takB dgP (tl (drpB dgP (atR s 45)))).size > 3
      · rw [if_pos c3] at h; exact none_rest h
      · rw [if_neg c3] at h; exact some_rest h (by omega)
    · rw [if_neg c2] at h
      by_cases c4 : (takB dgP (atR s 45)).size > 15
      · rw [if_pos c4] at h; exact none_rest h
      · rw [if_neg c4] at h; exact some_rest h (by omega)
theorem qF_rest : ∀ (d : Nat) (s : ByteArray) (xs : List Int) (o t : ByteArray), qF d s xs = some (o, t) → t.size ≤ s.size
  | 0, _, _, _, _, h => by rw [qF] at h; exact none_rest h
  | d + 1, s, xs, o, t, h => by
    have ih := qF_rest d
    rw [qF] at h
    have h1 := tl_size s
    have h2 := tl_size (tl s)
    by_cases c1 : 0 < s.size
    · rw [if_pos c1] at h
      by_cases c2 : bt s 0 = 34
      · rw [if_pos c2] at h; exact some_rest h h1
      · rw [if_neg c2] at h
        by_cases c3 : bt s 0 < 32 ∨ 126 < bt s 0 ∨ (bt s 0 = 92 ∧ ¬ (0 < (tl s).size ∧ wiP (bt (tl s) 0) ⟨#[34, 92]⟩ = true))
        · rw [if_pos c3] at h; exact none_rest h
        · rw [if_neg c3] at h
          by_cases c4 : bt s 0 = 92
          · rw [if_pos c4] at h; exact Nat.le_trans (ih _ _ _ _ h) (Nat.le_trans h2 h1)
          · rw [if_neg c4] at h; exact Nat.le_trans (ih _ _ _ _ h) h1
    · rw [if_neg c1] at h; exact none_rest h
theorem quoted_rest {s : ByteArray} {v : Int × Int × ByteArray} {t : ByteArray} (h : rdQuoted s = some (v, t)) : t.size ≤ s.size := by
  unfold rdQuoted at h
  obtain ⟨p, hp, he⟩ := Option.map_eq_some_iff.1 h
  have := (Prod.mk.inj he).2
  rw [← this]
  exact qF_rest _ _ _ p.1 p.2 hp
theorem value_rest {s : ByteArray} {v : Int × Int × ByteArray} {t : ByteArray} (h : rdValue s = some (v, t)) : t.size ≤ s.size := by
  have h1 := tl_size s
  unfold rdValue at h
  by_cases c0 : 0 < s.size
  · rw [if_pos c0] at h
    by_cases c1 : bt s 0 = 45 ∨ dgP (bt s 0) = true
    · rw [if_pos c1] at h; exact number_rest h
    · rw [if_neg c1] at h
      by_cases c2 : leP (bt s 0) = true ∨ bt s 0 = 42
      · rw [if_pos c2] at h; exact some_rest h (drp_size _ _)
      · rw [if_neg c2] at h
        by_cases c3 : bt s 0 = 34
        · rw [if_pos c3] at h; exact Nat.le_trans (quoted_rest h) h1
        · rw [if_neg c3] at h
          by_cases c4 : bt s 0 = 58
          · rw [if_pos c4] at h
            unfold rdBytes at h
            by_cases c5 : atF (drpB baP (tl s)) 58 = true
            · rw [if_pos c5] at h; exact some_rest h (Nat.le_trans (tl_size _) (Nat.le_trans (drp_size _ _) h1))
            · rw [if_neg c5] at h; exact none_rest h
          · rw [if_neg c4] at h
            by_cases c6 : bt s 0 = 63
            · rw [if_pos c6] at h
              unfold rdBool at h
              by_cases c7 : atF (tl s) 49 = true
              · rw [if_pos c7] at h; exact some_rest h (Nat.le_trans (tl_size _) h1)
              · rw [if_neg c7] at h
                by_cases c8 : atF (tl s) 48 = true
                · rw [if_pos c8] at h; exact some_rest h (Nat.le_trans (tl_size _) h1)
                · rw [if_neg c8] at h; exact none_rest h
            · rw [if_neg c6] at h; exact none_rest h
  · rw [if_neg c0] at h; exact none_rest h
theorem R_kb {W W' : World} {B g : Nat} {ok : Nat → Prop} {v : Value} {l : List S60} (h : Kd.R k60 60 W B ok v l) (hk : KB g W W') (hok : ∀ k, ok k → k ≠ g) : Kd.R k60 60 W' B ok v l := Kd.R_step h (fun k ho hl => hk.block k hl (hok k ho))
theorem SB.far {W : World} {b : Nat} {s : ByteArray} (h : SB W b s) {p : Addr} (hp : b ≠ p.block) (u : Value) : SB (W.setCell p u) b s := blk_far h hp u
theorem SB.put {W : World} {b c : Nat} {s : ByteArray} (h : SB W b s) (hc : b ≠ c) (k : ByteArray) (n i : Int) (t : ByteArray) : SB (putP W c k n i t) b s :=
  (((h.far (p := ⟨c, 0, none⟩) hc _).far (p := ⟨c, 1, none⟩) hc _).far (p := ⟨c, 2, none⟩) hc _).far (p := ⟨c, 3, none⟩) hc _
theorem R_put {W : World} {B b : Nat} {ok : Nat → Prop} {v : Value} {l : List S60} (h : Kd.R k60 60 W B ok v l) (hok : ∀ k, ok k → k ≠ b) (k : ByteArray) (n i : Int) (t : ByteArray) : Kd.R k60 60 (putP W b k n i t) B ok v l :=
  Kd.R_far (p := ⟨b, 3, none⟩) (Kd.R_far (p := ⟨b, 2, none⟩) (Kd.R_far (p := ⟨b, 1, none⟩) (Kd.R_far (p := ⟨b, 0, none⟩) h hok _) hok _) hok _) hok _
theorem R_block {W : World} {B : Nat} {ok : Nat → Prop} {A : Option Addr} {c : Nat} {l : List S60} (h : Kd.R k60 60 W B ok (.slice A l.length c) l) (hl : 0 < l.length) : ∃ gl, A = some ⟨gl, 0, none⟩ := by
  obtain ⟨inner, ho⟩ := Kd.R_own h
  rcases ho.2 with ⟨he, h0⟩ | ⟨g, cap, cur, he, _⟩
  · omega
  · injection he with h1 h2 h3
    exact ⟨g, h1⟩
/-- What params gives. -/
def GivesL (g : Nat) (w : World) (r : Option (List S60 × ByteArray)) (e : Ending) (w' : World) : Prop :=
  (match r with | some (l, t) => ∃ v : Value, e = .returned v ∧ Kd.R k60 60 w' w.heap.size (fun _ => True) v l ∧ Rd w' g t | none => e = gave) ∧ KB g w w'
theorem GivesL.dead {g : Nat} {w w' : World} {r : Option (List S60 × ByteArray)} (h : r = none) (hk : KB g w w') : GivesL g w r gave w' := by subst h; exact ⟨rfl, hk⟩
theorem GivesL.ok {g : Nat} {w w' : World} {r : Option (List S60 × ByteArray)} {l : List S60} {t : ByteArray} {v : Value} {e : Ending} (h : r = some (l, t)) (he : e = .returned v) (hR : Kd.R k60 60 w' w.heap.size (fun _ => True) v l) (hD : Rd w' g t) (hk : KB g w w') : GivesL g w r e w' := by subst h; exact ⟨⟨v, he, hR, hD⟩, hk⟩
theorem while_space (g : Nat) (s : ByteArray) (w : World) (hs : s.size ≤ 9223372036854775806) (hI : Rd w g s) :
    Calls Tryz.prog 81 #[.pointer (some ⟨g, 0, none⟩), .func (.func 86) #[] #[]] w fun e w' => e = .returned (.string (takB spP s)) ∧ Rd w' g (drpB spP s) ∧ KB g w w' := while_calls 86 spP asks_space (Go.Proofs.enters_of Tryz.func86 (by kernel_rfl) rfl) g s w hs hI
set_option maxHeartbeats 8000000 in
set_option maxRecDepth 100000 in
theorem params_calls (g : Nat) (s : ByteArray) (w : World) (hs : s.size ≤ 2199023255552) (hI : Rd w g s) :
    Calls Tryz.prog 51 #[.pointer (some ⟨g, 0, none⟩)] w fun e w' => GivesL g w (rdParams s) e w' := by
  have hmf : ∀ (fn : Fn) (first cap : Array Value) (w : World), (Instr.makeFunc fn first cap).run Tryz.prog w = .ok (.func fn first cap) w := fun _ _ _ _ => rfl
  have hu60 := Tryz.underlying60
  have hI1 := Aside0.mk hI
  clear hI
  go_enter Tryz.func51, Tryz.ntmps51
  go_wp2
  go_loopg [2, 4, 5, 6] (s.size + 1) (fun gf v2 v4 v5 v6 wx => ∃ (t : ByteArray) (l : List S60), Aside0 (Kd.R k60 60 wx w.heap.size (fun _ => True) v2 l) ∧ Aside0 (Rd wx g t) ∧ Aside0 (KB g w wx) ∧ Aside0 (rdParams s = pF gf t l) ∧ t.size < gf ∧ l.length + t.size ≤ s.size)
  case atStart => exact ⟨s, [], ⟨Kd.R_nil _ _ _ _ _⟩, hI1, ⟨KB.refl _ _⟩, ⟨rfl⟩, by omega, by simp⟩
  case round =>
    have hgw : g < w.heap.size := hI1.out.lt
    clear hI1
    obtain ⟨t, l, HR, HD, HK, HQ, hlt, hln⟩ := hrel
    obtain ⟨g', rfl⟩ : ∃ g', gk = g' + 1 := ⟨gk - 1, by omega⟩
    have hq : rdParams s = pF (g' + 1) t l := HQ.out
    clear HQ
    rw [pF] at hq
    cases h59 : atF t 59 with
    | false =>
      rw [if_neg (by rw [h59]; decide)] at hq
      have HG := Aside0.mk hq
      have hA := Aside0.mk (at_no g t 59 h59)
      clear hq h59
      go_wp2_with (first | (go_at_call 83; refine (hA.out _ HD.out).mono ?_; rintro e w2 ⟨rfl, hR2, hB2⟩))
      go_ret
      exact GivesL.ok HG.out rfl (Kd.R_mono (R_kb (Kd.R_types HR.out HD.out (by decide)) hB2 (fun _ hk => hk.2)) (fun _ _ => trivial)) hR2 (HK.out.trans hB2)
    | true =>
      rw [if_pos h59] at hq
      have h0 : 0 < t.size := (of_decide_eq_true h59).1
      have htl := tl_lt t h0
      have hA := Aside0.mk (at_yes g t 59 h59)
      have hz1 := drp_size spP (tl t)
      have hWs := Aside0.mk (fun W (h : Rd W g (tl t)) => while_space g (tl t) W (by omega) h)
      have hKc := fun W (h : Rd W g (drpB spP (tl t))) => key_calls g (drpB spP (tl t)) W (by omega) h
      cases hN : rdKey (drpB spP (tl t)) with
      | none =>
        rw [hN] at hq hKc
        have HG : Aside0 (rdParams s = none) := ⟨hq⟩
        have hKy := Aside0.mk hKc
        clear hq hKc hN h59
        go_wp2_with (first | (go_at_call 65; refine (hKy.out _ hR3).mono ?_; rintro e w4 ⟨rfl, hB4⟩) | (go_at_call 81; refine (hWs.out _ hR2).mono ?_; rintro e w3 ⟨rfl, hR3, hB3⟩) | (go_at_call 83; refine (hA.out _ HD.out).mono ?_; rintro e w2 ⟨rfl, hR2, hB2⟩))
        exact ⟨rfl, GivesL.dead HG.out (((HK.out.trans hB2).trans hB3).trans hB4)⟩
      | some kr =>
        obtain ⟨key, t2⟩ := kr
        have hz2 := key_rest hN
        rw [hN] at hq hKc
        have hq2 : rdParams s = if atF t2 61 = true then (rdValue (tl t2)).bind fun vr => pF g' vr.2 (withP key l ⟨key, vr.1.1, vr.1.2.1, vr.1.2.2⟩) else pF g' t2 (withP key l ⟨key, 6, 1, ⟨#[]⟩⟩) := hq
        have HQ := Aside0.mk hq2
        have hKy := Aside0.mk hKc
        clear hq hKc hN h59 hq2
        go_upto_region 6 with (first | (go_at_call 65; refine (hKy.out _ hR3).mono ?_; rintro e w4 ⟨⟨rfl, hR4⟩, hB4⟩) | (go_at_call 81; refine (hWs.out _ hR2).mono ?_; rintro e w3 ⟨rfl, hR3, hB3⟩) | (go_at_call 83; refine (hA.out _ HD.out).mono ?_; rintro e w2 ⟨rfl, hR2, hB2⟩))
        have hkb : w.heap.size ≤ w4.heap.size := ((((HK.out.trans hB2).trans hB3).trans hB4)).size
        have HR4 : Kd.R k60 60 w4 w.heap.size (fun k => k < w4.heap.size ∧ k ≠ g) u2 l :=
          Kd.R_mono (Kd.R_bound (R_kb (R_kb (R_kb (Kd.R_types HR.out HD.out (by decide)) hB2 (fun _ hk => hk.2)) hB3 (fun _ hk => hk.2)) hB4 (fun _ hk => hk.2))) (fun _ hk => ⟨hk.2.2.1, hk.1.2⟩)
        have HR5 := Aside0.mk (Kd.R_alloc (Kd.R_alloc HR4 (.cells #[.string key] 9)) (.cells #[.string ⟨#[]⟩, .int .i64 6, .int .i64 1, .string ⟨#[]⟩] 60))
        have HD5 := Aside0.mk ((hR4.alloc (.cells #[.string key] 9)).alloc (.cells #[.string ⟨#[]⟩, .int .i64 6, .int .i64 1, .string ⟨#[]⟩] 60))
        have HS5 : Aside0 (SB ((w4.alloc (.cells #[.string key] 9)).alloc (.cells #[.string ⟨#[]⟩, .int .i64 6, .int .i64 1, .string ⟨#[]⟩] 60)) w4.heap.size key) := ⟨blk_alloc (by have := blk_new w4 (.cells #[.string key] 9); simpa using this) _⟩
        have HP5 : Aside0 (PB ((w4.alloc (.cells #[.string key] 9)).alloc (.cells #[.string ⟨#[]⟩, .int .i64 6, .int .i64 1, .string ⟨#[]⟩] 60)) (w4.heap.size + 1) ⟨#[]⟩ 6 1 ⟨#[]⟩) := ⟨by
          have := PB.mk_new (w4.alloc (.cells #[.string key] 9)) 6 1 ⟨#[]⟩
          simpa using this⟩
        have HK5 := Aside0.mk (((((HK.out.trans hB2).trans hB3).trans hB4).alloc (.cells #[.string key] 9)).alloc (.cells #[.string ⟨#[]⟩, .int .i64 6, .int .i64 1, .string ⟨#[]⟩] 60))
        clear hB2 hB3 hB4 hR2 hR3 hR4 HR4 HR HD HK hA hWs hKy
        generalize (w4.alloc (.cells #[.string key] 9)).alloc (.cells #[.string ⟨#[]⟩, .int .i64 6, .int .i64 1, .string ⟨#[]⟩] 60) = w5 at *
        generalize w4.heap.size = kb at *
        have hgk : kb ≠ g := by omega
        have hgk1 : kb + 1 ≠ g := by omega
        have hA6 := Aside0.mk (fun W (h : Rd W g t2) => at_calls g t2 61 W h)
        go_upto_if 17 with (first | (go_at_call 83; refine (hA6.out _ HD5.out).mono ?_; rintro e w6 ⟨rfl, hR6, hB6⟩))
        have HR6 := Aside0.mk (R_kb HR5.out hB6 (fun _ hk => hk.2))
        have HS6 : Aside0 (SB w6 kb key) := ⟨hB6.blk HS5.out hgk⟩
        have HP6 := Aside0.mk (HP5.out.kb hB6 hgk1)
        have HK6 := Aside0.mk (HK5.out.trans hB6)
        have HD6 := Aside0.mk hR6
        clear hB6 hR6 HR5 HD5 HS5 HP5 HK5 hA6
        go_cut [] (fun wc => ∃ (kd iv : Int) (tx t3 : ByteArray), Aside0 (Rd wc g t3) ∧ Aside0 (SB wc kb key) ∧ Aside0 (PB wc (kb + 1) ⟨#[]⟩ kd iv tx) ∧ Aside0 (Kd.R k60 60 wc w.heap.size (fun k => k < kb ∧ k ≠ g) u2 l) ∧ Aside0 (KB g w wc) ∧ Aside0 (rdParams s = pF g' t3 (withP key l ⟨key, kd, iv, tx⟩)) ∧ t3.size ≤ t2.size)
        case first =>
          cases h61 : atF t2 61 with
          | false =>
            have hq := HQ.out
            rw [if_neg (by rw [h61]; decide)] at hq
            have HG := Aside0.mk hq
            have er : atR t2 61 = t2 := if_neg (by rw [h61]; decide)
            rw [er] at HD6
            clear HQ hq
            go_wp2
            go_meet
            case rel => exact ⟨6, 1, _, t2, HD6, HS6, HP6, HR6, HK6, HG, Nat.le_refl _⟩
          | true =>
            have hq := HQ.out
            rw [if_pos h61] at hq
            have er : atR t2 61 = tl t2 := if_pos h61
            rw [er] at HD6
            have hzt := tl_size t2
            have hVc := fun W (h : Rd W g (tl t2)) => value_calls g (tl t2) W (by omega) h
            cases hN : rdValue (tl t2) with
            | none =>
              rw [hN] at hq hVc
              have HG : Aside0 (rdParams s = none) := ⟨hq⟩
              have hVa := Aside0.mk hVc
              clear HQ hq hVc hN
              go_wp2_with (first | (go_at_call 50; refine (hVa.out _ HD6.out).mono ?_; rintro e w7 ⟨rfl, hB7⟩))
              exact ⟨rfl, GivesL.dead HG.out (HK6.out.trans hB7)⟩
            | some vr =>
              obtain ⟨⟨kd, iv, tx⟩, t3⟩ := vr
              have hz3 := value_rest hN
              rw [hN] at hq hVc
              have hq2 : rdParams s = pF g' t3 (withP key l ⟨key, kd, iv, tx⟩) := hq
              have HG := Aside0.mk hq2
              have hVa := Aside0.mk hVc
              clear HQ hq hVc hN hq2
              go_wp2_with (first | (go_at_call 50; refine ((hVa.out _ HD6.out).mono (fun e w' h => gp h)).mono ?_; rintro e w7 ⟨⟨rfl, hR7⟩, hB7⟩; have hP7 := HP6.out.kb hB7 hgk1; have hp0 := hP7.c0; have hp1 := hP7.c1; have hp2 := hP7.c2; have hp3 := hP7.c3; have hf0 := hP7.fr 0; have hf1 := hP7.fr 1; have hf2 := hP7.fr 2; have hf3 := hP7.fr 3))
              go_meet
              case rel => exact ⟨kd, iv, tx, t3, ⟨hR7.put (fun e => hgk1 e.symm) _ _ _ _⟩, ⟨SB.put (hB7.blk HS6.out hgk) (by omega) _ _ _ _⟩, ⟨hP7.put _ _ _ _⟩, ⟨R_put (R_kb HR6.out hB7 (fun _ hk => hk.2)) (fun k hk => by omega) _ _ _ _⟩, ⟨(HK6.out.trans hB7).put (by omega) _ _ _ _⟩, HG, by omega⟩
        case rest =>
          clear HQ HR6 HS6 HP6 HK6 HD6
          obtain ⟨kd, iv, tx, t3, HD7, HS7, HP7, HR7, HK7, HG, hz3⟩ := hcut
          obtain ⟨A, c, hv⟩ := Kd.R_slice HR7.out
          subst hv
          have hf0 := HP7.out.fr 0
          have hc0 := HP7.out.c0
          have hs0 := HS7.out.cell
          have HP8 : Aside0 (PB (wc.setCell ⟨kb + 1, 0, none⟩ (.string key)) (kb + 1) key kd iv tx) := ⟨by have := blk_set HP7.out 0 (.string key); simpa [PB] using this⟩
          have HS8 := Aside0.mk (HS7.out.far (p := ⟨kb + 1, 0, none⟩) (by simp) (.string key))
          have HD8 := Aside0.mk (HD7.out.far (p := ⟨kb + 1, 0, none⟩) (fun e => hgk1 e.symm) (.string key))
          have HR8 := Aside0.mk (Kd.R_far (p := ⟨kb + 1, 0, none⟩) HR7.out (fun k hk => by simp only; omega) (.string key))
          have HK8 := Aside0.mk (HK7.out.far (p := ⟨kb + 1, 0, none⟩) (by simp only; omega) (.string key))
          have hIx := Aside0.mk (index_calls A c l kb key _ (Kd.R_reads' HR8.out).2.2 HS8.out (by omega))
          clear HD7 HS7 HP7 HR7 HK7
          go_upto_region 10 with (first | (go_at_call 87; refine hIx.out.mono ?_; rintro e w9 ⟨⟨r, rfl, hAt⟩, hb9⟩))
          have HP9 : Aside0 (PB w9 (kb + 1) key kd iv tx) := ⟨blk_below HP8.out hb9⟩
          have HD9 : Aside0 (Rd w9 g t3) := ⟨blk_below HD8.out hb9⟩
          have HR9 := Aside0.mk (Kd.R_below HR8.out hb9)
          have HK9 := Aside0.mk (HK8.out.below hb9)
          clear hf0 hc0 hs0 HP8 HS8 HD8 HR8 HK8 hIx hb9
          have hc0 := HP9.out.c0
          have hc1 := HP9.out.c1
          have hc2 := HP9.out.c2
          have hc3 := HP9.out.c3
          rcases hAt with ⟨i, rfl, hi, hm, hn⟩ | ⟨rfl, hn⟩
          · have HE := Aside0.mk (HG.out.trans (by rw [withP_at key l _ i hi hm hn]))
            clear HG hm hn
            have hd : decide (0 ≤ (i : Int)) = true := decide_eq_true (by omega)
            have p1 : (0 ≤ (i : Int)) = True := eq_true (by omega)
            have p2 : ((i : Int) < (l.length : Int)) = True := eq_true (by omega)
            obtain ⟨gl, rfl⟩ := R_block HR9.out (by omega)
            have hne2 : gl ≠ g := by
              have := (HR9.out.1 gl (by simp [Value.ownBlock])).2
              exact this
            have hcc : ∀ (j : Nat) (u : Value), ([.string (rd_T60 l i).f0, .int .i64 (rd_T60 l i).f1, .int .i64 (rd_T60 l i).f2, .string (rd_T60 l i).f3] : List Value)[j]? = some u → w9.cell? ⟨gl, (i : Int).toNat * 4 + j, none⟩ = some u := by
              obtain ⟨ad, hA, h0, h1, h2, h3⟩ := at_T60 (Kd.R_reads' HR9.out).2.2 (i : Int) (by omega) (by omega)
              injection hA with hA
              subst hA
              have ea : (⟨gl, 0, none⟩ : Addr).add ((i : Int).toNat * 4) = ⟨gl, (i : Int).toNat * 4, none⟩ := by simp [Addr.add]; omega
              rw [ea] at h0 h1 h2 h3
              intro j u hj
              rcases j with _ | _ | _ | _ | j
              · simp at hj; subst hj; exact h0
              · simp at hj; subst hj; exact h1
              · simp at hj; subst hj; exact h2
              · simp at hj; subst hj; exact h3
              · simp at hj
            have HCC := Aside0.mk hcc
            clear hcc
            go_wp2_with (first | ((with_reducible refine gate_ (.store 60 (.tmp 30) (.tmp 29)) rfl ?_); refine Kd.R_store k60 (w0 := w9) (W := w9) w.heap.size rfl rfl 60 (.tmp 30) (.tmp 29) rfl 60 (g := gl) (i : Int) 0 l ⟨key, kd, iv, tx⟩ (.agg #[.string key, .int .i64 kd, .int .i64 iv, .string tx]) [.string key, .int .i64 kd, .int .i64 iv, .string tx] _ (fun k => k < kb ∧ k ≠ g) (fun _ => False) rfl ?hoff rfl rfl (by kernel_rfl) ?h1 HR9.out (by omega) (by omega) rfl HCC.out (Nat.le_refl _) (k60_mkM _ _ _ ⟨key, kd, iv, tx⟩) (fun _ hk => hk.elim) (Below.refl _ _) ?_; (case hoff => simp [k60, Kd.iso, Kd.pair, Kd.string, Kd.int, Kd.scalar]); (case h1 => simp [Value.oneCell']); intro w1 ho1 hb1 hg1; have hR1 : Rd w1 g t3 := blk_grown HD9.out hg1 (by simp only [ne_eq, Option.some.injEq]; exact fun e => hne2 e.symm); have hK1 := HK9.out.belowB hb1 (Nat.le_refl _); have HO1 := Aside0.mk (Kd.R_mono (ok' := fun _ => True) ho1 (fun _ _ => trivial)); have HR1 := Aside0.mk hR1; have HK1 := Aside0.mk hK1; clear ho1 hb1 hg1 hR1 hK1))
            go_roundg g'
            case measure => omega
            case rel => exact ⟨t3, l.set i ⟨key, kd, iv, tx⟩, by simpa using HO1, HR1, HK1, HE, by omega, by rw [List.length_set]; omega⟩
          · have HE := Aside0.mk (HG.out.trans (by rw [withP_none key l _ hn]))
            clear HG hn
            go_wp2_with (first | ((with_reducible refine gate_builtin (b := .append) (xs := #[.tmp 31, .tmp 33]) rfl ?_); at_builtin; refine Kd.R_append k60 (w0 := w9) w.heap.size rfl (.tmp 31) (.tmp 33) 29 60 (.agg #[.string ⟨#[]⟩, .int .i64 0, .int .i64 0, .string ⟨#[]⟩]) 48 rfl Tryz.underlying29 (by kernel_rfl) rfl (by decide) (by omega) (.slice A l.length c) l ⟨key, kd, iv, tx⟩ [.string key, .int .i64 kd, .int .i64 iv, .string tx] (fun _ => True) (fun _ => False) rfl rfl ?aP (fun _ hk => hk.elim) ?aF ?aO ?aB ?aS ?aL ?_; (case aP => exact k60_mkM _ _ _ ⟨key, kd, iv, tx⟩); (case aF => exact (fun _ _ => trivial)); (case aO => exact Kd.R_mono HR9.out (fun _ _ => trivial)); (case aB => exact Below.refl _ _); (case aS => exact HK9.out.size); (case aL => omega); intro v1 w1 ho1 hb1 hg1 hat1; have hR1 : Rd w1 g t3 := blk_grown HD9.out hg1 (Kd.R_ne HR9.out HD9.out (by decide)); have hK1 := HK9.out.belowB hb1 (Nat.le_refl _); have HO1 := Aside0.mk ho1; have HR1 := Aside0.mk hR1; have HK1 := Aside0.mk hK1; clear ho1 hb1 hg1 hat1 hR1 hK1))
            go_roundg g'
            case measure => omega
            case rel => exact ⟨t3, l ++ [⟨key, kd, iv, tx⟩], HO1, HR1, HK1, HE, by omega, by simp only [List.length_append, List.length_cons, List.length_nil]; omega⟩
set_option maxRecDepth 100000 in
theorem caught_some (w : World) : Calls Tryz.prog 49 #[.iface 24 (.int .i64 50)] w fun e w' => e = .returned (.int .i64 50) ∧ w' = w := by
  have hta : ∀ w : World, (Instr.typeAssert (.iface 24 (.int .i64 50)) 20 24 true).run Tryz.prog w = .ok (.tuple #[.int .i64 50, .bool true]) w := fun w => by
    simp [Instr.typeAssert, run_underlying Tryz.underlying24, go_sem, Result.andThen]
  go_enter Tryz.func49, Tryz.ntmps49
  go_wp2
  go_ret
  exact ⟨rfl, rfl⟩
set_option maxRecDepth 100000 in
theorem caught_none (w : World) : Calls Tryz.prog 49 #[.nilIface] w fun e w' => e = .returned (.int .i64 0) ∧ w' = w := by
  have hta : ∀ w : World, (Instr.typeAssert .nilIface 20 24 true).run Tryz.prog w = .ok (.tuple #[.int .i64 0, .bool false]) w := fun w => by
    simp [Instr.typeAssert, run_underlying Tryz.underlying24, go_sem, Result.andThen, Tryz.zeroValue24]
  go_enter Tryz.func49, Tryz.ntmps49
  go_wp2
  go_ret
  exact ⟨rfl, rfl⟩
abbrev thrown (b : Bool) : PanicEntry := { v := .iface 24 (.int .i64 50), recovered := b }
/-- A block of an item. -/
def IB (W : World) (b : Nat) (n i : Int) (t : ByteArray) (v : Value) : Prop := W.heap[b]? = some (.cells #[.int .i64 n, .int .i64 i, .string t, v] 31 (0, 0))
theorem IB.c0 {W : World} {b : Nat} {n i : Int} {t : ByteArray} {v : Value} (h : IB W b n i t v) : W.cell? ⟨b, 0, none⟩ = some (.int .i64 n) := (blk_cell h 0).trans rfl
theorem IB.c1 {W : World} {b : Nat} {n i : Int} {t : ByteArray} {v : Value} (h : IB W b n i t v) : W.cell? ⟨b, 1, none⟩ = some (.int .i64 i) := (blk_cell h 1).trans rfl
theorem IB.c2 {W : World} {b : Nat} {n i : Int} {t : ByteArray} {v : Value} (h : IB W b n i t v) : W.cell? ⟨b, 2, none⟩ = some (.string t) := (blk_cell h 2).trans rfl
theorem IB.c3 {W : World} {b : Nat} {n i : Int} {t : ByteArray} {v : Value} (h : IB W b n i t v) : W.cell? ⟨b, 3, none⟩ = some v := (blk_cell h 3).trans rfl
theorem IB.fr {W : World} {b : Nat} {n i : Int} {t : ByteArray} {v : Value} (h : IB W b n i t v) (j : Nat) : W.frozen? ⟨b, j, none⟩ = false := blk_frozen h j
def putI (W : World) (b : Nat) (n i : Int) (t : ByteArray) (v : Value) : World := (((W.setCell ⟨b, 0, none⟩ (.int .i64 n)).setCell ⟨b, 1, none⟩ (.int .i64 i)).setCell ⟨b, 2, none⟩ (.string t)).setCell ⟨b, 3, none⟩ v
set_option maxRecDepth 100000 in
set_option maxHeartbeats 2000000 in
theorem next_catch_panicking (pe px pr : Nat) (s2 : ByteArray) (n i k : Int) (t : ByteArray) (v : Value) (w : World) (he : w.heap[pe]? = some (.cells #[.int .i64 n] 24 (0, 0))) (hx : IB w px k i t v) (hr : SB w pr s2) :
    CallsD Tryz.prog 48 #[.pointer (some ⟨pe, 0, none⟩), .pointer (some ⟨px, 0, none⟩), .pointer (some ⟨pr, 0, none⟩)] (.panicking [thrown false]) w fun e u' w' =>
      e = .returned (.tuple #[]) ∧ u' = .panicking [thrown true] ∧ w' = (putI (w.setCell ⟨pe, 0, none⟩ (.int .i64 50)) px 0 0 ⟨#[]⟩ (.slice none 0 0)).setCell ⟨pr, 0, none⟩ (.string ⟨#[]⟩) := by
  have hne1 : pe ≠ px := blk_ne he hx (by decide)
  have hne2 : pe ≠ pr := blk_ne he hr (by decide)
  have hne3 : px ≠ pr := blk_ne hx hr (by decide)
  have hc0 : w.cell? ⟨pe, 0, none⟩ = some (.int .i64 n) := (blk_cell he 0).trans rfl
  have hf0 := blk_frozen he 0
  have hx0 := hx.c0
  have hx1 := hx.c1
  have hx2 := hx.c2
  have hx3 := hx.c3
  have hxf0 := hx.fr 0
  have hxf1 := hx.fr 1
  have hxf2 := hx.fr 2
  have hxf3 := hx.fr 3
  have hc2 := hr.cell
  have hf2 := blk_frozen hr 0
  refine callsD_of_wpS Tryz.func48 rfl fun c₀ cs hu => ?_
  apply wpS_seq
  apply wpS_region
  simp [wpOpsS, go_sem, recoverD, hu, Tryz.ntmps48, Exit.thenS]
  refine (caught_some _).mono ?_
  rintro e w' ⟨rfl, rfl⟩
  simp [go_sem, hc0, hf0]
  refine wpS_of_wp ?_
  go_wp2
  simp [bodyPostS, results, Tryz.results48, putI]
set_option maxRecDepth 100000 in
set_option maxHeartbeats 2000000 in
theorem next_catch_idle (pe pk pr : Nat) (n : Int) (w : World) (he : w.heap[pe]? = some (.cells #[.int .i64 n] 24 (0, 0))) :
    CallsD Tryz.prog 48 #[.pointer (some ⟨pe, 0, none⟩), .pointer (some ⟨pk, 0, none⟩), .pointer (some ⟨pr, 0, none⟩)] .returning w fun e u' w' =>
      e = .returned (.tuple #[]) ∧ u' = .returning ∧ w' = w.setCell ⟨pe, 0, none⟩ (.int .i64 0) := by
  have hc0 : w.cell? ⟨pe, 0, none⟩ = some (.int .i64 n) := (blk_cell he 0).trans rfl
  have hf0 := blk_frozen he 0
  refine callsD_of_wpS Tryz.func48 rfl fun c₀ cs hu => ?_
  apply wpS_seq
  apply wpS_region
  simp [wpOpsS, go_sem, recoverD, hu, Tryz.ntmps48, Exit.thenS]
  refine (caught_none _).mono ?_
  rintro e w' ⟨rfl, rfl⟩
  simp [go_sem, hc0, hf0]
  refine wpS_of_wp ?_
  go_wp2
  cases c₀
  simp_all [bodyPostS, results, Tryz.results48]
/-- A block of an error's number. -/
def EB (W : World) (b : Nat) (n : Int) : Prop := W.heap[b]? = some (.cells #[.int .i64 n] 24 (0, 0))
theorem EB.cell {W : World} {b : Nat} {n : Int} (h : EB W b n) : W.cell? ⟨b, 0, none⟩ = some (.int .i64 n) := (blk_cell h 0).trans rfl
theorem SB.set {W : World} {b : Nat} {s : ByteArray} (h : SB W b s) (t : ByteArray) : SB (W.setCell ⟨b, 0, none⟩ (.string t)) b t := by have := blk_set h 0 (.string t); simpa [SB] using this
theorem EB.set {W : World} {b : Nat} {n : Int} (h : EB W b n) (m : Int) : EB (W.setCell ⟨b, 0, none⟩ (.int .i64 m)) b m := by have := blk_set h 0 (.int .i64 m); simpa [EB] using this
theorem EB.far {W : World} {b : Nat} {n : Int} (h : EB W b n) {p : Addr} (hp : b ≠ p.block) (u : Value) : EB (W.setCell p u) b n := blk_far h hp u
def rdNext (s : ByteArray) : Option ((Int × Int × ByteArray) × List S60 × ByteArray) := (rdValue s).bind fun v => (rdParams v.2).bind fun p => some (v.1, p.1, p.2)
theorem IB.kb {W W' : World} {b g : Nat} {n i : Int} {t : ByteArray} {v : Value} (h : IB W b n i t v) (hk : KB g W W') (hg : b ≠ g) : IB W' b n i t v := hk.blk h hg
theorem IB.put {W : World} {b : Nat} {n i : Int} {t : ByteArray} {v : Value} (h : IB W b n i t v) (n' i' : Int) (t' : ByteArray) (v' : Value) : IB (putI W b n' i' t' v') b n' i' t' v' := by
  have h1 := blk_set h 0 (.int .i64 n'); have h2 := blk_set h1 1 (.int .i64 i'); have h3 := blk_set h2 2 (.string t'); have h4 := blk_set h3 3 v'
  unfold putI IB
  simpa using h4
theorem IB.set3 {W : World} {b : Nat} {n i : Int} {t : ByteArray} {v : Value} (h : IB W b n i t v) (v' : Value) : IB (W.setCell ⟨b, 3, none⟩ v') b n i t v' := by have := blk_set h 3 v'; simpa [IB] using this
theorem IB.far {W : World} {b : Nat} {n i : Int} {t : ByteArray} {v : Value} (h : IB W b n i t v) {p : Addr} (hp : b ≠ p.block) (u : Value) : IB (W.setCell p u) b n i t v := blk_far h hp u
theorem blk_putI {W : World} {g b : Nat} {o : Obj} (h : W.heap[g]? = some o) (hg : g ≠ b) (n i : Int) (t : ByteArray) (v : Value) : (putI W b n i t v).heap[g]? = some o := by
  unfold putI
  rw [Below.heap_setCell _ ⟨b, 3, none⟩ _ _ hg, Below.heap_setCell _ ⟨b, 2, none⟩ _ _ hg, Below.heap_setCell _ ⟨b, 1, none⟩ _ _ hg, Below.heap_setCell _ ⟨b, 0, none⟩ _ _ hg]
  exact h
theorem below_putI {w W : World} {b : Nat} (h : Below w.heap.size w W) (hb : w.heap.size ≤ b) (n i : Int) (t : ByteArray) (v : Value) : Below w.heap.size w (putI W b n i t v) :=
  (((h.setCell (p := ⟨b, 0, none⟩) hb _).setCell (p := ⟨b, 1, none⟩) hb _).setCell (p := ⟨b, 2, none⟩) hb _).setCell (p := ⟨b, 3, none⟩) hb _
theorem R_putI {W : World} {B b : Nat} {ok : Nat → Prop} {v : Value} {l : List S60} (h : Kd.R k60 60 W B ok v l) (hok : ∀ k, ok k → k ≠ b) (n i : Int) (t : ByteArray) (u : Value) : Kd.R k60 60 (putI W b n i t u) B ok v l :=
  Kd.R_far (p := ⟨b, 3, none⟩) (Kd.R_far (p := ⟨b, 2, none⟩) (Kd.R_far (p := ⟨b, 1, none⟩) (Kd.R_far (p := ⟨b, 0, none⟩) h hok _) hok _) hok _) hok _
/-- Next's four blocks. -/
structure N4 (w W : World) (s : ByteArray) : Prop where
  item : IB W w.heap.size 0 0 ⟨#[]⟩ (.slice none 0 0)
  rest : SB W (w.heap.size + 1) ⟨#[]⟩
  err : EB W (w.heap.size + 1 + 1) 0
  rd : Rd W (w.heap.size + 1 + 1 + 1) s
  below : Below w.heap.size w W
theorem N4.new (w : World) (s : ByteArray) : N4 w ((((w.alloc (.cells #[.int .i64 0, .int .i64 0, .string ⟨#[]⟩, .slice none 0 0] 31)).alloc (.cells #[.string ⟨#[]⟩] 9)).alloc (.cells #[.int .i64 0] 24)).alloc (.cells #[.string s] 82)) s where
  item := blk_alloc (blk_alloc (blk_alloc (by have := blk_new w (.cells #[.int .i64 0, .int .i64 0, .string ⟨#[]⟩, .slice none 0 0] 31); simpa using this) _) _) _
  rest := blk_alloc (blk_alloc (by have := blk_new (w.alloc (.cells #[.int .i64 0, .int .i64 0, .string ⟨#[]⟩, .slice none 0 0] 31)) (.cells #[.string ⟨#[]⟩] 9); simpa using this) _) _
  err := blk_alloc (by have := blk_new ((w.alloc (.cells #[.int .i64 0, .int .i64 0, .string ⟨#[]⟩, .slice none 0 0] 31)).alloc (.cells #[.string ⟨#[]⟩] 9)) (.cells #[.int .i64 0] 24); simpa using this) _
  rd := by have := blk_new (((w.alloc (.cells #[.int .i64 0, .int .i64 0, .string ⟨#[]⟩, .slice none 0 0] 31)).alloc (.cells #[.string ⟨#[]⟩] 9)).alloc (.cells #[.int .i64 0] 24)) (.cells #[.string s] 82); simpa [Rd] using this
  below := ((((Below.refl _ _).alloc (Nat.le_refl _) _).alloc (by simp) _).alloc (by simp; omega) _).alloc (by simp; omega) _
/-- What Next's results read as. -/
theorem next_results (w : World) (tmps : Array Value) (W : World) (n i : Int) (t u : ByteArray) (v : Value) (c : Int) (h2 : tmps.getD 2 undef = .pointer (some ⟨w.heap.size, 0, none⟩)) (h3 : tmps.getD 3 undef = .pointer (some ⟨w.heap.size + 1, 0, none⟩)) (h4 : tmps.getD 4 undef = .pointer (some ⟨w.heap.size + 1 + 1, 0, none⟩))
    (hI : IB W w.heap.size n i t v) (hS : SB W (w.heap.size + 1) u) (hE : EB W (w.heap.size + 1 + 1) c) :
    (results Tryz.f30 tmps).run Tryz.prog W = .ok (.tuple #[.agg #[.int .i64 n, .int .i64 i, .string t, v], .string u, .int .i64 c]) W := by
  have c0 := hI.c0
  have c1 := hI.c1
  have c2 := hI.c2
  have c3 := hI.c3
  have c4 := hS.cell
  have c5 := hE.cell
  have h2' : tmps[2]?.getD undef = .pointer (some ⟨w.heap.size, 0, none⟩) := by simpa using h2
  have h3' : tmps[3]?.getD undef = .pointer (some ⟨w.heap.size + 1, 0, none⟩) := by simpa using h3
  have h4' : tmps[4]?.getD undef = .pointer (some ⟨w.heap.size + 1 + 1, 0, none⟩) := by simpa using h4
  simp [results, Tryz.results30, go_sem, h2', h3', h4', c0, c1, c2, c3, c4, c5]
def NextPost (s : ByteArray) (w : World) (e : Ending) (w' : World) : Prop :=
  (match rdNext s with
    | some (v, l, t) => ∃ u : Value, e = .returned (.tuple #[.agg #[.int .i64 v.1, .int .i64 v.2.1, .string v.2.2, u], .string t, .int .i64 0]) ∧ Kd.R k60 60 w' w.heap.size (fun _ => True) u l
    | none => e = .returned (.tuple #[.agg #[.int .i64 0, .int .i64 0, .string ⟨#[]⟩, .slice none 0 0], .string ⟨#[]⟩, .int .i64 50])) ∧ Below w.heap.size w w'
theorem NextPost.dead {s : ByteArray} {w w' : World} (h : rdNext s = none) (hb : Below w.heap.size w w') : NextPost s w (.returned (.tuple #[.agg #[.int .i64 0, .int .i64 0, .string ⟨#[]⟩, .slice none 0 0], .string ⟨#[]⟩, .int .i64 50])) w' := by
  refine ⟨?_, hb⟩
  rw [h]
theorem NextPost.ok {s : ByteArray} {w w' : World} {v : Int × Int × ByteArray} {l : List S60} {t : ByteArray} {u : Value} (h : rdNext s = some (v, l, t)) (hR : Kd.R k60 60 w' w.heap.size (fun _ => True) u l) (hb : Below w.heap.size w w') : NextPost s w (.returned (.tuple #[.agg #[.int .i64 v.1, .int .i64 v.2.1, .string v.2.2, u], .string t, .int .i64 0])) w' := by
  refine ⟨?_, hb⟩
  rw [h]
  exact ⟨u, rfl, hR⟩
set_option maxRecDepth 100000 in
set_option maxHeartbeats 8000000 in
theorem Next_calls (s : ByteArray) (w : World) (hs : s.size ≤ 2199023255552) :
    Calls Tryz.prog 30 #[.string s] w fun e w' => NextPost s w e w' := by
  have hmf : ∀ (fn : Fn) (first cap : Array Value) (w : World), (Instr.makeFunc fn first cap).run Tryz.prog w = .ok (.func fn first cap) w := fun _ _ _ _ => rfl
  have h4 := Aside0.mk (N4.new w s)
  go_enter_defers Tryz.func30, Tryz.ntmps30
  go_upto_region 3 with (fail)
  generalize (((w.alloc (.cells #[.int .i64 0, .int .i64 0, .string ⟨#[]⟩, .slice none 0 0] 31)).alloc (.cells #[.string ⟨#[]⟩] 9)).alloc (.cells #[.int .i64 0] 24)).alloc (.cells #[.string s] 82) = w3 at *
  have hVc := value_calls _ s w3 (by omega) h4.out.rd
  cases hN : rdValue s with
  | none =>
    have HF : Aside0 (rdNext s = none) := ⟨by unfold rdNext; rw [hN]; rfl⟩
    rw [hN] at hVc
    have hVa := Aside0.mk hVc
    clear hVc hN
    go_wp2_with (first | (go_at_call 50; refine hVa.out.mono ?_; rintro e w4 ⟨rfl, hB4⟩))
    have hI4 : IB w4 w.heap.size 0 0 ⟨#[]⟩ (.slice none 0 0) := h4.out.item.kb hB4 (by omega)
    have hS4 : SB w4 (w.heap.size + 1) ⟨#[]⟩ := hB4.blk h4.out.rest (by omega)
    have hE4 : EB w4 (w.heap.size + 1 + 1) 0 := hB4.blk h4.out.err (by omega)
    have hb4 := hB4.toBelow h4.out.below (by omega)
    clear hB4
    refine leaves_cons (f := 48) (args := #[.pointer (some ⟨w.heap.size + 1 + 1, 0, none⟩), .pointer (some ⟨w.heap.size, 0, none⟩), .pointer (some ⟨w.heap.size + 1, 0, none⟩)]) (by simp) (by simp [go_sem]) ?_
    refine (next_catch_panicking _ _ _ _ _ _ _ _ _ _ hE4 hI4 hS4).mono ?_
    rintro e u' w'' ⟨rfl, rfl, rfl⟩
    have hI9 := ((hI4.far (p := ⟨w.heap.size + 1 + 1, 0, none⟩) (by simp only; omega) (.int .i64 50)).put 0 0 ⟨#[]⟩ (.slice none 0 0)).far (p := ⟨w.heap.size + 1, 0, none⟩) (by simp only; omega) (.string ⟨#[]⟩)
    have hS8 : SB (putI (w4.setCell ⟨w.heap.size + 1 + 1, 0, none⟩ (.int .i64 50)) w.heap.size 0 0 ⟨#[]⟩ (.slice none 0 0)) (w.heap.size + 1) ⟨#[]⟩ := blk_putI (hS4.far (p := ⟨w.heap.size + 1 + 1, 0, none⟩) (by simp only; omega) (.int .i64 50)) (by omega) 0 0 ⟨#[]⟩ (.slice none 0 0)
    have hE8 : EB (putI (w4.setCell ⟨w.heap.size + 1 + 1, 0, none⟩ (.int .i64 50)) w.heap.size 0 0 ⟨#[]⟩ (.slice none 0 0)) (w.heap.size + 1 + 1) 50 := blk_putI (hE4.set 50) (by omega) 0 0 ⟨#[]⟩ (.slice none 0 0)
    have hS9 := hS8.set ⟨#[]⟩
    have hE9 := hE8.far (p := ⟨w.heap.size + 1, 0, none⟩) (by simp only; omega) (.string ⟨#[]⟩)
    clear hS8 hE8
    have hb9 := (below_putI (hb4.setCell (p := ⟨w.heap.size + 1 + 1, 0, none⟩) (by simp only; omega) (.int .i64 50)) (Nat.le_refl _) 0 0 ⟨#[]⟩ (.slice none 0 0)).setCell (p := ⟨w.heap.size + 1, 0, none⟩) (by simp only; omega) (.string ⟨#[]⟩)
    generalize (putI (w4.setCell ⟨w.heap.size + 1 + 1, 0, none⟩ (.int .i64 50)) w.heap.size 0 0 ⟨#[]⟩ (.slice none 0 0)).setCell ⟨w.heap.size + 1, 0, none⟩ (.string ⟨#[]⟩) = w9 at *
    refine ⟨.tuple #[.agg #[.int .i64 0, .int .i64 0, .string ⟨#[]⟩, .slice none 0 0], .string ⟨#[]⟩, .int .i64 50], ?_, ?_⟩
    · exact next_results w _ w9 0 0 ⟨#[]⟩ ⟨#[]⟩ (.slice none 0 0) 50 rfl rfl rfl hI9 hS9 hE9
    · exact NextPost.dead HF.out hb9
  | some vt =>
    obtain ⟨⟨k, i, tx⟩, t⟩ := vt
    have hzt := value_rest hN
    rw [hN] at hVc
    have hVa := Aside0.mk hVc
    clear hVc
    go_upto_region 4 with (first | (go_at_call 50; refine (hVa.out.mono (fun e w' h => gp h)).mono ?_; rintro e w4 ⟨⟨rfl, hR4⟩, hB4⟩))
    have hR5 := hR4.alloc (.cells #[.string ⟨#[]⟩, .int .i64 k, .int .i64 i, .string tx] 60)
    have hP5 := PB.mk_new w4 k i tx
    have hI5 : IB (w4.alloc (.cells #[.string ⟨#[]⟩, .int .i64 k, .int .i64 i, .string tx] 60)) w.heap.size 0 0 ⟨#[]⟩ (.slice none 0 0) := blk_alloc (h4.out.item.kb hB4 (by omega)) _
    have hS5 : SB (w4.alloc (.cells #[.string ⟨#[]⟩, .int .i64 k, .int .i64 i, .string tx] 60)) (w.heap.size + 1) ⟨#[]⟩ := blk_alloc (hB4.blk h4.out.rest (by omega)) _
    have hE5 : EB (w4.alloc (.cells #[.string ⟨#[]⟩, .int .i64 k, .int .i64 i, .string tx] 60)) (w.heap.size + 1 + 1) 0 := blk_alloc (hB4.blk h4.out.err (by omega)) _
    have hb5 := below_alloc (hB4.toBelow h4.out.below (by omega)) (.cells #[.string ⟨#[]⟩, .int .i64 k, .int .i64 i, .string tx] 60)
    clear hR4 hB4 hVa h4
    generalize w4.alloc (.cells #[.string ⟨#[]⟩, .int .i64 k, .int .i64 i, .string tx] 60) = w5 at *
    have q1 := hP5.c1
    have q2 := hP5.c2
    have q3 := hP5.c3
    have i0 := hI5.c0
    have i1 := hI5.c1
    have i2 := hI5.c2
    have i3 := hI5.c3
    have j0 := hI5.fr 0
    have j1 := hI5.fr 1
    have j2 := hI5.fr 2
    have j3 := hI5.fr 3
    go_upto_region 5 with (fail)
    have hI6 := hI5.put k i tx (.slice none 0 0)
    have hS6 : SB (putI w5 w.heap.size k i tx (.slice none 0 0)) (w.heap.size + 1) ⟨#[]⟩ := blk_putI hS5 (by omega) _ _ _ _
    have hE6 : EB (putI w5 w.heap.size k i tx (.slice none 0 0)) (w.heap.size + 1 + 1) 0 := blk_putI hE5 (by omega) _ _ _ _
    have hR6 : Rd (putI w5 w.heap.size k i tx (.slice none 0 0)) (w.heap.size + 1 + 1 + 1) t := blk_putI hR5 (by omega) _ _ _ _
    have hb6 := below_putI hb5 (Nat.le_refl _) k i tx (.slice none 0 0)
    clear i0 i1 i2 i3 j0 j1 j2 j3 q1 q2 q3 hI5 hS5 hE5 hR5 hb5 hP5
    have hw6 : (((w5.setCell ⟨w.heap.size, 0, none⟩ (.int .i64 k)).setCell ⟨w.heap.size, 1, none⟩ (.int .i64 i)).setCell ⟨w.heap.size, 2, none⟩ (.string tx)).setCell ⟨w.heap.size, 3, none⟩ (.slice none 0 0) = putI w5 w.heap.size k i tx (.slice none 0 0) := rfl
    rw [hw6]
    clear hw6
    generalize putI w5 w.heap.size k i tx (.slice none 0 0) = w6 at *
    have hPc := params_calls _ t w6 (by omega) hR6
    cases hM : rdParams t with
    | none =>
      have HF : Aside0 (rdNext s = none) := ⟨by unfold rdNext; rw [hN]; show (rdParams t).bind _ = _; rw [hM]; rfl⟩
      rw [hM] at hPc
      have hPa := Aside0.mk hPc
      clear hPc hM hN
      go_wp2_with (first | (go_at_call 51; refine hPa.out.mono ?_; rintro e w7 ⟨rfl, hB7⟩))
      have hI7 := hI6.kb hB7 (by omega)
      have hS7 : SB w7 (w.heap.size + 1) ⟨#[]⟩ := hB7.blk hS6 (by omega)
      have hE7 : EB w7 (w.heap.size + 1 + 1) 0 := hB7.blk hE6 (by omega)
      have hb7 := hB7.toBelow hb6 (by omega)
      clear hB7
      refine leaves_cons (f := 48) (args := #[.pointer (some ⟨w.heap.size + 1 + 1, 0, none⟩), .pointer (some ⟨w.heap.size, 0, none⟩), .pointer (some ⟨w.heap.size + 1, 0, none⟩)]) (by simp) (by simp [go_sem]) ?_
      refine (next_catch_panicking _ _ _ _ _ _ _ _ _ _ hE7 hI7 hS7).mono ?_
      rintro e u' w'' ⟨rfl, rfl, rfl⟩
      have hI9 := ((hI7.far (p := ⟨w.heap.size + 1 + 1, 0, none⟩) (by simp only; omega) (.int .i64 50)).put 0 0 ⟨#[]⟩ (.slice none 0 0)).far (p := ⟨w.heap.size + 1, 0, none⟩) (by simp only; omega) (.string ⟨#[]⟩)
      have hS8 : SB (putI (w7.setCell ⟨w.heap.size + 1 + 1, 0, none⟩ (.int .i64 50)) w.heap.size 0 0 ⟨#[]⟩ (.slice none 0 0)) (w.heap.size + 1) ⟨#[]⟩ := blk_putI (hS7.far (p := ⟨w.heap.size + 1 + 1, 0, none⟩) (by simp only; omega) (.int .i64 50)) (by omega) 0 0 ⟨#[]⟩ (.slice none 0 0)
      have hE8 : EB (putI (w7.setCell ⟨w.heap.size + 1 + 1, 0, none⟩ (.int .i64 50)) w.heap.size 0 0 ⟨#[]⟩ (.slice none 0 0)) (w.heap.size + 1 + 1) 50 := blk_putI (hE7.set 50) (by omega) 0 0 ⟨#[]⟩ (.slice none 0 0)
      have hS9 := hS8.set ⟨#[]⟩
      have hE9 := hE8.far (p := ⟨w.heap.size + 1, 0, none⟩) (by simp only; omega) (.string ⟨#[]⟩)
      clear hS8 hE8
      have hb9 := (below_putI (hb7.setCell (p := ⟨w.heap.size + 1 + 1, 0, none⟩) (by simp only; omega) (.int .i64 50)) (Nat.le_refl _) 0 0 ⟨#[]⟩ (.slice none 0 0)).setCell (p := ⟨w.heap.size + 1, 0, none⟩) (by simp only; omega) (.string ⟨#[]⟩)
      generalize (putI (w7.setCell ⟨w.heap.size + 1 + 1, 0, none⟩ (.int .i64 50)) w.heap.size 0 0 ⟨#[]⟩ (.slice none 0 0)).setCell ⟨w.heap.size + 1, 0, none⟩ (.string ⟨#[]⟩) = w9 at *
      refine ⟨.tuple #[.agg #[.int .i64 0, .int .i64 0, .string ⟨#[]⟩, .slice none 0 0], .string ⟨#[]⟩, .int .i64 50], ?_, ?_⟩
      · exact next_results w _ w9 0 0 ⟨#[]⟩ ⟨#[]⟩ (.slice none 0 0) 50 rfl rfl rfl hI9 hS9 hE9
      · exact NextPost.dead HF.out hb9
    | some lr =>
      obtain ⟨l, r⟩ := lr
      have HF : Aside0 (rdNext s = some ((k, i, tx), l, r)) := ⟨by unfold rdNext; rw [hN]; show (rdParams t).bind _ = _; rw [hM]; rfl⟩
      rw [hM] at hPc
      have hPa := Aside0.mk hPc
      clear hPc hM hN
      go_upto_region 6 with (first | (go_at_call 51; refine hPa.out.mono ?_; rintro e w7 ⟨⟨v, rfl, hL7, hR7⟩, hB7⟩; obtain ⟨A7, c7, hv7⟩ := Kd.R_slice hL7; subst hv7; have hI7 := hI6.kb hB7 (by omega); have i3 := hI7.c3; have j3 := hI7.fr 3))
      have hS7 : SB w7 (w.heap.size + 1) ⟨#[]⟩ := hB7.blk hS6 (by omega)
      have hE7 : EB w7 (w.heap.size + 1 + 1) 0 := hB7.blk hE6 (by omega)
      have hb7 := hB7.toBelow hb6 (by omega)
      have hL8 := Kd.R_set (Kd.R_lower hL7 hb6.size) hI7 (by decide) 3 (.slice A7 l.length c7)
      have hI8 := hI7.set3 (.slice A7 l.length c7)
      have hS8 := hS7.far (p := ⟨w.heap.size, 3, none⟩) (by simp only; omega) (.slice A7 l.length c7)
      have hE8 := hE7.far (p := ⟨w.heap.size, 3, none⟩) (by simp only; omega) (.slice A7 l.length c7)
      have hR8 := hR7.far (p := ⟨w.heap.size, 3, none⟩) (by simp only; omega) (.slice A7 l.length c7)
      have hb8 := hb7.setCell (p := ⟨w.heap.size, 3, none⟩) (by simp only; omega) (.slice A7 l.length c7)
      clear hL7 hI7 hS7 hE7 hR7 hb7 hB7 i3 j3 hI6 hS6 hE6 hR6 hb6 hPa
      generalize w7.setCell ⟨w.heap.size, 3, none⟩ (.slice A7 l.length c7) = w8 at *
      have i0 := hI8.c0
      have i1 := hI8.c1
      have i2 := hI8.c2
      have i3 := hI8.c3
      have j0 := hI8.fr 0
      have j1 := hI8.fr 1
      have j2 := hI8.fr 2
      have j3 := hI8.fr 3
      have c1 := hS8.cell
      have f1 := blk_frozen hS8 0
      have c2 := hE8.cell
      have f2 := blk_frozen hE8 0
      have c3 := hR8.cell
      go_region
      have hL9 := Kd.R_set (Kd.R_set (R_putI (Kd.R_mono (Kd.R_types hL8 hI8 (by decide)) (ok' := fun k => k ≠ w.heap.size) (fun _ hk => hk.2)) (fun _ hk => hk) k i tx (.slice A7 l.length c7)) (show SB _ (w.heap.size + 1) ⟨#[]⟩ from blk_putI hS8 (by omega) _ _ _ _) (by decide) 0 (.string r)) (show EB _ (w.heap.size + 1 + 1) 0 from EB.far (blk_putI hE8 (by omega) k i tx (.slice A7 l.length c7)) (p := ⟨w.heap.size + 1, 0, none⟩) (by simp only; omega) (.string r)) (by decide) 0 (.int .i64 0)
      have hI9 := ((hI8.put k i tx (.slice A7 l.length c7)).far (p := ⟨w.heap.size + 1, 0, none⟩) (by simp only; omega) (.string r)).far (p := ⟨w.heap.size + 1 + 1, 0, none⟩) (by simp only; omega) (.int .i64 0)
      have hS9 := (SB.set (show SB (putI w8 w.heap.size k i tx (.slice A7 l.length c7)) (w.heap.size + 1) ⟨#[]⟩ from blk_putI hS8 (by omega) _ _ _ _) r).far (p := ⟨w.heap.size + 1 + 1, 0, none⟩) (by simp only; omega) (.int .i64 0)
      have hE9 := (EB.far (show EB (putI w8 w.heap.size k i tx (.slice A7 l.length c7)) (w.heap.size + 1 + 1) 0 from blk_putI hE8 (by omega) _ _ _ _) (p := ⟨w.heap.size + 1, 0, none⟩) (by simp only; omega) (.string r)).set 0
      have hb9 := ((below_putI hb8 (Nat.le_refl _) k i tx (.slice A7 l.length c7)).setCell (p := ⟨w.heap.size + 1, 0, none⟩) (by simp only; omega) (.string r)).setCell (p := ⟨w.heap.size + 1 + 1, 0, none⟩) (by simp only; omega) (.int .i64 0)
      clear hL8 hI8 hS8 hE8 hR8 hb8 i0 i1 i2 i3 j0 j1 j2 j3 c1 f1 c2 f2 c3
      have hw9 : (((((w8.setCell ⟨w.heap.size, 0, none⟩ (.int .i64 k)).setCell ⟨w.heap.size, 1, none⟩ (.int .i64 i)).setCell ⟨w.heap.size, 2, none⟩ (.string tx)).setCell ⟨w.heap.size, 3, none⟩ (.slice A7 l.length c7)).setCell ⟨w.heap.size + 1, 0, none⟩ (.string r)).setCell ⟨w.heap.size + 1 + 1, 0, none⟩ (.int .i64 0) = ((putI w8 w.heap.size k i tx (.slice A7 l.length c7)).setCell ⟨w.heap.size + 1, 0, none⟩ (.string r)).setCell ⟨w.heap.size + 1 + 1, 0, none⟩ (.int .i64 0) := rfl
      rw [hw9]
      clear hw9
      generalize ((putI w8 w.heap.size k i tx (.slice A7 l.length c7)).setCell ⟨w.heap.size + 1, 0, none⟩ (.string r)).setCell ⟨w.heap.size + 1 + 1, 0, none⟩ (.int .i64 0) = w9 at *
      have hLa := Kd.R_drew hL9
      have hIa : IB w9.drew w.heap.size k i tx (.slice A7 l.length c7) := hI9
      have hSa : SB w9.drew (w.heap.size + 1) r := hS9
      have hEa : EB w9.drew (w.heap.size + 1 + 1) 0 := hE9
      have hba : Below w.heap.size w w9.drew := below_drew1 hb9
      clear hL9 hI9 hS9 hE9 hb9
      generalize w9.drew = wa at *
      go_wp2
      refine leaves_cons (f := 48) (args := #[.pointer (some ⟨w.heap.size + 1 + 1, 0, none⟩), .pointer (some ⟨w.heap.size, 0, none⟩), .pointer (some ⟨w.heap.size + 1, 0, none⟩)]) (by simp) (by simp [go_sem]) ?_
      refine (next_catch_idle _ _ _ _ _ hEa).mono ?_
      rintro e u' w'' ⟨rfl, rfl, rfl⟩
      have hLb := Kd.R_mono (ok' := fun _ => True) (Kd.R_set hLa hEa (by decide) 0 (.int .i64 0)) (fun _ _ => trivial)
      have hIb := hIa.far (p := ⟨w.heap.size + 1 + 1, 0, none⟩) (by simp only; omega) (.int .i64 0)
      have hSb := hSa.far (p := ⟨w.heap.size + 1 + 1, 0, none⟩) (by simp only; omega) (.int .i64 0)
      have hEb := hEa.set 0
      have hbb := hba.setCell (p := ⟨w.heap.size + 1 + 1, 0, none⟩) (by simp only; omega) (.int .i64 0)
      clear hLa hIa hSa hEa hba
      generalize wa.setCell ⟨w.heap.size + 1 + 1, 0, none⟩ (.int .i64 0) = wb at *
      refine ⟨.tuple #[.agg #[.int .i64 k, .int .i64 i, .string tx, .slice A7 l.length c7], .string r, .int .i64 0], ?_, ?_⟩
      · exact next_results w _ wb k i tx r (.slice A7 l.length c7) 0 rfl rfl rfl hIb hSb hEb
      · exact NextPost.ok HF.out hLb hbb
def sfitem_Next.f (a0 : ByteArray) : Option (Int × Int × ByteArray × List S60 × ByteArray × Int) :=
  if a0.size ≤ 2199023255552 then (match rdNext a0 with | some (v, l, t) => some (v.1, v.2.1, v.2.2, l, t, 0) | none => some (0, 0, ⟨#[]⟩, [], ⟨#[]⟩, 50)) else none
theorem sfitem_Next.calls (a0 : ByteArray) (r1 : Int) (r2 : Int) (r3 : ByteArray) (r4 : List S60) (r5 : ByteArray) (r6 : Int) (w : World) (h : sfitem_Next.f a0 = some (r1, r2, r3, r4, r5, r6)) :
    Calls Tryz.prog 30 #[.string a0] w fun e w' => ∃ v4_ : Value, e = .returned (.tuple #[.agg #[.int .i64 r1, .int .i64 r2, .string r3, v4_], .string r5, .int .i64 r6]) ∧ Kd.R k60 60 w' w.heap.size (fun _ => True) v4_ r4 ∧ Below w.heap.size w w' := by
  unfold sfitem_Next.f at h
  by_cases hs : a0.size ≤ 2199023255552
  · rw [if_pos hs] at h
    refine (Next_calls a0 w hs).mono ?_
    intro e w' hp
    unfold NextPost at hp
    cases hN : rdNext a0 with
    | none =>
      rw [hN] at h hp
      simp only [Option.some.injEq, Prod.mk.injEq] at h
      obtain ⟨rfl, rfl, rfl, rfl, rfl, rfl⟩ := h
      exact ⟨.slice none 0 0, hp.1, Kd.R_nil _ _ _ _ _, hp.2⟩
    | some y =>
      obtain ⟨v, l, t⟩ := y
      rw [hN] at h hp
      simp only [Option.some.injEq, Prod.mk.injEq] at h
      obtain ⟨rfl, rfl, rfl, rfl, rfl, rfl⟩ := h
      obtain ⟨⟨u, he, hR⟩, hb⟩ := hp
      exact ⟨u, he, hR, hb⟩
  · rw [if_neg hs] at h; cases h
def stringslite_HasPrefix.f (a0 : ByteArray) (a1 : ByteArray) : Option (Bool) := if (a0.size : Int) ≥ (a1.size : Int) then (if 0 ≤ (a1.size : Int) then (if (a1.size : Int) ≤ (a0.size : Int) then (some ((a0.extract 0 ((a1.size : Int) : Int).toNat).toList == a1.toList)) else (none)) else (none)) else (some false)
set_option maxHeartbeats 8000000 in
set_option maxRecDepth 100000 in
theorem stringslite_HasPrefix.calls (a0 : ByteArray) (a1 : ByteArray) (r : Bool) (w : World) (h : stringslite_HasPrefix.f a0 a1 = some r) :
  Calls Tryz.prog 101 #[.string a0, .string a1] w fun e w' => e = .returned (.bool r) ∧ Drawn0 w w' := by
 have H : (if (a0.size : Int) ≥ (a1.size : Int) then (if 0 ≤ (a1.size : Int) then (if (a1.size : Int) ≤ (a0.size : Int) then (some ((a0.extract 0 ((a1.size : Int) : Int).toNat).toList == a1.toList)) else (none)) else (none)) else (some false)) = some r := h
 clear h
 by_cases c3 : (a0.size : Int) ≥ (a1.size : Int)
 ·rw [if_pos c3] at H
  have c3b0 : decide ((a1.size : Int) ≤ (a0.size : Int)) = true := decide_eq_true c3
  have c3b1 : decide (a1.size ≤ a0.size) = true := decide_eq_true (Int.ofNat_le.mp c3)
  clear c3
  by_cases c4 : 0 ≤ (a1.size : Int)
  ·rw [if_pos c4] at H
   have c4b0 := eq_true c4
   have c4b1 : decide (0 ≤ (a1.size : Int)) = true := decide_eq_true c4
   clear c4
   by_cases c5 : (a1.size : Int) ≤ (a0.size : Int)
   ·rw [if_pos c5] at H
    have c5b0 := eq_true c5
    have c5b1 : decide ((a1.size : Int) ≤ (a0.size : Int)) = true := decide_eq_true c5
    clear c5
    obtain rfl := Option.some.inj H
    go_enter Tryz.func101, Tryz.ntmps101
    go_wp2
    go_ret
    exact ⟨by first | rfl | simp [*], by repeat (first | exact Drawn0.refl _ | apply Drawn0.step)⟩
   ·rw [if_neg c5] at H
    exact absurd H (by simp)
  ·rw [if_neg c4] at H
   exact absurd H (by simp)
 ·rw [if_neg c3] at H
  have c3b0 : decide ((a1.size : Int) ≤ (a0.size : Int)) = false := decide_eq_false c3
  have c3b1 : decide (a1.size ≤ a0.size) = false := decide_eq_false (fun h => c3 (Int.ofNat_le.mpr h))
  clear c3
  obtain rfl := Option.some.inj H
  go_enter Tryz.func101, Tryz.ntmps101
  go_wp2
  go_ret
  exact ⟨by first | rfl | simp [*], by repeat (first | exact Drawn0.refl _ | apply Drawn0.step)⟩
def stringslite_CutPrefix.f (a0 : ByteArray) (a1 : ByteArray) : Option (ByteArray × Bool) := (stringslite_HasPrefix.f a0 a1).bind fun t101 => (if t101 = true then (if 0 ≤ (a1.size : Int) then (if (a1.size : Int) ≤ (a0.size : Int) then (some (a0.extract ((a1.size : Int) : Int).toNat a0.size, true)) else (none)) else (none)) else (some (a0, false)))
set_option maxHeartbeats 8000000 in
set_option maxRecDepth 100000 in
theorem stringslite_CutPrefix.calls (a0 : ByteArray) (a1 : ByteArray) (r1 : ByteArray) (r2 : Bool) (w : World) (h : stringslite_CutPrefix.f a0 a1 = some (r1, r2)) :
  Calls Tryz.prog 72 #[.string a0, .string a1] w fun e w' => e = .returned (.tuple #[.string r1, .bool r2]) ∧ Drawn0 w w' := by
 have H : ((stringslite_HasPrefix.f a0 a1).bind fun t101 => (if t101 = true then (if 0 ≤ (a1.size : Int) then (if (a1.size : Int) ≤ (a0.size : Int) then (some (a0.extract ((a1.size : Int) : Int).toNat a0.size, true)) else (none)) else (none)) else (some (a0, false)))) = some (r1, r2) := h
 clear h
 replace H := Option.bind_eq_some_iff.mp H
 obtain ⟨t101, A30, H⟩ := H
 (try dsimp only at H)
 have A3 := Aside0.mk A30
 clear A30
 by_cases c4 : t101 = true
 ·subst c4
  rw [if_pos rfl] at H
  by_cases c5 : 0 ≤ (a1.size : Int)
  ·rw [if_pos c5] at H
   have c5b0 := eq_true c5
   have c5b1 : decide (0 ≤ (a1.size : Int)) = true := decide_eq_true c5
   clear c5
   by_cases c6 : (a1.size : Int) ≤ (a0.size : Int)
   ·rw [if_pos c6] at H
    have c6b0 := eq_true c6
    have c6b1 : decide ((a1.size : Int) ≤ (a0.size : Int)) = true := decide_eq_true c6
    clear c6
    simp only [Option.some.injEq, Prod.mk.injEq] at H
    obtain ⟨rfl, rfl⟩ := H
    go_enter Tryz.func72, Tryz.ntmps72
    go_wp2_with (first | ((with_reducible refine gate_callee (f := 101) rfl ?_); refine goesL_ (some 8) rfl rfl Tryz.func101 (by kernel_rfl) rfl #[.string a0, .string a1] rfl (by simp only [List.map_toArray, List.map_cons, List.map_nil] <;> rfl) ?_; (with_reducible refine (stringslite_HasPrefix.calls a0 a1 true _ A3.out).mono ?_); rintro e w' ⟨rfl, ⟨nd, rfl⟩⟩; refine ⟨_, rfl, ?_⟩))
    go_ret2
    exact ⟨by first | rfl | simp [*], by repeat (first | exact Drawn0.refl _ | apply Drawn0.step)⟩
   ·rw [if_neg c6] at H
    exact absurd H (by simp)
  ·rw [if_neg c5] at H
   exact absurd H (by simp)
 ·replace c4 := Bool.eq_false_iff.mpr c4
  subst c4
  rw [if_neg (show ¬ (false = true) by decide)] at H
  simp only [Option.some.injEq, Prod.mk.injEq] at H
  obtain ⟨rfl, rfl⟩ := H
  go_enter Tryz.func72, Tryz.ntmps72
  go_wp2_with (first | ((with_reducible refine gate_callee (f := 101) rfl ?_); refine goesL_ (some 8) rfl rfl Tryz.func101 (by kernel_rfl) rfl #[.string a0, .string a1] rfl (by simp only [List.map_toArray, List.map_cons, List.map_nil] <;> rfl) ?_; (with_reducible refine (stringslite_HasPrefix.calls a0 a1 false _ A3.out).mono ?_); rintro e w' ⟨rfl, ⟨nd, rfl⟩⟩; refine ⟨_, rfl, ?_⟩))
  go_ret2
  exact ⟨by first | rfl | simp [*], by repeat (first | exact Drawn0.refl _ | apply Drawn0.step)⟩
def strings_CutPrefix.f (a0 : ByteArray) (a1 : ByteArray) : Option (ByteArray × Bool) := (stringslite_CutPrefix.f a0 a1).bind fun bt102 => (some (bt102.1, bt102.2))
set_option maxHeartbeats 8000000 in
set_option maxRecDepth 100000 in
theorem strings_CutPrefix.calls (a0 : ByteArray) (a1 : ByteArray) (r1 : ByteArray) (r2 : Bool) (w : World) (h : strings_CutPrefix.f a0 a1 = some (r1, r2)) :
  Calls Tryz.prog 41 #[.string a0, .string a1] w fun e w' => e = .returned (.tuple #[.string r1, .bool r2]) ∧ Drawn0 w w' := by
 have H : ((stringslite_CutPrefix.f a0 a1).bind fun bt102 => (some (bt102.1, bt102.2))) = some (r1, r2) := h
 clear h
 replace H := Option.bind_eq_some_iff.mp H
 obtain ⟨⟨t102, t103⟩, A30, H⟩ := H
 (try dsimp only at H)
 have A3 := Aside0.mk A30
 clear A30
 simp only [Option.some.injEq, Prod.mk.injEq] at H
 obtain ⟨rfl, rfl⟩ := H
 go_enter Tryz.func41, Tryz.ntmps41
 go_wp2_with (first | ((with_reducible refine gate_callee (f := 72) rfl ?_); refine goesL_ (some 8) rfl rfl Tryz.func72 (by kernel_rfl) rfl #[.string a0, .string a1] rfl (by simp only [List.map_toArray, List.map_cons, List.map_nil] <;> rfl) ?_; (with_reducible refine (stringslite_CutPrefix.calls a0 a1 t102 t103 _ A3.out).mono ?_); rintro e w' ⟨rfl, ⟨nd, rfl⟩⟩; refine ⟨_, rfl, ?_⟩))
 go_ret2
 exact ⟨by first | rfl | simp [*], by repeat (first | exact Drawn0.refl _ | apply Drawn0.step)⟩
/-- A text without what it begins with of a set. -/
def trimLBA (s c : ByteArray) : ByteArray := ⟨(Lib.trimLeftS s.data.toList c.data.toList).toArray⟩
def strings_TrimLeft.f (a0 a1 : ByteArray) : Option ByteArray := if (a1 = ⟨#[32]⟩ ∨ a1 = ⟨#[32, 9]⟩) ∧ a0.size ≤ 281474976710656 then some (trimLBA a0 a1) else none
theorem strings_TrimLeft.calls (a0 : ByteArray) (a1 : ByteArray) (r : ByteArray) (w : World) (h : strings_TrimLeft.f a0 a1 = some r) :
    Calls Tryz.prog 40 #[.string a0, .string a1] w fun e w' => e = .returned (.string r) ∧ Below w.heap.size w w' := by
  unfold strings_TrimLeft.f at h
  by_cases hs : (a1 = ⟨#[32]⟩ ∨ a1 = ⟨#[32, 9]⟩) ∧ a0.size ≤ 281474976710656
  · rw [if_pos hs] at h
    obtain ⟨hc, hz⟩ := hs
    obtain rfl := Option.some.inj h
    have hcon := Any.strings_TrimLeft_laid Tryz.lays161 (by kernel_rfl) a0 a1 w (by rcases hc with rfl | rfl <;> decide) (by rcases hc with rfl | rfl <;> exact ascii_of_all (by decide))
    exact hcon
  · rw [if_neg hs] at h; cases h
end Go.Proofs.YtjdbiicjfpgjkaaGreatDoor.Q
