/- The law CoopReads: contracts, words and plain lemmas that its proof reaches, part 1. Its conditions: the row's own. -/
import Derived.Test.YtciigmlibnpeeaaGreatDoorZr0
import Derived.ArgAppend
import Derived.Below
import Derived.BigQuiet
import Derived.ChangeOld
import Derived.Deep.AppendLies
import Derived.Deep.CutBlock
import Derived.Deep.DeepCutAuto
import Derived.Deep.DeepHandedRow
import Derived.Deep.Draws
import Derived.Deep.LoopGhost
import Derived.Deep.OwnRows
import Derived.Deep.QuietTactic
import Derived.Deep.RegionHeld3
import Derived.Defers
import Derived.KernelRfl
import Derived.Laws.BitsLemmas
import Derived.Laws.BytesArg
import Derived.Laws.IdiomCopy
import Derived.Laws.MakeOwn
import Derived.Laws.OwnMore
import Derived.Laws.Rows
import Derived.Laws.Slices
import Derived.Lib.AppendStr
import Derived.Lib.ConvBytes
import Derived.Lib.ItoaLen
import Derived.Lib.LaidTab
import Derived.LoopIn
import Derived.LoopNIn
import Derived.Maps.AppendAt
import Derived.Maps.OwnOps
import Derived.Maps.OwnSet
import Derived.OpenShut
import Derived.OrdersHeld
import Derived.OwnWalk
import Derived.OwnWalkIn
import Derived.ProofKit
import Derived.RangeFuncBound
import Derived.RangeFuncBox
import Derived.RangeFuncCalls
import Derived.RangeFuncLeaves
import Derived.RangeFuncNested
import Derived.Recover
import Derived.RowKit
import Derived.RowKit3
import Derived.Shelf.Abstract
import Derived.Shelf.LaysC
import Derived.Shelf.LaysM
import Derived.Shelf.Small.Strs
import Derived.Shelf.Small.Utf8
import Derived.Shelf.Strconv.Atoi
import Derived.Shelf.Strconv.AtoiAll
import Derived.Shelf.Strconv.AtoiErr
import Derived.Shelf.Strconv.AtoiErrFast
import Derived.Shelf.Strconv.AtoiFail
import Derived.Shelf.Strconv.AtoiInnerAll
import Derived.Shelf.Strconv.AtoiLong
import Derived.Shelf.Strconv.Clone
import Derived.Shelf.Strconv.ErrVarAll
import Derived.Shelf.Strconv.Itoa0
import Derived.Shelf.Strconv.Itoa1
import Derived.Shelf.Strconv.Itoa2
import Derived.Shelf.Strconv.Itoa3
import Derived.Shelf.Strconv.Lower
import Derived.Shelf.Strconv.ParseInt10
import Derived.Shelf.Strconv.ParseIntEmpty
import Derived.Shelf.Strconv.ParseUint10
import Derived.Shelf.Strconv.ParseUint10Any
import Derived.Shelf.Strconv.ParseUint10Empty
import Derived.Shelf.Strconv.RangeError
import Derived.Shelf.Strconv.SyntaxError
import Derived.Shelf.Strconv.ToError
import Derived.Shelf.Strconv.ToErrorRange
import Derived.Shelf.Strings.AsciiSet
import Derived.Shelf.Strings.Builder1
import Derived.Shelf.Strings.Builder2
import Derived.Shelf.Strings.OnBuilder
import Derived.Shelf.Strings.Runes
import Derived.Shelf.Strings.Search1
import Derived.Shelf.Strings.SlTrimAscii
import Derived.Shelf.Strings.Trim
import Derived.Shelf.Unicode.Decode
import Derived.Shelf.Unicode.DecodeAny
import Derived.Shelf.Unicode.DecodeLast
import Derived.Shelf.Unicode.DecodeSlow
import Derived.ShutString
import Derived.SizedLaws
import Derived.Stop.RegionWithIn
import Derived.Tactics
import Derived.TacticsInMore
import Derived.Test.YtciigmlibnpeeaaGreatDoorCards
import Derived.Test.YtciigmlibnpeeaaGreatDoorProg
import Derived.Test.YtciigmlibnpeeaaGreatDoorTie
import Derived.WalkKit
import Derived.WideLaws
/- The world in which this seat's listed variables hold what the program's text lays: for the witnesses of its rows. -/
namespace Go.Proofs.YtciigmlibnpeeaaGreatDoor.rc
open Go.ChangeShapes Go.WideShapes Go.ChangeAt Go.RowKit
theorem own : ownKnob Tryz.prog.godebug = none := by kernel_rfl
theorem laidOut : laidOutB Tryz.prog = true := by kernel_rfl
noncomputable def low : Nat := (World.holding Tryz.prog default ⟨#[], #[], []⟩).heap.size
noncomputable def laidWorld (os : Os) : World :=
  { World.holding Tryz.prog os ⟨#[.cells #[.string ⟨#[118, 97, 108, 117, 101, 32, 111, 117, 116, 32, 111, 102, 32, 114, 97, 110, 103, 101]⟩] 139, .cells #[.string ⟨#[105, 110, 118, 97, 108, 105, 100, 32, 115, 121, 110, 116, 97, 120]⟩] 139], #[], []⟩ with heap := ((World.holding Tryz.prog os ⟨#[.cells #[.string ⟨#[118, 97, 108, 117, 101, 32, 111, 117, 116, 32, 111, 102, 32, 114, 97, 110, 103, 101]⟩] 139, .cells #[.string ⟨#[105, 110, 118, 97, 108, 105, 100, 32, 115, 121, 110, 116, 97, 120]⟩] 139], #[], []⟩).heap
      |>.modify 6 (fun | .cells _ t f => .cells #[.int .u8 0, .int .u8 1, .int .u8 28, .int .u8 2, .int .u8 29, .int .u8 14, .int .u8 24, .int .u8 3, .int .u8 30, .int .u8 22, .int .u8 20, .int .u8 15, .int .u8 25, .int .u8 17, .int .u8 4, .int .u8 8, .int .u8 31, .int .u8 27, .int .u8 13, .int .u8 23, .int .u8 21, .int .u8 19, .int .u8 16, .int .u8 7, .int .u8 26, .int .u8 12, .int .u8 18, .int .u8 6, .int .u8 11, .int .u8 5, .int .u8 10, .int .u8 9] t f | o => o)
      |>.modify 7 (fun | .cells _ t f => .cells #[.int .u8 0, .int .u8 1, .int .u8 56, .int .u8 2, .int .u8 57, .int .u8 49, .int .u8 28, .int .u8 3, .int .u8 61, .int .u8 58, .int .u8 42, .int .u8 50, .int .u8 38, .int .u8 29, .int .u8 17, .int .u8 4, .int .u8 62, .int .u8 47, .int .u8 59, .int .u8 36, .int .u8 45, .int .u8 43, .int .u8 51, .int .u8 22, .int .u8 53, .int .u8 39, .int .u8 33, .int .u8 30, .int .u8 24, .int .u8 18, .int .u8 12, .int .u8 5, .int .u8 63, .int .u8 55, .int .u8 48, .int .u8 27, .int .u8 60, .int .u8 41, .int .u8 37, .int .u8 16, .int .u8 46, .int .u8 35, .int .u8 44, .int .u8 21, .int .u8 52, .int .u8 32, .int .u8 23, .int .u8 11, .int .u8 54, .int .u8 26, .int .u8 40, .int .u8 15, .int .u8 34, .int .u8 20, .int .u8 31, .int .u8 10, .int .u8 25, .int .u8 14, .int .u8 19, .int .u8 9, .int .u8 13, .int .u8 8, .int .u8 7, .int .u8 6] t f | o => o)
      |>.modify 5 (fun | .cells _ t f => .cells #[.int .u64 1, .int .u64 10, .int .u64 100, .int .u64 1000, .int .u64 10000, .int .u64 100000, .int .u64 1000000, .int .u64 10000000, .int .u64 100000000, .int .u64 1000000000, .int .u64 10000000000, .int .u64 100000000000, .int .u64 1000000000000, .int .u64 10000000000000, .int .u64 100000000000000, .int .u64 1000000000000000, .int .u64 10000000000000000, .int .u64 100000000000000000, .int .u64 1000000000000000000, .int .u64 10000000000000000000] t f | o => o)
      |>.modify 1 (fun | .cells _ t f => .cells #[.int .u8 128, .int .u8 191, .int .u8 160, .int .u8 191, .int .u8 128, .int .u8 159, .int .u8 144, .int .u8 191, .int .u8 128, .int .u8 143, .int .u8 0, .int .u8 0, .int .u8 0, .int .u8 0, .int .u8 0, .int .u8 0, .int .u8 0, .int .u8 0, .int .u8 0, .int .u8 0, .int .u8 0, .int .u8 0, .int .u8 0, .int .u8 0, .int .u8 0, .int .u8 0, .int .u8 0, .int .u8 0, .int .u8 0, .int .u8 0, .int .u8 0, .int .u8 0] t f | o => o)
      |>.modify 4 (fun | .cells _ t f => .cells #[.iface 137 (.pointer (some ⟨low + 0, 0, none⟩))] t f | o => o)
      |>.modify 3 (fun | .cells _ t f => .cells #[.iface 137 (.pointer (some ⟨low + 1, 0, none⟩))] t f | o => o)
      |>.modify 0 (fun | .cells _ t f => .cells (Go.Pinned.utf8FirstZ.map fun n : Nat => Value.int .u8 (n : Int)).toArray t f | o => o)
      ) }
end Go.Proofs.YtciigmlibnpeeaaGreatDoor.rc
/-
  DERIVED: THE SHELF's CONTRACTS AT THIS DUMP, IN PLAIN WORDS (tools/lay-plain.mjs out of 'YtciigmlibnpeeaaGreatDoorShelfSrc.lean', which tools/lay-shelf.mjs wrote): THE SAME DECLARATIONS UNDER THE SAME NAMES: 'import', 'namespace', 'open', 'def', 'theorem' AND NOTHING ELSE: no command of the shelf's: FOR A HAND-IN. Each laying: the table of numbers ('.._ren') and one theorem, a field a fact of the dump's own or the kernel's comparison; each contract: ONE APPLICATION.
-/
namespace Go.Proofs
open Go.Shelf
def Tryz.lays156_ren : Go.Shelf.Ren := ⟨fun | 156 => 42 | 165 => 52 | 166 => 53 | 169 => 54 | 240 => 68 | 241 => 69 | 276 => 96 | 277 => 97 | n => n, fun | 31 => 36 | 9 => 9 | 3 => 3 | 4 => 4 | 0 => 0 | 20 => 20 | 72 => 82 | 76 => 86 | 70 => 80 | 37 => 51 | 75 => 85 | 127 => 100 | 164 => 117 | 5 => 5 | 80 => 88 | n => n, fun | n => n⟩
theorem Tryz.lays156 : Go.Proofs.Lays.n156 Tryz.prog Tryz.lays156_ren := {
  mixed := by kernel_rfl
  f156 := Tryz.func42.trans (congrArg some (by kernel_rfl))
  f165 := Tryz.func52.trans (congrArg some (by kernel_rfl))
  f166 := Tryz.func53.trans (congrArg some (by kernel_rfl))
  f169 := Tryz.func54.trans (congrArg some (by kernel_rfl))
  f240 := Tryz.func68.trans (congrArg some (by kernel_rfl))
  f241 := Tryz.func69.trans (congrArg some (by kernel_rfl))
  f276 := Tryz.func96.trans (congrArg some (by kernel_rfl))
  f277 := Tryz.func97.trans (congrArg some (by kernel_rfl))
  t0 := Tryz.underlying0
  a0 := Tryz.isAgg0
  z0 := Tryz.sizeOf0
  v0 := Tryz.zeroValue0
  t3 := Tryz.underlying3
  a3 := Tryz.isAgg3
  z3 := Tryz.sizeOf3
  v3 := Tryz.zeroValue3
  t4 := Tryz.underlying4
  a4 := Tryz.isAgg4
  z4 := Tryz.sizeOf4
  v4 := Tryz.zeroValue4
  t9 := Tryz.underlying9
  a9 := Tryz.isAgg9
  z9 := Tryz.sizeOf9
  v9 := Tryz.zeroValue9
  t20 := Tryz.underlying20
  a20 := Tryz.isAgg20
  z20 := Tryz.sizeOf20
  v20 := Tryz.zeroValue20
  t31 := Tryz.underlying36
  a31 := Tryz.isAgg36
  z31 := Tryz.sizeOf36
  v31 := Tryz.zeroValue36
  t37 := Tryz.underlying51
  a37 := Tryz.isAgg51
  z37 := Tryz.sizeOf51
  v37 := Tryz.zeroValue51
  t70 := Tryz.underlying80
  a70 := Tryz.isAgg80
  z70 := Tryz.sizeOf80
  v70 := Tryz.zeroValue80
  t72 := Tryz.underlying82
  a72 := Tryz.isAgg82
  z72 := Tryz.sizeOf82
  v72 := Tryz.zeroValue82
  t75 := Tryz.underlying85
  a75 := Tryz.isAgg85
  z75 := Tryz.sizeOf85
  v75 := Tryz.zeroValue85
  t76 := Tryz.underlying86
  a76 := Tryz.isAgg86
  z76 := Tryz.sizeOf86
  v76 := Tryz.zeroValue86
  t127 := Tryz.underlying100
  a127 := Tryz.isAgg100
  z127 := Tryz.sizeOf100
  v127 := Tryz.zeroValue100
  t164 := Tryz.underlying117
  a164 := Tryz.isAgg117
  z164 := Tryz.sizeOf117
  v164 := Tryz.zeroValue117 }
theorem Tryz.Builder_Extra_156 : Builder.Extra Tryz.prog Tryz.lays156_ren := {
  sizeBuilder := by kernel_rfl
  liesBuilder := by kernel_rfl
  t5 := Tryz.underlying5
  a5 := Tryz.isAgg5
  z5 := Tryz.sizeOf5
  v5 := Tryz.zeroValue5
  infoByte := by kernel_rfl
  cellsByte := by kernel_rfl
  sizeByte := by kernel_rfl
  neB5 := by decide }
open Go.RowKit in
/-- No element: the empty string; the world is as it was. (Whatever the slice's address and capacity: a nil slice too.) (LAID: no walk: one application.) -/
theorem Tryz.strings_Join_none (a : Option Addr) (c : Nat) (sep : ByteArray) (w : World) :
    Calls Tryz.prog 42 #[.slice a 0 c, .string sep] w fun e w' => e = .returned (.string ⟨#[]⟩) ∧ w' = w := Any.strings_Join_none Tryz.lays156 Tryz.Builder_Extra_156 a c sep w
open Go.RowKit in
/-- strings.Join: "Join concatenates the elements of its first argument to create a single string. The separator string sep is placed between elements in the resulting string.": HOWEVER MANY ELEMENTS. Below the heap's end the world is as it was. (LAID: no walk: one application.) -/
theorem Tryz.strings_Join (bk o c : Nat) (xs : List ByteArray) (sep : ByteArray) (w : World) (hcells : ∀ (j : Nat) x, xs[j]? = some x → w.cell? ⟨bk, o + j, none⟩ = some (.string x)) (hbk : bk < w.heap.size) (hN : xs.length ≤ 140737488355328) (hcap : xs.length ≤ c) (hlen : (Lib.join (xs.map (·.data.toList)) sep.data.toList).length ≤ 140737488355328) :
    Calls Tryz.prog 42 #[.slice (some ⟨bk, o, none⟩) xs.length c, .string sep] w fun e w' => e = .returned (.string ⟨(Lib.join (xs.map (·.data.toList)) sep.data.toList).toArray⟩) ∧ Below w.heap.size w w' := Any.strings_Join Tryz.lays156 Tryz.Builder_Extra_156 bk o c xs sep w hcells hbk hN hcap hlen
def Tryz.lays160_ren : Go.Shelf.Ren := ⟨fun | 160 => 26 | 232 => 35 | 231 => 34 | 227 => 36 | 234 => 38 | 233 => 37 | 236 => 40 | 235 => 39 | 228 => 47 | 271 => 50 | 151 => 49 | 197 => 48 | 120 => 66 | 152 => 65 | 260 => 64 | 137 => 92 | 119 => 93 | 224 => 94 | 225 => 95 | 217 => 106 | 266 => 110 | n => n, fun | 9 => 9 | 4 => 4 | 3 => 3 | 5 => 5 | 117 => 66 | 116 => 65 | 0 => 0 | 124 => 69 | 21 => 21 | 105 => 74 | 46 => 109 | 119 => 108 | 139 => 112 | 138 => 111 | n => n, fun | 3 => 0 | 4 => 1 | n => n⟩
theorem Tryz.lays160 : Go.Proofs.Lays.n160 Tryz.prog Tryz.lays160_ren := {
  mixed := by kernel_rfl
  f119 := Tryz.func93.trans (congrArg some (by kernel_rfl))
  f120 := Tryz.func66.trans (congrArg some (by kernel_rfl))
  f137 := Tryz.func92.trans (congrArg some (by kernel_rfl))
  f151 := Tryz.func49.trans (congrArg some (by kernel_rfl))
  f152 := Tryz.func65.trans (congrArg some (by kernel_rfl))
  f160 := Tryz.func26.trans (congrArg some (by kernel_rfl))
  f197 := Tryz.func48.trans (congrArg some (by kernel_rfl))
  f217 := Tryz.func106.trans (congrArg some (by kernel_rfl))
  f224 := Tryz.func94.trans (congrArg some (by kernel_rfl))
  f225 := Tryz.func95.trans (congrArg some (by kernel_rfl))
  f227 := Tryz.func36.trans (congrArg some (by kernel_rfl))
  f228 := Tryz.func47.trans (congrArg some (by kernel_rfl))
  f231 := Tryz.func34.trans (congrArg some (by kernel_rfl))
  f232 := Tryz.func35.trans (congrArg some (by kernel_rfl))
  f233 := Tryz.func37.trans (congrArg some (by kernel_rfl))
  f234 := Tryz.func38.trans (congrArg some (by kernel_rfl))
  f235 := Tryz.func39.trans (congrArg some (by kernel_rfl))
  f236 := Tryz.func40.trans (congrArg some (by kernel_rfl))
  f260 := Tryz.func64.trans (congrArg some (by kernel_rfl))
  f266 := Tryz.func110.trans (congrArg some (by kernel_rfl))
  f271 := Tryz.func50.trans (congrArg some (by kernel_rfl))
  t0 := Tryz.underlying0
  a0 := Tryz.isAgg0
  z0 := Tryz.sizeOf0
  v0 := Tryz.zeroValue0
  t3 := Tryz.underlying3
  a3 := Tryz.isAgg3
  z3 := Tryz.sizeOf3
  v3 := Tryz.zeroValue3
  t4 := Tryz.underlying4
  a4 := Tryz.isAgg4
  z4 := Tryz.sizeOf4
  v4 := Tryz.zeroValue4
  t5 := Tryz.underlying5
  a5 := Tryz.isAgg5
  z5 := Tryz.sizeOf5
  v5 := Tryz.zeroValue5
  t9 := Tryz.underlying9
  a9 := Tryz.isAgg9
  z9 := Tryz.sizeOf9
  v9 := Tryz.zeroValue9
  t21 := Tryz.underlying21
  a21 := Tryz.isAgg21
  z21 := Tryz.sizeOf21
  v21 := Tryz.zeroValue21
  t46 := Tryz.underlying109
  a46 := Tryz.isAgg109
  z46 := Tryz.sizeOf109
  v46 := Tryz.zeroValue109
  t105 := Tryz.underlying74
  a105 := Tryz.isAgg74
  z105 := Tryz.sizeOf74
  v105 := Tryz.zeroValue74
  t116 := Tryz.underlying65
  a116 := Tryz.isAgg65
  z116 := Tryz.sizeOf65
  t117 := Tryz.underlying66
  a117 := Tryz.isAgg66
  z117 := Tryz.sizeOf66
  v117 := Tryz.zeroValue66
  t119 := Tryz.underlying108
  a119 := Tryz.isAgg108
  z119 := Tryz.sizeOf108
  t124 := Tryz.underlying69
  a124 := Tryz.isAgg69
  z124 := Tryz.sizeOf69
  v124 := Tryz.zeroValue69
  t138 := Tryz.underlying111
  a138 := Tryz.isAgg111
  z138 := Tryz.sizeOf111
  v138 := Tryz.zeroValue111
  t139 := Tryz.underlying112
  a139 := Tryz.isAgg112
  z139 := Tryz.sizeOf112
  v139 := Tryz.zeroValue112
  g3 := by kernel_rfl
  g4 := by kernel_rfl }
open Go.RowKit in
/-- strings.Trim: "Trim returns a slice of the string s with all leading and trailing Unicode code points contained in cutset removed.": AT A cutset OF ONE ASCII BYTE. THE WORLD BEHIND IT: as it was, or (where s is not empty) with ONE DRAW MORE off the tape: the statement 'return trimLeftByte(trimRightByte(s, c), c)' draws its order of evaluation. (LAID: no walk: one application.) -/
theorem Tryz.strings_Trim_one (s : ByteArray) (c : UInt8) (hc : c.toNat < 128) (w : World) (hs : s.size ≤ 9223372036854775807) :
    Calls Tryz.prog 26 #[.string s, .string ⟨#[c]⟩] w fun e w' => e = .returned (.string ⟨(Lib.trimB s.data.toList c).toArray⟩) ∧ (w' = w ∨ w' = w.drew) := Any.strings_Trim_one Tryz.lays160 s c hc w hs
def Tryz.lays137_ren : Go.Shelf.Ren := ⟨fun | 137 => 92 | 217 => 106 | 266 => 110 | n => n, fun | 9 => 9 | 5 => 5 | 3 => 3 | n => n, fun | n => n⟩
theorem Tryz.lays137 : Go.Proofs.Lays.n137 Tryz.prog Tryz.lays137_ren := {
  mixed := by kernel_rfl
  f137 := Tryz.func92.trans (congrArg some (by kernel_rfl))
  f217 := Tryz.func106.trans (congrArg some (by kernel_rfl))
  f266 := Tryz.func110.trans (congrArg some (by kernel_rfl))
  t3 := Tryz.underlying3
  a3 := Tryz.isAgg3
  z3 := Tryz.sizeOf3
  v3 := Tryz.zeroValue3
  t5 := Tryz.underlying5
  a5 := Tryz.isAgg5
  z5 := Tryz.sizeOf5
  v5 := Tryz.zeroValue5
  t9 := Tryz.underlying9
  a9 := Tryz.isAgg9
  z9 := Tryz.sizeOf9
  v9 := Tryz.zeroValue9 }
open Go.RowKit in
/-- strings.IndexByte: "IndexByte returns the index of the first instance of c in s, or -1 if c is not present in s.": IT RETURNS 'Lib.indexByte s c'; the world is as it was. (LAID: no walk: one application.) -/
theorem Tryz.strings_IndexByte (s : ByteArray) (c : Int) (w : World) :
    Calls Tryz.prog 92 #[.string s, .int .u8 c] w fun e w' => e = .returned (.int .i64 (Lib.indexByte s.data.toList c.toNat.toUInt8)) ∧ w' = w := Any.strings_IndexByte Tryz.lays137 s c w
def Tryz.lays172_ren : Go.Shelf.Ren := ⟨fun | 172 => 98 | 244 => 107 | 245 => 108 | 247 => 111 | 279 => 112 | 280 => 113 | 281 => 114 | 282 => 115 | 287 => 116 | 316 => 117 | 171 => 119 | 205 => 118 | 321 => 120 | 322 => 121 | 243 => 122 | 246 => 123 | 283 => 124 | 284 => 125 | 285 => 126 | 286 => 127 | 129 => 129 | 317 => 128 | 318 => 130 | 319 => 131 | 320 => 132 | 337 => 133 | 338 => 134 | n => n, fun | 9 => 9 | 3 => 3 | 75 => 85 | 76 => 86 | 4 => 4 | 5 => 5 | 167 => 123 | 37 => 51 | 0 => 0 | 85 => 124 | 2 => 2 | 168 => 126 | 53 => 129 | 175 => 130 | 46 => 109 | 210 => 133 | 127 => 100 | 145 => 139 | 143 => 137 | 21 => 21 | 171 => 141 | 173 => 144 | 212 => 147 | 51 => 148 | 20 => 20 | 213 => 149 | 232 => 152 | 233 => 153 | 80 => 88 | n => n, fun | 15 => 3 | 16 => 4 | 17 => 5 | 18 => 6 | 19 => 7 | n => n⟩
theorem Tryz.lays172 : Go.Proofs.Lays.n172 Tryz.prog Tryz.lays172_ren := {
  mixed := by kernel_rfl
  f129 := Tryz.func129.trans (congrArg some (by kernel_rfl))
  f171 := Tryz.func119.trans (congrArg some (by kernel_rfl))
  f172 := Tryz.func98.trans (congrArg some (by kernel_rfl))
  f205 := Tryz.func118.trans (congrArg some (by kernel_rfl))
  f243 := Tryz.func122.trans (congrArg some (by kernel_rfl))
  f244 := Tryz.func107.trans (congrArg some (by kernel_rfl))
  f245 := Tryz.func108.trans (congrArg some (by kernel_rfl))
  f246 := Tryz.func123.trans (congrArg some (by kernel_rfl))
  f247 := Tryz.func111.trans (congrArg some (by kernel_rfl))
  f279 := Tryz.func112.trans (congrArg some (by kernel_rfl))
  f280 := Tryz.func113.trans (congrArg some (by kernel_rfl))
  f281 := Tryz.func114.trans (congrArg some (by kernel_rfl))
  f282 := Tryz.func115.trans (congrArg some (by kernel_rfl))
  f283 := Tryz.func124.trans (congrArg some (by kernel_rfl))
  f284 := Tryz.func125.trans (congrArg some (by kernel_rfl))
  f285 := Tryz.func126.trans (congrArg some (by kernel_rfl))
  f286 := Tryz.func127.trans (congrArg some (by kernel_rfl))
  f287 := Tryz.func116.trans (congrArg some (by kernel_rfl))
  f316 := Tryz.func117.trans (congrArg some (by kernel_rfl))
  f317 := Tryz.func128.trans (congrArg some (by kernel_rfl))
  f318 := Tryz.func130.trans (congrArg some (by kernel_rfl))
  f319 := Tryz.func131.trans (congrArg some (by kernel_rfl))
  f320 := Tryz.func132.trans (congrArg some (by kernel_rfl))
  f321 := Tryz.func120.trans (congrArg some (by kernel_rfl))
  f322 := Tryz.func121.trans (congrArg some (by kernel_rfl))
  f337 := Tryz.func133.trans (congrArg some (by kernel_rfl))
  f338 := Tryz.func134.trans (congrArg some (by kernel_rfl))
  t0 := Tryz.underlying0
  a0 := Tryz.isAgg0
  z0 := Tryz.sizeOf0
  v0 := Tryz.zeroValue0
  t2 := Tryz.underlying2
  a2 := Tryz.isAgg2
  z2 := Tryz.sizeOf2
  v2 := Tryz.zeroValue2
  t3 := Tryz.underlying3
  a3 := Tryz.isAgg3
  z3 := Tryz.sizeOf3
  v3 := Tryz.zeroValue3
  t4 := Tryz.underlying4
  a4 := Tryz.isAgg4
  z4 := Tryz.sizeOf4
  v4 := Tryz.zeroValue4
  t5 := Tryz.underlying5
  a5 := Tryz.isAgg5
  z5 := Tryz.sizeOf5
  v5 := Tryz.zeroValue5
  t9 := Tryz.underlying9
  a9 := Tryz.isAgg9
  z9 := Tryz.sizeOf9
  v9 := Tryz.zeroValue9
  t20 := Tryz.underlying20
  a20 := Tryz.isAgg20
  z20 := Tryz.sizeOf20
  v20 := Tryz.zeroValue20
  t21 := Tryz.underlying21
  a21 := Tryz.isAgg21
  z21 := Tryz.sizeOf21
  v21 := Tryz.zeroValue21
  t37 := Tryz.underlying51
  a37 := Tryz.isAgg51
  z37 := Tryz.sizeOf51
  v37 := Tryz.zeroValue51
  t46 := Tryz.underlying109
  a46 := Tryz.isAgg109
  z46 := Tryz.sizeOf109
  v46 := Tryz.zeroValue109
  t51 := Tryz.underlying148
  a51 := Tryz.isAgg148
  z51 := Tryz.sizeOf148
  v51 := Tryz.zeroValue148
  t53 := Tryz.underlying129
  a53 := Tryz.isAgg129
  z53 := Tryz.sizeOf129
  v53 := Tryz.zeroValue129
  t75 := Tryz.underlying85
  a75 := Tryz.isAgg85
  z75 := Tryz.sizeOf85
  v75 := Tryz.zeroValue85
  t76 := Tryz.underlying86
  a76 := Tryz.isAgg86
  z76 := Tryz.sizeOf86
  v76 := Tryz.zeroValue86
  t85 := Tryz.underlying124
  a85 := Tryz.isAgg124
  z85 := Tryz.sizeOf124
  v85 := Tryz.zeroValue124
  t127 := Tryz.underlying100
  a127 := Tryz.isAgg100
  z127 := Tryz.sizeOf100
  v127 := Tryz.zeroValue100
  t143 := Tryz.underlying137
  a143 := Tryz.isAgg137
  z143 := Tryz.sizeOf137
  v143 := Tryz.zeroValue137
  t145 := Tryz.underlying139
  a145 := Tryz.isAgg139
  z145 := Tryz.sizeOf139
  v145 := Tryz.zeroValue139
  t167 := Tryz.underlying123
  a167 := Tryz.isAgg123
  z167 := Tryz.sizeOf123
  v167 := Tryz.zeroValue123
  t168 := Tryz.underlying126
  a168 := Tryz.isAgg126
  z168 := Tryz.sizeOf126
  v168 := Tryz.zeroValue126
  t171 := Tryz.underlying141
  a171 := Tryz.isAgg141
  z171 := Tryz.sizeOf141
  v171 := Tryz.zeroValue141
  t173 := Tryz.underlying144
  a173 := Tryz.isAgg144
  z173 := Tryz.sizeOf144
  v173 := Tryz.zeroValue144
  t175 := Tryz.underlying130
  a175 := Tryz.isAgg130
  z175 := Tryz.sizeOf130
  v175 := Tryz.zeroValue130
  t210 := Tryz.underlying133
  a210 := Tryz.isAgg133
  z210 := Tryz.sizeOf133
  v210 := Tryz.zeroValue133
  t212 := Tryz.underlying147
  a212 := Tryz.isAgg147
  z212 := Tryz.sizeOf147
  v212 := Tryz.zeroValue147
  t213 := Tryz.underlying149
  a213 := Tryz.isAgg149
  z213 := Tryz.sizeOf149
  t232 := Tryz.underlying152
  a232 := Tryz.isAgg152
  z232 := Tryz.sizeOf152
  v232 := Tryz.zeroValue152
  t233 := Tryz.underlying153
  a233 := Tryz.isAgg153
  z233 := Tryz.sizeOf153
  v233 := Tryz.zeroValue153
  g15 := by kernel_rfl
  g16 := by kernel_rfl
  g17 := by kernel_rfl
  g18 := by kernel_rfl
  g19 := by kernel_rfl }
open Go.RowKit in
/-- strconv.Atoi: "Atoi is equivalent to ParseInt(s, 10, 0), converted to type int.": AT A DECIMAL NUMERAL OF AT MOST 18 BYTES: its value, and a nil error. The world behind the call: the one new row that the library's '[]byte(s)' lays. (LAID: no walk: one application.) -/
theorem Tryz.strconv_Atoi (s : ByteArray) (n : Int) (hl : s.size ≤ 18) (h : Lib.atoi s.data.toList = some n) (w : World) :
    Calls Tryz.prog 98 #[.string s] w fun e w' => e = .returned (.tuple #[.int .i64 n, .nilIface]) ∧ ∃ t, w' = Lib.bytesWorld w 5 t := Any.strconv_Atoi Tryz.lays172 s n hl h w
end Go.Proofs
/- A text's reader: a block of its own, with the text in its one cell. -/
set_option linter.unusedVariables false
set_option linter.unusedSimpArgs false
namespace Go.Proofs.YtciigmlibnpeeaaGreatDoor.Sf
open Go.RowKit Go.Proofs.YtciigmlibnpeeaaGreatDoorW.PrintWords Go.Proofs.YtciigmlibnpeeaaGreatDoorW.PrintLast Go.Proofs.YtciigmlibnpeeaaGreatDoorW.PrintMore
/-- A text's reader: a block of its own, with the text in its one cell. -/
def Rd (W : World) (g : Nat) (s : ByteArray) : Prop := W.heap[g]? = some (.cells #[.string s] 92 (0, 0))
theorem Rd.cell {W : World} {g : Nat} {s : ByteArray} (h : Rd W g s) : W.cell? ⟨g, 0, none⟩ = some (.string s) := (blk_cell h 0).trans rfl
theorem Rd.frozen {W : World} {g : Nat} {s : ByteArray} (h : Rd W g s) : W.frozen? ⟨g, 0, none⟩ = false := blk_frozen h 0
theorem Rd.set {W : World} {g : Nat} {s : ByteArray} (h : Rd W g s) (t : ByteArray) : Rd (W.setCell ⟨g, 0, none⟩ (.string t)) g t := by
  have := blk_set h 0 (.string t); simpa [Rd] using this
theorem Rd.drewN {W : World} {g : Nat} {s : ByteArray} (h : Rd W g s) (n : Nat) : Rd (W.drewN n) g s := h
theorem Rd.alloc {W : World} {g : Nat} {s : ByteArray} (h : Rd W g s) (o : Obj) : Rd (W.alloc o) g s := blk_alloc h o
theorem Rd.far {W : World} {g : Nat} {s : ByteArray} (h : Rd W g s) {p : Addr} (hp : g ≠ p.block) (u : Value) : Rd (W.setCell p u) g s := blk_far h hp u
theorem Rd.lt {W : World} {g : Nat} {s : ByteArray} (h : Rd W g s) : g < W.heap.size := blk_lt h
/-- Nothing that was there has turned, but the reader's block. -/
structure KB (g : Nat) (w w' : World) : Prop where
  os : w'.os = w.os
  tape : w'.tape = w.tape
  output : w'.output = w.output
  size : w.heap.size ≤ w'.heap.size
  block : ∀ k, k < w.heap.size → k ≠ g → w'.heap[k]? = w.heap[k]?
theorem KB.refl (g : Nat) (w : World) : KB g w w := ⟨rfl, rfl, rfl, Nat.le_refl _, fun _ _ _ => rfl⟩
theorem KB.trans {g : Nat} {w w1 w2 : World} (h : KB g w w1) (k : KB g w1 w2) : KB g w w2 :=
  ⟨k.os.trans h.os, k.tape.trans h.tape, k.output.trans h.output, Nat.le_trans h.size k.size, fun i hi hg => (k.block i (Nat.lt_of_lt_of_le hi h.size) hg).trans (h.block i hi hg)⟩
theorem KB.below {g : Nat} {w w1 w2 : World} (h : KB g w w1) (k : Below w1.heap.size w1 w2) : KB g w w2 :=
  ⟨k.os.trans h.os, k.tape.trans h.tape, k.output.trans h.output, Nat.le_trans h.size k.size, fun i hi hg => (k.block i (Nat.lt_of_lt_of_le hi h.size)).trans (h.block i hi hg)⟩
theorem KB.set {g : Nat} {w w1 : World} (h : KB g w w1) (j : Nat) (u : Value) : KB g w (w1.setCell ⟨g, j, none⟩ u) :=
  ⟨h.os, h.tape, h.output, by simpa [World.setCell] using h.size, fun i hi hg => (Below.heap_setCell w1 ⟨g, j, none⟩ u i hg).trans (h.block i hi hg)⟩
theorem KB.far {g : Nat} {w w1 : World} (h : KB g w w1) {p : Addr} (hp : w.heap.size ≤ p.block) (u : Value) : KB g w (w1.setCell p u) :=
  ⟨h.os, h.tape, h.output, by simpa [World.setCell] using h.size, fun i hi hg => (Below.heap_setCell w1 p u i (by omega)).trans (h.block i hi hg)⟩
theorem KB.alloc {g : Nat} {w w1 : World} (h : KB g w w1) (o : Obj) : KB g w (w1.alloc o) := h.below (below_alloc (Below.refl _ _) o)
theorem KB.drewN {g : Nat} {w w1 : World} (h : KB g w w1) (n : Nat) : KB g w (w1.drewN n) := h.below (pw_below_drewN (Below.refl _ _) n)
theorem KB.toBelow {g : Nat} {w0 w w' : World} (h : KB g w w') (hb : Below w0.heap.size w0 w) (hg : w0.heap.size ≤ g) : Below w0.heap.size w0 w' :=
  ⟨h.os.trans hb.os, h.tape.trans hb.tape, h.output.trans hb.output, Nat.le_trans hb.size h.size, fun k hk => (h.block k (Nat.lt_of_lt_of_le hk hb.size) (by omega)).trans (hb.block k hk)⟩
theorem KB.blk {g : Nat} {w w' : World} (h : KB g w w') {k : Nat} {o : Obj} (hb : w.heap[k]? = some o) (hg : k ≠ g) : w'.heap[k]? = some o := (h.block k (blk_lt hb) hg).trans hb
/-- The panic by which a reader gives up. -/
abbrev gave : Ending := .panicked [{ v := .iface 57 (.int .i64 50), recovered := false }]
theorem fail_calls (p : Option Addr) (w : World) : Calls Tryz.prog 70 #[.pointer p] w fun e w' => e = gave ∧ w' = w := by
  go_enter Tryz.func70, Tryz.ntmps70
  go_wp2
  exact ⟨rfl, rfl, rfl⟩
/-- Does a byte stand there? If so it is passed. -/
def atF (s : ByteArray) (c : Int) : Bool := decide (0 < s.size ∧ bt s 0 = c)
def tl (s : ByteArray) : ByteArray := s.extract 1 s.size
def atR (s : ByteArray) (c : Int) : ByteArray := if atF s c = true then tl s else s
set_option maxHeartbeats 2000000 in
theorem at_calls (g : Nat) (s : ByteArray) (c : Int) (w : World) (hI : Rd w g s) :
    Calls Tryz.prog 76 #[.pointer (some ⟨g, 0, none⟩), .int .u8 c] w fun e w' => e = .returned (.bool (atF s c)) ∧ Rd w' g (atR s c) ∧ KB g w w' := by
  have hc := hI.cell
  have hf := hI.frozen
  have HI := Aside0.mk hI
  clear hI
  by_cases h0 : 0 < s.size
  · have c1 : (s.toList == ([] : List UInt8)) = false := by
      rw [beq_eq_false_iff_ne]; intro he
      have := Lib.toList_data s
      rw [he] at this
      have h2 := congrArg List.length this
      rw [← Lib.size_eq] at h2
      simp at h2; omega
    have c1b : (s.toList != ([] : List UInt8)) = true := by simp [bne, c1]
    have hx6 : ∀ h : 0 < s.size, ((s[0]'h).toNat : Int) = bt s 0 := bt_at s 0
    have q6 := eq_true h0
    have qi6 : (0 < (s.size : Int)) = True := eq_true (by omega)
    by_cases hb : bt s 0 = c
    · have e1 : atF s c = true := decide_eq_true ⟨h0, hb⟩
      have e2 : atR s c = tl s := if_pos e1
      rw [e1, e2]
      have hbb : (bt s 0 == c) = true := beq_iff_eq.mpr hb
      have h1 : (1 ≤ (s.size : Int)) = True := eq_true (by omega)
      have h1d : decide (1 ≤ (s.size : Int)) = true := decide_eq_true (by omega)
      clear hb
      go_enter Tryz.func76, Tryz.ntmps76
      go_wp2
      go_ret
      exact ⟨by simp [hbb], HI.out.set _, (KB.refl _ _).set _ _⟩
    · have e1 : atF s c = false := decide_eq_false (fun h => hb h.2)
      have e2 : atR s c = s := if_neg (by rw [e1]; decide)
      rw [e1, e2]
      have hbb : (bt s 0 == c) = false := beq_eq_false_iff_ne.mpr hb
      clear hb
      go_enter Tryz.func76, Tryz.ntmps76
      go_wp2
      go_ret
      exact ⟨by simp [hbb], HI.out, KB.refl _ _⟩
  · have c1 : (s.toList == ([] : List UInt8)) = true := by
      rw [beq_iff_eq, Lib.toList_data]
      apply List.eq_nil_of_length_eq_zero
      rw [← Lib.size_eq]; omega
    have c1b : (s.toList != ([] : List UInt8)) = false := by simp [bne, c1]
    have e1 : atF s c = false := decide_eq_false (fun h => h0 h.1)
    have e2 : atR s c = s := if_neg (by rw [e1]; decide)
    rw [e1, e2]
    go_enter Tryz.func76, Tryz.ntmps76
    go_wp2
    go_ret
    exact ⟨rfl, HI.out, KB.refl _ _⟩
end Go.Proofs.YtciigmlibnpeeaaGreatDoor.Sf
/- What the reader asks of a byte. -/
set_option linter.unusedVariables false
set_option linter.unusedSimpArgs false
namespace Go.Proofs.YtciigmlibnpeeaaGreatDoor.Sf
open Go.RowKit Go.Proofs.YtciigmlibnpeeaaGreatDoorW.PrintWords Go.Proofs.YtciigmlibnpeeaaGreatDoorW.PrintLast Go.Proofs.YtciigmlibnpeeaaGreatDoorW.PrintMore
/-- What the reader asks of a byte. -/
def dgP (c : Int) : Bool := decide (48 ≤ c ∧ c ≤ 57)
def smP (c : Int) : Bool := decide (97 ≤ c ∧ c ≤ 122)
def leP (c : Int) : Bool := smP (Go.bits .or .u8 c 32)
def wiP (c : Int) (s : ByteArray) : Bool := decide (0 ≤ Lib.indexByte s.data.toList c.toNat.toUInt8)
def tokP (c : Int) : Bool := leP c || dgP c || wiP c ⟨#[58, 47, 33, 35, 36, 37, 38, 39, 42, 43, 45, 46, 94, 95, 124, 126, 96]⟩
def baP (c : Int) : Bool := leP c || dgP c || wiP c ⟨#[43, 47, 61]⟩
def keP (c : Int) : Bool := smP c || dgP c || wiP c ⟨#[95, 45, 46, 42]⟩
def spP (c : Int) : Bool := c == 32
/-- A function of the program that answers so at each byte, and leaves all as it was. -/
def Asks (n : Nat) (p : Int → Bool) : Prop := ∀ (c : Int) (W : World), Calls Tryz.prog n #[.int .u8 c] W fun e w' => e = .returned (.bool (p c)) ∧ Drawn0 W w'
theorem asks_digit : Asks 71 dgP := by
  intro c W
  have e : dgP c = (decide (48 ≤ c) && decide (c ≤ 57)) := Bool.decide_and ..
  rw [e]
  by_cases h : 48 ≤ c
  · have h1 : decide (48 ≤ c) = true := decide_eq_true h
    clear h
    go_enter Tryz.func71, Tryz.ntmps71
    go_wp2
    go_ret
    exact ⟨by rw [h1]; rfl, Drawn0.refl _⟩
  · have h1 : decide (48 ≤ c) = false := decide_eq_false h
    clear h
    go_enter Tryz.func71, Tryz.ntmps71
    go_wp2
    go_ret
    exact ⟨by rw [h1]; rfl, Drawn0.refl _⟩
theorem asks_small : Asks 99 smP := by
  intro c W
  have e : smP c = (decide (97 ≤ c) && decide (c ≤ 122)) := Bool.decide_and ..
  rw [e]
  by_cases h : 97 ≤ c
  · have h1 : decide (97 ≤ c) = true := decide_eq_true h
    clear h
    go_enter Tryz.func99, Tryz.ntmps99
    go_wp2
    go_ret
    exact ⟨by rw [h1]; rfl, Drawn0.refl _⟩
  · have h1 : decide (97 ≤ c) = false := decide_eq_false h
    clear h
    go_enter Tryz.func99, Tryz.ntmps99
    go_wp2
    go_ret
    exact ⟨by rw [h1]; rfl, Drawn0.refl _⟩
theorem asks_letter : Asks 73 leP := by
  intro c W
  go_enter Tryz.func73, Tryz.ntmps73
  go_wp2_with (go_at_call 99; refine (asks_small _ _).mono ?_; rintro e w' ⟨rfl, ⟨n, rfl⟩⟩)
  go_ret
  exact ⟨rfl, ⟨n, rfl⟩⟩
theorem asks_within (c : Int) (s : ByteArray) (W : World) : Calls Tryz.prog 100 #[.int .u8 c, .string s] W fun e w' => e = .returned (.bool (wiP c s)) ∧ Drawn0 W w' := by
  go_enter Tryz.func100, Tryz.ntmps100
  go_wp2_with (go_at_call 92; refine (Tryz.strings_IndexByte s c _).mono ?_; rintro e w' ⟨rfl, rfl⟩)
  go_ret
  exact ⟨rfl, Drawn0.refl _⟩
theorem asks_space : Asks 79 spP := by
  intro c W
  go_enter Tryz.func79, Tryz.ntmps79
  go_wp2
  go_ret
  exact ⟨rfl, Drawn0.refl _⟩
set_option maxHeartbeats 2000000 in
theorem asks_tokens : Asks 75 tokP := by
  intro c W
  unfold tokP
  cases h1 : leP c
  · cases h2 : dgP c
    · simp only [Bool.false_or]
      go_enter Tryz.func75, Tryz.ntmps75
      go_wp2_with (first | (go_at_call 73; refine (asks_letter c _).mono ?_; rw [h1]; rintro e w' ⟨rfl, ⟨n, rfl⟩⟩) | (go_at_call 71; refine (asks_digit c _).mono ?_; rw [h2]; rintro e w' ⟨rfl, ⟨m, rfl⟩⟩) | (go_at_call 100; refine (asks_within c _ _).mono ?_; rintro e w' ⟨rfl, ⟨k, rfl⟩⟩))
      go_ret
      exact ⟨by simp, by repeat (first | exact Drawn0.refl _ | apply Drawn0.step)⟩
    · simp only [Bool.false_or, Bool.true_or]
      go_enter Tryz.func75, Tryz.ntmps75
      go_wp2_with (first | (go_at_call 73; refine (asks_letter c _).mono ?_; rw [h1]; rintro e w' ⟨rfl, ⟨n, rfl⟩⟩) | (go_at_call 71; refine (asks_digit c _).mono ?_; rw [h2]; rintro e w' ⟨rfl, ⟨m, rfl⟩⟩))
      go_ret
      exact ⟨by simp, by repeat (first | exact Drawn0.refl _ | apply Drawn0.step)⟩
  · simp only [Bool.true_or]
    go_enter Tryz.func75, Tryz.ntmps75
    go_wp2_with (first | (go_at_call 73; refine (asks_letter c _).mono ?_; rw [h1]; rintro e w' ⟨rfl, ⟨n, rfl⟩⟩))
    go_ret
    exact ⟨by simp, by repeat (first | exact Drawn0.refl _ | apply Drawn0.step)⟩
set_option maxHeartbeats 2000000 in
theorem asks_base : Asks 78 baP := by
  intro c W
  unfold baP
  cases h1 : leP c
  · cases h2 : dgP c
    · simp only [Bool.false_or]
      go_enter Tryz.func78, Tryz.ntmps78
      go_wp2_with (first | (go_at_call 73; refine (asks_letter c _).mono ?_; rw [h1]; rintro e w' ⟨rfl, ⟨n, rfl⟩⟩) | (go_at_call 71; refine (asks_digit c _).mono ?_; rw [h2]; rintro e w' ⟨rfl, ⟨m, rfl⟩⟩) | (go_at_call 100; refine (asks_within c _ _).mono ?_; rintro e w' ⟨rfl, ⟨k, rfl⟩⟩))
      go_ret
      exact ⟨by simp, by repeat (first | exact Drawn0.refl _ | apply Drawn0.step)⟩
    · simp only [Bool.false_or, Bool.true_or]
      go_enter Tryz.func78, Tryz.ntmps78
      go_wp2_with (first | (go_at_call 73; refine (asks_letter c _).mono ?_; rw [h1]; rintro e w' ⟨rfl, ⟨n, rfl⟩⟩) | (go_at_call 71; refine (asks_digit c _).mono ?_; rw [h2]; rintro e w' ⟨rfl, ⟨m, rfl⟩⟩))
      go_ret
      exact ⟨by simp, by repeat (first | exact Drawn0.refl _ | apply Drawn0.step)⟩
  · simp only [Bool.true_or]
    go_enter Tryz.func78, Tryz.ntmps78
    go_wp2_with (first | (go_at_call 73; refine (asks_letter c _).mono ?_; rw [h1]; rintro e w' ⟨rfl, ⟨n, rfl⟩⟩))
    go_ret
    exact ⟨by simp, by repeat (first | exact Drawn0.refl _ | apply Drawn0.step)⟩
set_option maxHeartbeats 2000000 in
theorem asks_key : Asks 101 keP := by
  intro c W
  unfold keP
  cases h1 : smP c
  · cases h2 : dgP c
    · simp only [Bool.false_or]
      go_enter Tryz.func101, Tryz.ntmps101
      go_wp2_with (first | (go_at_call 99; refine (asks_small c _).mono ?_; rw [h1]; rintro e w' ⟨rfl, ⟨n, rfl⟩⟩) | (go_at_call 71; refine (asks_digit c _).mono ?_; rw [h2]; rintro e w' ⟨rfl, ⟨m, rfl⟩⟩) | (go_at_call 100; refine (asks_within c _ _).mono ?_; rintro e w' ⟨rfl, ⟨k, rfl⟩⟩))
      go_ret
      exact ⟨by simp, by repeat (first | exact Drawn0.refl _ | apply Drawn0.step)⟩
    · simp only [Bool.false_or, Bool.true_or]
      go_enter Tryz.func101, Tryz.ntmps101
      go_wp2_with (first | (go_at_call 99; refine (asks_small c _).mono ?_; rw [h1]; rintro e w' ⟨rfl, ⟨n, rfl⟩⟩) | (go_at_call 71; refine (asks_digit c _).mono ?_; rw [h2]; rintro e w' ⟨rfl, ⟨m, rfl⟩⟩))
      go_ret
      exact ⟨by simp, by repeat (first | exact Drawn0.refl _ | apply Drawn0.step)⟩
  · simp only [Bool.true_or]
    go_enter Tryz.func101, Tryz.ntmps101
    go_wp2_with (first | (go_at_call 99; refine (asks_small c _).mono ?_; rw [h1]; rintro e w' ⟨rfl, ⟨n, rfl⟩⟩))
    go_ret
    exact ⟨by simp, by repeat (first | exact Drawn0.refl _ | apply Drawn0.step)⟩
end Go.Proofs.YtciigmlibnpeeaaGreatDoor.Sf
/- What the reader takes while a byte is so. -/
set_option linter.unusedVariables false
set_option linter.unusedSimpArgs false
namespace Go.Proofs.YtciigmlibnpeeaaGreatDoor.Sf
open Go.RowKit Go.Proofs.YtciigmlibnpeeaaGreatDoorW.PrintWords Go.Proofs.YtciigmlibnpeeaaGreatDoorW.PrintLast Go.Proofs.YtciigmlibnpeeaaGreatDoorW.PrintMore
/-- What the reader takes while a byte is so. -/
def spanB (p : Int → Bool) (s : ByteArray) : Nat := (s.data.toList.takeWhile (fun c => p c.toNat)).length
theorem span_le (p : Int → Bool) (s : ByteArray) : spanB p s ≤ s.size := by
  unfold spanB
  rw [Lib.size_eq]
  exact (List.takeWhile_sublist _).length_le
theorem takeWhile_len {α : Type} (q : α → Bool) : ∀ (l : List α) (n : Nat), n ≤ l.length → (∀ j (h : j < l.length), j < n → q l[j] = true) → (∀ h : n < l.length, q l[n] = false) → (l.takeWhile q).length = n
  | [], n, hn, _, _ => by simp at hn; simp [hn]
  | x :: l, 0, _, _, h2 => by
    have := h2 (by simp)
    simp only [List.getElem_cons_zero] at this
    rw [List.takeWhile_cons, this]; simp
  | x :: l, n + 1, hn, h1, h2 => by
    have hx : q x = true := by have := h1 0 (by simp) (by omega); simpa using this
    rw [List.takeWhile_cons, hx]
    simp only [if_true, List.length_cons]
    rw [takeWhile_len q l n (by simpa using hn) (fun j h hj => by have := h1 (j + 1) (by simpa using h) (by omega); simpa using this) (fun h => by have := h2 (by simpa using h); simpa using this)]
theorem bt_list (s : ByteArray) (j : Nat) (h : j < s.data.toList.length) : bt s j = (s.data.toList[j].toNat : Int) := by
  have := bt_at s j (by rw [← Lib.size_eq] at h; exact h)
  rw [← this]
  rfl
theorem span_eq (p : Int → Bool) (s : ByteArray) (n : Nat) (hn : n ≤ s.size) (h1 : ∀ j : Nat, j < n → p (bt s j) = true) (h2 : n < s.size → p (bt s n) = false) : spanB p s = n := by
  refine takeWhile_len _ _ n (by rw [← Lib.size_eq]; exact hn) (fun j h hj => ?_) (fun h => ?_)
  · have := h1 j hj; rw [bt_list s j h] at this; exact this
  · have := h2 (by rw [← Lib.size_eq] at h; exact h); rw [bt_list s n h] at this; exact this
def takB (p : Int → Bool) (s : ByteArray) : ByteArray := s.extract 0 (spanB p s)
def drpB (p : Int → Bool) (s : ByteArray) : ByteArray := s.extract (spanB p s) s.size
set_option maxHeartbeats 2000000 in
set_option maxRecDepth 100000 in
theorem while_calls (n : Nat) (p : Int → Bool) (ha : Asks n p) (eg : ∀ (args : Array Value) (w : World), (callFunc n args).run Tryz.prog w = .ok (.enter n args) w) (g : Nat) (s : ByteArray) (w : World) (hs : s.size ≤ 9223372036854775806) (hI : Rd w g s) :
    Calls Tryz.prog 74 #[.pointer (some ⟨g, 0, none⟩), .func (.func n) #[] #[]] w fun e w' => e = .returned (.string (takB p s)) ∧ Rd w' g (drpB p s) ∧ KB g w w' := by
  have hc := hI.cell
  have hf := hI.frozen
  have HI := Aside0.mk hI
  have HA := Aside0.mk ha
  clear hI ha
  go_enter Tryz.func74, Tryz.ntmps74
  go_wp2
  clear hc hf
  go_loopw [5] (fun v5 wr => ∃ k : Nat, k ≤ s.size ∧ v5 = .int .i64 k ∧ Aside0 (∀ j : Nat, j < k → p (bt s j) = true) ∧ Aside0 (Rd wr g s) ∧ Aside0 (KB g w wr)) (fun v5 _ => s.size - (intOf v5).toNat)
  case atStart => exact ⟨0, Nat.zero_le _, rfl, ⟨fun j hj => by omega⟩, HI, ⟨KB.refl _ _⟩⟩
  case round =>
    clear HI
    obtain ⟨k, hk, rfl, hJ, hR, hB⟩ := hrel
    have hc := hR.out.cell
    have hf := hR.out.frozen
    by_cases hlt : k < s.size
    · have hx : ∀ h : k < s.size, ((s[k]'h).toNat : Int) = bt s k := fun h => by have := bt_at s k (by simpa using h); simpa using this
      have hltd : decide ((k : Int) < (s.size : Int)) = true := decide_eq_true (by omega)
      have hcall := HA.out (bt s k) wr
      have hbt := Aside0.mk (show p (bt s k) = p (bt s k) from rfl)
      cases hpk : p (bt s k) with
      | true =>
        rw [hpk] at hcall
        have hJ2 : Aside0 (∀ j : Nat, j < k + 1 → p (bt s j) = true) := ⟨fun j hj => by
          by_cases h : j < k
          · exact hJ.out j h
          · obtain rfl : j = k := by omega
            exact hpk⟩
        clear hbt hpk hJ
        generalize bt s k = c at *
        go_wp2_with (first | (go_at_fn n; refine hcall.mono ?_; rintro e w' ⟨rfl, ⟨q, rfl⟩⟩))
        go_roundw
        case rel => exact ⟨k + 1, by omega, by go_num, hJ2, ⟨hR.out.drewN _⟩, ⟨hB.out.drewN _⟩⟩
        case measure => simp [intOf]; omega
      | false =>
        rw [hpk] at hcall
        have hJ2 := Aside0.mk (span_eq p s k hk hJ.out (fun _ => hpk))
        clear hbt hpk hJ
        generalize bt s k = c at *
        go_wp2_with (first | (go_at_fn n; refine hcall.mono ?_; rintro e w' ⟨rfl, ⟨q, rfl⟩⟩))
        go_ret
        exact ⟨by unfold takB; rw [hJ2.out]; rfl, by unfold drpB; rw [hJ2.out]; exact (hR.out.drewN _).set _, (hB.out.drewN _).set _ _⟩
    · obtain rfl : k = s.size := by omega
      have hJ2 := Aside0.mk (span_eq p s s.size (Nat.le_refl _) hJ.out (fun h => absurd h (by omega)))
      have hltd : decide ((s.size : Int) < (s.size : Int)) = false := decide_eq_false (by omega)
      clear hJ
      go_wp2
      go_ret
      exact ⟨by unfold takB; rw [hJ2.out]; simp, by unfold drpB; rw [hJ2.out]; simpa using hR.out.set ByteArray.empty, hB.out.set _ _⟩
end Go.Proofs.YtciigmlibnpeeaaGreatDoor.Sf
/- What a reader's method gives: a value and what is left, or it gives up. -/
set_option linter.unusedVariables false
set_option linter.unusedSimpArgs false
namespace Go.Proofs.YtciigmlibnpeeaaGreatDoor.Sf
open Go.RowKit Go.Proofs.YtciigmlibnpeeaaGreatDoorW.PrintWords Go.Proofs.YtciigmlibnpeeaaGreatDoorW.PrintLast Go.Proofs.YtciigmlibnpeeaaGreatDoorW.PrintMore
/-- What a reader's method gives: a value and what is left, or it gives up. -/
def Gives {α : Type} (g : Nat) (w : World) (enc : α → Value) (r : Option (α × ByteArray)) (e : Ending) (w' : World) : Prop :=
  (match r with | some (x, t) => e = .returned (enc x) ∧ Rd w' g t | none => e = gave) ∧ KB g w w'
theorem Gives.dead {α : Type} {g : Nat} {w w' : World} {enc : α → Value} {r : Option (α × ByteArray)} (h : r = none) (hk : KB g w w') : Gives g w enc r gave w' := by subst h; exact ⟨rfl, hk⟩
theorem Gives.ok {α : Type} {g : Nat} {w w' : World} {enc : α → Value} {r : Option (α × ByteArray)} {x : α} {t : ByteArray} {e : Ending} (h : r = some (x, t)) (he : e = .returned (enc x)) (hR : Rd w' g t) (hk : KB g w w') : Gives g w enc r e w' := by subst h; exact ⟨⟨he, hR⟩, hk⟩
theorem nonempty_ne (s : ByteArray) (h0 : 0 < s.size) : (s.toList == ([] : List UInt8)) = false ∧ (s.toList != ([] : List UInt8)) = true := by
  have c1 : (s.toList == ([] : List UInt8)) = false := by
    rw [beq_eq_false_iff_ne]; intro he
    have := Lib.toList_data s
    rw [he] at this
    have h2 := congrArg List.length this
    rw [← Lib.size_eq] at h2
    simp at h2; omega
  exact ⟨c1, by simp [bne, c1]⟩
theorem empty_eq (s : ByteArray) (h0 : ¬ 0 < s.size) : (s.toList == ([] : List UInt8)) = true ∧ (s.toList != ([] : List UInt8)) = false := by
  have c1 : (s.toList == ([] : List UInt8)) = true := by
    rw [beq_iff_eq, Lib.toList_data]
    apply List.eq_nil_of_length_eq_zero
    rw [← Lib.size_eq]; omega
  exact ⟨c1, by simp [bne, c1]⟩
def rdKey (s : ByteArray) : Option (ByteArray × ByteArray) := if 0 < s.size ∧ (smP (bt s 0) = true ∨ bt s 0 = 42) then some (takB keP s, drpB keP s) else none
theorem while_key (g : Nat) (s : ByteArray) (w : World) (hs : s.size ≤ 9223372036854775806) (hI : Rd w g s) :
    Calls Tryz.prog 74 #[.pointer (some ⟨g, 0, none⟩), .func (.func 101) #[] #[]] w fun e w' => e = .returned (.string (takB keP s)) ∧ Rd w' g (drpB keP s) ∧ KB g w w' := while_calls 101 keP asks_key (Go.Proofs.enters_of Tryz.func101 (by kernel_rfl) rfl) g s w hs hI
set_option maxHeartbeats 2000000 in
set_option maxRecDepth 100000 in
theorem key_calls (g : Nat) (s : ByteArray) (w : World) (hs : s.size ≤ 9223372036854775806) (hI : Rd w g s) :
    Calls Tryz.prog 80 #[.pointer (some ⟨g, 0, none⟩)] w fun e w' => Gives g w Value.string (rdKey s) e w' := by
  have hc := hI.cell
  have hf := hI.frozen
  have hW := Aside0.mk (fun q : Nat => while_key g s (w.drewN q) hs (hI.drewN q))
  have HI := Aside0.mk hI
  clear hI
  by_cases h0 : 0 < s.size
  · obtain ⟨c1, c1b⟩ := nonempty_ne s h0
    have hx6 : ∀ h : 0 < s.size, ((s[0]'h).toNat : Int) = bt s 0 := bt_at s 0
    have q6 := eq_true h0
    have qi6 : (0 < (s.size : Int)) = True := eq_true (by omega)
    have hsm := asks_small (bt s 0)
    cases h1 : smP (bt s 0) with
    | true =>
      have e : rdKey s = some (takB keP s, drpB keP s) := if_pos ⟨h0, Or.inl h1⟩
      rw [e]
      rw [h1] at hsm
      clear h1 e
      generalize bt s 0 = c at *
      go_enter Tryz.func80, Tryz.ntmps80
      go_wp2_with (first | (go_at_call 99; refine (hsm _).mono ?_; rintro e w' ⟨rfl, ⟨q, rfl⟩⟩) | (go_at_call 74; refine (hW.out _).mono ?_; rintro e w' ⟨rfl, hR, hB⟩))
      go_ret
      exact ⟨⟨rfl, hR⟩, ((KB.refl _ _).drewN _).trans hB⟩
    | false =>
      rw [h1] at hsm
      by_cases h2 : bt s 0 = 42
      · have e : rdKey s = some (takB keP s, drpB keP s) := if_pos ⟨h0, Or.inr h2⟩
        rw [e]
        have h2a : (bt s 0 != 42) = false := by simp [h2]
        clear h1 e h2
        generalize bt s 0 = c at *
        go_enter Tryz.func80, Tryz.ntmps80
        go_wp2_with (first | (go_at_call 99; refine (hsm _).mono ?_; rintro e w' ⟨rfl, ⟨q, rfl⟩⟩) | (go_at_call 74; refine (hW.out _).mono ?_; rintro e w' ⟨rfl, hR, hB⟩))
        go_ret
        exact ⟨⟨rfl, hR⟩, ((KB.refl _ _).drewN _).trans hB⟩
      · have e : rdKey s = none := if_neg (fun h => by rcases h.2 with h | h <;> simp_all)
        rw [e]
        have h2a : (bt s 0 != 42) = true := by simp [h2]
        clear h1 e h2
        generalize bt s 0 = c at *
        go_enter Tryz.func80, Tryz.ntmps80
        go_wp2_with (first | (go_at_call 99; refine (hsm _).mono ?_; rintro e w' ⟨rfl, ⟨q, rfl⟩⟩) | (go_at_call 70; refine (fail_calls _ _).mono ?_; rintro e w' ⟨rfl, rfl⟩))
        exact ⟨rfl, rfl, (KB.refl _ _).drewN _⟩
  · obtain ⟨c1, c1b⟩ := empty_eq s h0
    have e : rdKey s = none := if_neg (fun h => h0 h.1)
    rw [e]
    go_enter Tryz.func80, Tryz.ntmps80
    go_wp2_with (first | (go_at_call 70; refine (fail_calls _ _).mono ?_; rintro e w' ⟨rfl, rfl⟩))
    exact ⟨rfl, rfl, KB.refl _ _⟩
end Go.Proofs.YtciigmlibnpeeaaGreatDoor.Sf
/- The number that a text begins with. -/
set_option linter.unusedVariables false
set_option linter.unusedSimpArgs false
namespace Go.Proofs.YtciigmlibnpeeaaGreatDoor.Sf
open Go.RowKit Go.Proofs.YtciigmlibnpeeaaGreatDoorW.PrintWords Go.Proofs.YtciigmlibnpeeaaGreatDoorW.PrintLast Go.Proofs.YtciigmlibnpeeaaGreatDoorW.PrintMore
/-- The number that a text begins with. -/
def numV (s : ByteArray) : Nat := s.data.toList.foldl (fun a c => a * 10 + (c.toNat - 48)) 0
theorem decFrom_all : ∀ (l : List UInt8) (acc : Nat), (∀ c ∈ l, dgP c.toNat = true) → Lib.decFrom acc l = some (l.foldl (fun a c => a * 10 + (c.toNat - 48)) acc)
  | [], acc, _ => by simp [Lib.decFrom]
  | c :: l, acc, h => by
    have h1 : dgP c.toNat = true := h c (List.mem_cons_self ..)
    have h2 : 48 ≤ (c.toNat : Int) ∧ (c.toNat : Int) ≤ 57 := of_decide_eq_true h1
    have hd : Lib.digitVal c = some (c.toNat - 48) := by
      unfold Lib.digitVal
      exact if_pos (by omega)
    simp only [Lib.decFrom, hd, List.foldl_cons]
    exact decFrom_all l _ (fun x hx => h x (List.mem_cons_of_mem _ hx))
theorem atoi_digits (s : ByteArray) (h0 : 0 < s.size) (h : ∀ c ∈ s.data.toList, dgP c.toNat = true) : Lib.atoi s.data.toList = some (numV s : Int) := by
  unfold numV
  rw [Lib.size_eq] at h0
  generalize s.data.toList = l at *
  cases l with
  | nil => simp at h0
  | cons b r =>
    have h1 : dgP b.toNat = true := h b (List.mem_cons_self ..)
    have h2 : 48 ≤ (b.toNat : Int) ∧ (b.toNat : Int) ≤ 57 := of_decide_eq_true h1
    have n1 : (b == 45) = false := by rw [beq_eq_false_iff_ne]; rintro rfl; simp at h2
    have n2 : (b == 43) = false := by rw [beq_eq_false_iff_ne]; rintro rfl; simp at h2
    simp only [Lib.atoi, n1, n2, Lib.decNat, decFrom_all _ _ h]
    simp
theorem num_bound : ∀ (l : List UInt8) (acc : Nat), (∀ c ∈ l, dgP c.toNat = true) → l.foldl (fun a c => a * 10 + (c.toNat - 48)) acc < (acc + 1) * 10 ^ l.length
  | [], acc, _ => by simp
  | c :: l, acc, h => by
    have h1 : dgP c.toNat = true := h c (List.mem_cons_self ..)
    have h2 : 48 ≤ (c.toNat : Int) ∧ (c.toNat : Int) ≤ 57 := of_decide_eq_true h1
    have ih := num_bound l (acc * 10 + (c.toNat - 48)) (fun x hx => h x (List.mem_cons_of_mem _ hx))
    simp only [List.foldl_cons, List.length_cons]
    refine Nat.lt_of_lt_of_le ih ?_
    rw [Nat.pow_succ, Nat.mul_comm (10 ^ l.length) 10, ← Nat.mul_assoc]
    exact Nat.mul_le_mul_right _ (by omega)
theorem numV_bound (s : ByteArray) (h : ∀ c ∈ s.data.toList, dgP c.toNat = true) (hs : s.size ≤ 18) : numV s < 1000000000000000000 := by
  have h1 := num_bound s.data.toList 0 h
  have h2 : 10 ^ s.data.toList.length ≤ 10 ^ 18 := Nat.pow_le_pow_right (by decide) (by rw [← Lib.size_eq]; exact hs)
  have h3 : (10 : Nat) ^ 18 = 1000000000000000000 := by decide
  unfold numV
  omega
theorem tak_data (p : Int → Bool) (s : ByteArray) : (takB p s).data.toList = s.data.toList.takeWhile (fun c => p c.toNat) := by
  unfold takB spanB
  rw [Lib.extract_data]
  simp only [List.drop_zero, Nat.sub_zero]
  exact (List.prefix_iff_eq_take.1 (List.takeWhile_prefix _)).symm
theorem mem_takeWhile {α : Type} (q : α → Bool) : ∀ (l : List α) (c : α), c ∈ l.takeWhile q → q c = true
  | [], c, h => by simp at h
  | x :: l, c, h => by
    rw [List.takeWhile_cons] at h
    by_cases hx : q x = true
    · rw [if_pos hx] at h
      rcases List.mem_cons.1 h with rfl | h
      · exact hx
      · exact mem_takeWhile q l c h
    · rw [if_neg hx] at h; cases h
theorem tak_all (p : Int → Bool) (s : ByteArray) : ∀ c ∈ (takB p s).data.toList, p c.toNat = true := by
  intro c hc
  rw [tak_data] at hc
  exact mem_takeWhile (fun c : UInt8 => p c.toNat) _ c hc
def zer (n : Nat) : ByteArray := (⟨#[48, 48, 48]⟩ : ByteArray).extract n 3
def rdNumber (s : ByteArray) : Option ((Int × Int × ByteArray) × ByteArray) :=
  let s1 := atR s 45
  let w := takB dgP s1
  let s2 := drpB dgP s1
  let sg : Int := if atF s 45 = true then -1 else 1
  if w.size = 0 then none
  else if atF s2 46 = true then
    let part := takB dgP (tl s2)
    if w.size > 12 ∨ part.size = 0 ∨ part.size > 3 then none
    else some ((2, sg * (numV (w ++ (part ++ zer part.size)) : Int), ⟨#[]⟩), drpB dgP (tl s2))
  else if w.size > 15 then none else some ((1, sg * (numV w : Int), ⟨#[]⟩), s2)
theorem tak_size (p : Int → Bool) (s : ByteArray) : (takB p s).size = spanB p s := by
  have := span_le p s
  unfold takB; rw [ByteArray.size_extract]; omega
theorem tl_size (s : ByteArray) : (tl s).size ≤ s.size := by unfold tl; rw [ByteArray.size_extract]; omega
theorem atR_size (s : ByteArray) (c : Int) : (atR s c).size ≤ s.size := by unfold atR; split; exact tl_size s; exact Nat.le_refl _
theorem drp_size (p : Int → Bool) (s : ByteArray) : (drpB p s).size ≤ s.size := by unfold drpB; rw [ByteArray.size_extract]; omega
/-- A block of a parameter. -/
def PB (W : World) (b : Nat) (k : ByteArray) (n i : Int) (t : ByteArray) : Prop := W.heap[b]? = some (.cells #[.string k, .int .i64 n, .int .i64 i, .string t] 61 (0, 0))
theorem PB.new (W : World) : PB (W.alloc (.cells #[.string ⟨#[]⟩, .int .i64 0, .int .i64 0, .string ⟨#[]⟩] 61)) W.heap.size ⟨#[]⟩ 0 0 ⟨#[]⟩ := by have := blk_new W (.cells #[.string ⟨#[]⟩, .int .i64 0, .int .i64 0, .string ⟨#[]⟩] 61); simpa [PB] using this
theorem PB.c0 {W : World} {b : Nat} {k t : ByteArray} {n i : Int} (h : PB W b k n i t) : W.cell? ⟨b, 0, none⟩ = some (.string k) := (blk_cell h 0).trans rfl
theorem PB.c1 {W : World} {b : Nat} {k t : ByteArray} {n i : Int} (h : PB W b k n i t) : W.cell? ⟨b, 1, none⟩ = some (.int .i64 n) := (blk_cell h 1).trans rfl
theorem PB.c2 {W : World} {b : Nat} {k t : ByteArray} {n i : Int} (h : PB W b k n i t) : W.cell? ⟨b, 2, none⟩ = some (.int .i64 i) := (blk_cell h 2).trans rfl
theorem PB.c3 {W : World} {b : Nat} {k t : ByteArray} {n i : Int} (h : PB W b k n i t) : W.cell? ⟨b, 3, none⟩ = some (.string t) := (blk_cell h 3).trans rfl
theorem PB.fr {W : World} {b : Nat} {k t : ByteArray} {n i : Int} (h : PB W b k n i t) (j : Nat) : W.frozen? ⟨b, j, none⟩ = false := blk_frozen h j
theorem PB.kb {W W' : World} {b g : Nat} {k t : ByteArray} {n i : Int} (h : PB W b k n i t) (hk : KB g W W') (hg : b ≠ g) : PB W' b k n i t := hk.blk h hg
theorem PB.alloc {W : World} {b : Nat} {k t : ByteArray} {n i : Int} (h : PB W b k n i t) (o : Obj) : PB (W.alloc o) b k n i t := blk_alloc h o
theorem PB.drewN {W : World} {b : Nat} {k t : ByteArray} {n i : Int} (h : PB W b k n i t) (m : Nat) : PB (W.drewN m) b k n i t := h
theorem PB.far {W : World} {b : Nat} {k t : ByteArray} {n i : Int} (h : PB W b k n i t) {p : Addr} (hp : b ≠ p.block) (u : Value) : PB (W.setCell p u) b k n i t := blk_far h hp u
def encP (x : Int × Int × ByteArray) : Value := .agg #[.string ⟨#[]⟩, .int .i64 x.1, .int .i64 x.2.1, .string x.2.2]
theorem while_digit (g : Nat) (s : ByteArray) (w : World) (hs : s.size ≤ 9223372036854775806) (hI : Rd w g s) :
    Calls Tryz.prog 74 #[.pointer (some ⟨g, 0, none⟩), .func (.func 71) #[] #[]] w fun e w' => e = .returned (.string (takB dgP s)) ∧ Rd w' g (drpB dgP s) ∧ KB g w w' := while_calls 71 dgP asks_digit (Go.Proofs.enters_of Tryz.func71 (by kernel_rfl) rfl) g s w hs hI
/-- A parameter that is laid over another, cell by cell. -/
def putP (W : World) (b : Nat) (k : ByteArray) (n i : Int) (t : ByteArray) : World := (((W.setCell ⟨b, 0, none⟩ (.string k)).setCell ⟨b, 1, none⟩ (.int .i64 n)).setCell ⟨b, 2, none⟩ (.int .i64 i)).setCell ⟨b, 3, none⟩ (.string t)
theorem PB.put {W : World} {b : Nat} {k t : ByteArray} {n i : Int} (h : PB W b k n i t) (k' : ByteArray) (n' i' : Int) (t' : ByteArray) : PB (putP W b k' n' i' t') b k' n' i' t' := by
  have h1 := blk_set h 0 (.string k'); have h2 := blk_set h1 1 (.int .i64 n'); have h3 := blk_set h2 2 (.int .i64 i'); have h4 := blk_set h3 3 (.string t')
  unfold putP PB
  simpa using h4
theorem Rd.put {W : World} {g b : Nat} {s : ByteArray} (h : Rd W g s) (hg : g ≠ b) (k : ByteArray) (n i : Int) (t : ByteArray) : Rd (putP W b k n i t) g s :=
  (((h.far (p := ⟨b, 0, none⟩) hg _).far (p := ⟨b, 1, none⟩) hg _).far (p := ⟨b, 2, none⟩) hg _).far (p := ⟨b, 3, none⟩) hg _
theorem KB.put {g b : Nat} {w w1 : World} (h : KB g w w1) (hb : w.heap.size ≤ b) (k : ByteArray) (n i : Int) (t : ByteArray) : KB g w (putP w1 b k n i t) :=
  (((h.far (p := ⟨b, 0, none⟩) hb _).far (p := ⟨b, 1, none⟩) hb _).far (p := ⟨b, 2, none⟩) hb _).far (p := ⟨b, 3, none⟩) hb _
/-- A number in a parameter's third cell. -/
theorem PB.set2 {W : World} {b : Nat} {k t : ByteArray} {n i : Int} (h : PB W b k n i t) (v : Int) : PB (W.setCell ⟨b, 2, none⟩ (.int .i64 v)) b k n v t := by have := blk_set h 2 (.int .i64 v); simpa [PB] using this
theorem zer_digits (n : Nat) : ∀ c ∈ (zer n).data.toList, dgP c.toNat = true := by
  intro c hc
  unfold zer at hc
  rw [Lib.extract_data] at hc
  have h := List.mem_of_mem_drop (List.mem_of_mem_take hc)
  have h : c ∈ ([48, 48, 48] : List UInt8) := h
  simp at h
  subst h
  decide
theorem zer_size (n : Nat) (h : n ≤ 3) : (zer n).size = 3 - n := by unfold zer; rw [ByteArray.size_extract, show (⟨#[48, 48, 48]⟩ : ByteArray).size = 3 from rfl]; omega
theorem app_digits {a b : ByteArray} (ha : ∀ c ∈ a.data.toList, dgP c.toNat = true) (hb : ∀ c ∈ b.data.toList, dgP c.toNat = true) : ∀ c ∈ (a ++ b).data.toList, dgP c.toNat = true := by
  intro c hc
  have e : (a ++ b).data.toList = a.data.toList ++ b.data.toList := by simp
  rw [e] at hc
  rcases List.mem_append.1 hc with h | h
  · exact ha c h
  · exact hb c h
def sgn (s : ByteArray) : Int := if atF s 45 = true then -1 else 1
theorem rdNumber_eq (s : ByteArray) : rdNumber s = if (takB dgP (atR s 45)).size = 0 then none
    else if atF (drpB dgP (atR s 45)) 46 = true then
      (if (takB dgP (atR s 45)).size > 12 ∨ (takB dgP (tl (drpB dgP (atR s 45)))).size = 0 ∨ (takB dgP (tl (drpB dgP (atR s 45)))).size > 3 then none
      else some ((2, sgn s * (numV (takB dgP (atR s 45) ++ (takB dgP (tl (drpB dgP (atR s 45))) ++ zer (takB dgP (tl (drpB dgP (atR s 45)))).size)) : Int), ⟨#[]⟩), drpB dgP (tl (drpB dgP (atR s 45)))))
    else if (takB dgP (atR s 45)).size > 15 then none else some ((1, sgn s * (numV (takB dgP (atR s 45)) : Int), ⟨#[]⟩), drpB dgP (atR s 45)) := rfl
/-- What the second half of number knows. -/
def Half (s : ByteArray) (kd : Int) (pt rest : ByteArray) : Prop :=
  (rdNumber s = if (takB dgP (atR s 45)).size = 0 ∨ (kd = 1 ∧ (takB dgP (atR s 45)).size > 15) then none else some ((kd, sgn s * (numV (takB dgP (atR s 45) ++ pt) : Int), ⟨#[]⟩), rest)) ∧
  (kd = 1 ∨ kd = 2) ∧ (kd = 2 → 0 < (takB dgP (atR s 45)).size ∧ (takB dgP (atR s 45)).size ≤ 12) ∧ pt.size ≤ 3 ∧ ∀ c ∈ pt.data.toList, dgP c.toNat = true
theorem app_empty (a : ByteArray) : a ++ (⟨#[]⟩ : ByteArray) = a := by apply ByteArray.ext; simp
theorem Half.none (s : ByteArray) (h : (takB dgP (atR s 45)).size = 0) (rest : ByteArray) : Half s 1 ⟨#[]⟩ rest := by
  refine ⟨?_, Or.inl rfl, fun h => absurd h (by decide), Nat.zero_le _, fun c hc => absurd hc (by simp)⟩
  rw [if_pos (Or.inl h)]
  rw [rdNumber_eq, if_pos h]
theorem Half.plain (s : ByteArray) (h : ¬ (takB dgP (atR s 45)).size = 0) (hd : atF (drpB dgP (atR s 45)) 46 = false) : Half s 1 ⟨#[]⟩ (drpB dgP (atR s 45)) := by
  refine ⟨?_, Or.inl rfl, fun h => absurd h (by decide), Nat.zero_le _, fun c hc => absurd hc (by simp)⟩
  rw [rdNumber_eq, if_neg h, if_neg (by rw [hd]; decide), app_empty]
  by_cases hb : (takB dgP (atR s 45)).size > 15
  · rw [if_pos hb, if_pos (Or.inr ⟨rfl, hb⟩)]
  · rw [if_neg hb, if_neg (fun h' => h'.elim h (fun h' => hb h'.2))]
theorem Half.dot (s : ByteArray) (h : ¬ (takB dgP (atR s 45)).size = 0) (hd : atF (drpB dgP (atR s 45)) 46 = true) (hn : ¬ ((takB dgP (atR s 45)).size > 12 ∨ (takB dgP (tl (drpB dgP (atR s 45)))).size = 0 ∨ (takB dgP (tl (drpB dgP (atR s 45)))).size > 3)) :
    Half s 2 (takB dgP (tl (drpB dgP (atR s 45))) ++ zer (takB dgP (tl (drpB dgP (atR s 45)))).size) (drpB dgP (tl (drpB dgP (atR s 45)))) := by
  refine ⟨?_, Or.inr rfl, fun _ => by omega, by rw [ByteArray.size_append, zer_size _ (by omega)]; omega, app_digits (tak_all _ _) (zer_digits _)⟩
  rw [rdNumber_eq, if_neg h, if_pos hd, if_neg hn]
  rw [if_neg (fun h' => h'.elim h (fun h' => absurd h'.1 (by decide)))]
theorem number_dead (s : ByteArray) (h : ¬ (takB dgP (atR s 45)).size = 0) (hd : atF (drpB dgP (atR s 45)) 46 = true) (hn : (takB dgP (atR s 45)).size > 12 ∨ (takB dgP (tl (drpB dgP (atR s 45)))).size = 0 ∨ (takB dgP (tl (drpB dgP (atR s 45)))).size > 3) : rdNumber s = none := by
  rw [rdNumber_eq, if_neg h, if_pos hd, if_pos hn]
set_option maxHeartbeats 4000000 in
set_option maxRecDepth 100000 in
theorem number_calls (g : Nat) (s : ByteArray) (w : World) (hs : s.size ≤ 9223372036854775806) (hI : Rd w g s) :
    Calls Tryz.prog 72 #[.pointer (some ⟨g, 0, none⟩)] w fun e w' => Gives g w encP (rdNumber s) e w' := by
  have hz1 : (atR s 45).size ≤ 9223372036854775806 := Nat.le_trans (atR_size _ _) hs
  have hz2 : (drpB dgP (atR s 45)).size ≤ 9223372036854775806 := Nat.le_trans (drp_size _ _) hz1
  have hz3 : (tl (drpB dgP (atR s 45))).size ≤ 9223372036854775806 := Nat.le_trans (tl_size _) hz2
  have hA1 := Aside0.mk (fun W (h : Rd W g s) => at_calls g s 45 W h)
  have hW1 := Aside0.mk (fun W (h : Rd W g (atR s 45)) => while_digit g (atR s 45) W hz1 h)
  have hA2 := Aside0.mk (fun W (h : Rd W g (drpB dgP (atR s 45))) => at_calls g _ 46 W h)
  have hW2 := Aside0.mk (fun W (h : Rd W g (tl (drpB dgP (atR s 45)))) => while_digit g _ W hz3 h)
  have hI1 := Aside0.mk (hI.alloc (.cells #[.string ⟨#[]⟩, .int .i64 0, .int .i64 0, .string ⟨#[]⟩] 61))
  have hP1 := Aside0.mk (PB.new w)
  have hK1 := Aside0.mk ((KB.refl g w).alloc (.cells #[.string ⟨#[]⟩, .int .i64 0, .int .i64 0, .string ⟨#[]⟩] 61))
  have hne : w.heap.size ≠ g := by have := hI.lt; omega
  clear hI
  go_enter Tryz.func72, Tryz.ntmps72
  go_upto_if 10 with (first | (go_at_call 76; refine (hA1.out _ hI1.out).mono ?_; rintro e w2 ⟨rfl, hR2, hB2⟩))
  have hP2 := Aside0.mk (hP1.out.kb hB2 hne)
  have hK2 := Aside0.mk (hK1.out.trans hB2)
  have hR2 := Aside0.mk hR2
  clear hI1 hP1 hK1 hA1 hB2
  go_cut [3] (fun v3 wc => v3 = .int .i64 (sgn s) ∧ Aside0 (Rd wc g (atR s 45)) ∧ Aside0 (PB wc w.heap.size ⟨#[]⟩ 0 0 ⟨#[]⟩) ∧ Aside0 (KB g w wc))
  case first =>
    cases h : atF s 45 with
    | true =>
      have hsg : sgn s = -1 := if_pos h
      go_wp2
      go_meet
      case rel => exact ⟨by rw [hsg], hR2, hP2, hK2⟩
    | false =>
      have hsg : sgn s = 1 := if_neg (by rw [h]; decide)
      go_wp2
      go_meet
      case rel => exact ⟨by rw [hsg], hR2, hP2, hK2⟩
  case rest =>
    clear hR2 hP2 hK2
    obtain ⟨rfl, hR2, hP2, hK2⟩ := hcut
    go_upto_region 7 with (first | (go_at_call 74; refine (hW1.out _ hR2.out).mono ?_; rintro e w3 ⟨rfl, hR3, hB3⟩))
    have hR4 := Aside0.mk (hR3.alloc (.cells #[.string ⟨#[]⟩, .int .i64 1, .int .i64 0, .string ⟨#[]⟩] 61))
    have hP4 := Aside0.mk ((hP2.out.kb hB3 hne).alloc (.cells #[.string ⟨#[]⟩, .int .i64 1, .int .i64 0, .string ⟨#[]⟩] 61))
    have hQ4 : Aside0 (PB (w3.alloc (.cells #[.string ⟨#[]⟩, .int .i64 1, .int .i64 0, .string ⟨#[]⟩] 61)) w3.heap.size ⟨#[]⟩ 1 0 ⟨#[]⟩) := ⟨by
      have := blk_new w3 (.cells #[.string ⟨#[]⟩, .int .i64 1, .int .i64 0, .string ⟨#[]⟩] 61); simpa [PB] using this⟩
    have hK4 := Aside0.mk ((hK2.out.trans hB3).alloc (.cells #[.string ⟨#[]⟩, .int .i64 1, .int .i64 0, .string ⟨#[]⟩] 61))
    have hne2 : w3.heap.size ≠ g := by have := hR3.lt; omega
    have hge : w.heap.size ≤ w3.heap.size := Nat.le_trans hK2.out.size hB3.size
    have hne3 : w.heap.size ≠ w3.heap.size := by have := blk_lt (hP2.out.kb hB3 hne); omega
    clear hR2 hP2 hK2 hB3 hR3 hW1
    generalize w3.alloc (.cells #[.string ⟨#[]⟩, .int .i64 1, .int .i64 0, .string ⟨#[]⟩] 61) = w4 at *
    generalize w3.heap.size = pb at *
    go_cut [20] (fun v20 wc => ∃ (b : Bool) (rest : ByteArray), v20 = .bool b ∧ Aside0 (Rd wc g rest) ∧ Aside0 (PB wc w.heap.size ⟨#[]⟩ 0 0 ⟨#[]⟩) ∧ Aside0 (PB wc pb ⟨#[]⟩ 1 0 ⟨#[]⟩) ∧ Aside0 (KB g w wc) ∧ Aside0 (if b = true then ¬ (takB dgP (atR s 45)).size = 0 ∧ atF (drpB dgP (atR s 45)) 46 = true ∧ rest = tl (drpB dgP (atR s 45)) else Half s 1 ⟨#[]⟩ rest))
    case first =>
      by_cases hn : (takB dgP (atR s 45)).size = 0
      · have hx := Aside0.mk (Half.none s hn (drpB dgP (atR s 45)))
        have hd : decide (0 < ((takB dgP (atR s 45)).size : Int)) = false := decide_eq_false (by omega)
        have hd2 : decide (0 < (takB dgP (atR s 45)).size) = false := decide_eq_false (by omega)
        clear hn
        go_wp2
        go_meet
        case rel => exact ⟨false, _, rfl, hR4, hP4, hQ4, hK4, by simpa using hx⟩
      · have hd : decide (0 < ((takB dgP (atR s 45)).size : Int)) = true := decide_eq_true (by omega)
        have hd2 : decide (0 < (takB dgP (atR s 45)).size) = true := decide_eq_true (by omega)
        cases h : atF (drpB dgP (atR s 45)) 46 with
        | false =>
          have hx := Aside0.mk (Half.plain s hn h)
          have er : atR (drpB dgP (atR s 45)) 46 = drpB dgP (atR s 45) := if_neg (by rw [h]; decide)
          clear hn
          go_wp2_with (first | (go_at_call 76; refine (hA2.out _ hR4.out).mono ?_; rw [h]; rintro e w5 ⟨rfl, hR5, hB5⟩))
          go_meet
          case rel => exact ⟨false, _, rfl, ⟨er ▸ hR5⟩, ⟨hP4.out.kb hB5 hne⟩, ⟨hQ4.out.kb hB5 hne2⟩, ⟨hK4.out.trans hB5⟩, by simpa using hx⟩
        | true =>
          have er : atR (drpB dgP (atR s 45)) 46 = tl (drpB dgP (atR s 45)) := if_pos h
          have hx : Aside0 (¬ (takB dgP (atR s 45)).size = 0 ∧ atF (drpB dgP (atR s 45)) 46 = true ∧ tl (drpB dgP (atR s 45)) = tl (drpB dgP (atR s 45))) := ⟨hn, h, rfl⟩
          clear hn
          go_wp2_with (first | (go_at_call 76; refine (hA2.out _ hR4.out).mono ?_; rw [h]; rintro e w5 ⟨rfl, hR5, hB5⟩))
          go_meet
          case rel => exact ⟨true, tl (drpB dgP (atR s 45)), rfl, ⟨er ▸ hR5⟩, ⟨hP4.out.kb hB5 hne⟩, ⟨hQ4.out.kb hB5 hne2⟩, ⟨hK4.out.trans hB5⟩, ⟨by rw [if_pos rfl]; exact ⟨hx.out.1, hx.out.2.1, rfl⟩⟩⟩
    case rest =>
      clear hR4 hP4 hQ4 hK4 hA2
      obtain ⟨b, rest, rfl, hR5, hP5, hQ5, hK5, hX⟩ := hcut
      go_upto_if 20 with (fail)
      go_cut [6] (fun v6 wc => ∃ (kd : Int) (pt rest : ByteArray), v6 = .string pt ∧ Aside0 (Rd wc g rest) ∧ Aside0 (PB wc w.heap.size ⟨#[]⟩ 0 0 ⟨#[]⟩) ∧ Aside0 (PB wc pb ⟨#[]⟩ kd 0 ⟨#[]⟩) ∧ Aside0 (KB g w wc) ∧ Aside0 (Half s kd pt rest))
      case first =>
        cases b with
        | false =>
          have hx : Aside0 (Half s 1 ⟨#[]⟩ rest) := by simpa using hX
          clear hX
          go_wp2
          go_meet
          case rel => exact ⟨1, _, rest, rfl, hR5, hP5, hQ5, hK5, hx⟩
        | true =>
          have hx : ¬ (takB dgP (atR s 45)).size = 0 ∧ atF (drpB dgP (atR s 45)) 46 = true ∧ rest = tl (drpB dgP (atR s 45)) := by have := hX.out; simpa using this
          obtain ⟨hn, hat, rfl⟩ := hx
          clear hX
          have hc1 := hQ5.out.c1
          have hf1 := hQ5.out.fr 1
          have hR6 : Aside0 (Rd (wc.setCell ⟨pb, 1, none⟩ (.int .i64 2)) g (tl (drpB dgP (atR s 45)))) := ⟨hR5.out.far (p := ⟨pb, 1, none⟩) (fun e => hne2 e.symm) _⟩
          have hP6 : Aside0 (PB (wc.setCell ⟨pb, 1, none⟩ (.int .i64 2)) w.heap.size ⟨#[]⟩ 0 0 ⟨#[]⟩) := ⟨hP5.out.far (p := ⟨pb, 1, none⟩) hne3 _⟩
          have hQ6 : Aside0 (PB (wc.setCell ⟨pb, 1, none⟩ (.int .i64 2)) pb ⟨#[]⟩ 2 0 ⟨#[]⟩) := ⟨by have := blk_set hQ5.out 1 (.int .i64 2); simpa [PB] using this⟩
          have hK6 : Aside0 (KB g w (wc.setCell ⟨pb, 1, none⟩ (.int .i64 2))) := ⟨hK5.out.far (p := ⟨pb, 1, none⟩) hge _⟩
          clear hR5 hP5 hQ5 hK5
          by_cases hbad : (takB dgP (atR s 45)).size > 12 ∨ (takB dgP (tl (drpB dgP (atR s 45)))).size = 0 ∨ (takB dgP (tl (drpB dgP (atR s 45)))).size > 3
          · have hdead := Aside0.mk (number_dead s hn hat hbad)
            by_cases e1 : (takB dgP (atR s 45)).size > 12
            · have d1 : decide (12 < ((takB dgP (atR s 45)).size : Int)) = true := decide_eq_true (by omega)
              have d1b : decide (12 < (takB dgP (atR s 45)).size) = true := decide_eq_true (by omega)
              clear hn hat hbad e1
              go_wp2_with (first | (go_at_call 74; refine (hW2.out _ hR6.out).mono ?_; rintro e w6 ⟨rfl, hR7, hB7⟩) | (go_at_call 70; refine (fail_calls _ _).mono ?_; rintro e w' ⟨rfl, rfl⟩))
              exact ⟨rfl, Gives.dead hdead.out (hK6.out.trans hB7)⟩
            · have d1 : decide (12 < ((takB dgP (atR s 45)).size : Int)) = false := decide_eq_false (by omega)
              have d1b : decide (12 < (takB dgP (atR s 45)).size) = false := decide_eq_false (by omega)
              by_cases e2 : 0 < (takB dgP (tl (drpB dgP (atR s 45)))).size
              · have d2 := (nonempty_ne _ e2).1
                have d3 : decide (3 < ((takB dgP (tl (drpB dgP (atR s 45)))).size : Int)) = true := decide_eq_true (by omega)
                have d3b : decide (3 < (takB dgP (tl (drpB dgP (atR s 45)))).size) = true := decide_eq_true (by omega)
                clear hn hat hbad e1 e2
                go_wp2_with (first | (go_at_call 74; refine (hW2.out _ hR6.out).mono ?_; rintro e w6 ⟨rfl, hR7, hB7⟩) | (go_at_call 70; refine (fail_calls _ _).mono ?_; rintro e w' ⟨rfl, rfl⟩))
                exact ⟨rfl, Gives.dead hdead.out (hK6.out.trans hB7)⟩
              · have d2 := (empty_eq _ e2).1
                clear hn hat hbad e1 e2
                go_wp2_with (first | (go_at_call 74; refine (hW2.out _ hR6.out).mono ?_; rintro e w6 ⟨rfl, hR7, hB7⟩) | (go_at_call 70; refine (fail_calls _ _).mono ?_; rintro e w' ⟨rfl, rfl⟩))
                exact ⟨rfl, Gives.dead hdead.out (hK6.out.trans hB7)⟩
          · have hx := Aside0.mk (Half.dot s hn hat hbad)
            have d1 : decide (12 < ((takB dgP (atR s 45)).size : Int)) = false := decide_eq_false (by omega)
            have d1b : decide (12 < (takB dgP (atR s 45)).size) = false := decide_eq_false (by omega)
            have d2 := (nonempty_ne (takB dgP (tl (drpB dgP (atR s 45)))) (by omega)).1
            have d3 : decide (3 < ((takB dgP (tl (drpB dgP (atR s 45)))).size : Int)) = false := decide_eq_false (by omega)
            have d3b : decide (3 < (takB dgP (tl (drpB dgP (atR s 45)))).size) = false := decide_eq_false (by omega)
            have d4 : (takB dgP (tl (drpB dgP (atR s 45)))).size ≤ 3 := by omega
            have d5 : ((takB dgP (tl (drpB dgP (atR s 45)))).size : Int) ≤ 3 := by omega
            clear hn hat hbad
            go_wp2_with (first | (go_at_call 74; refine (hW2.out _ hR6.out).mono ?_; rintro e w6 ⟨rfl, hR7, hB7⟩))
            go_meet
            case rel => exact ⟨2, _, _, rfl, ⟨hR7⟩, ⟨hP6.out.kb hB7 hne⟩, ⟨hQ6.out.kb hB7 hne2⟩, ⟨hK6.out.trans hB7⟩, hx⟩
      case rest =>
        clear hR5 hP5 hQ5 hK5 hX hW2
        obtain ⟨kd, pt, rest, rfl, hR6, hP6, hQ6, hK6, hH⟩ := hcut
        by_cases h0 : (takB dgP (atR s 45)).size = 0
        · have hdead := Aside0.mk (hH.out.1.trans (if_pos (Or.inl h0)))
          have d1 := (empty_eq (takB dgP (atR s 45)) (by omega)).1
          have hc1 := hQ6.out.c1
          have hf1 := hQ6.out.fr 1
          clear h0 hH
          go_wp2_with (first | (go_at_call 70; refine (fail_calls _ _).mono ?_; rintro e w' ⟨rfl, rfl⟩))
          exact ⟨rfl, Gives.dead hdead.out hK6.out⟩
        · rcases hH.out.2.1 with rfl | rfl
          · by_cases h15 : (takB dgP (atR s 45)).size > 15
            · have hdead := Aside0.mk (hH.out.1.trans (if_pos (Or.inr ⟨rfl, h15⟩)))
              have d1 := (nonempty_ne (takB dgP (atR s 45)) (by omega)).1
              have d2 : decide (15 < ((takB dgP (atR s 45)).size : Int)) = true := decide_eq_true (by omega)
              have d2b : decide (15 < (takB dgP (atR s 45)).size) = true := decide_eq_true (by omega)
              have hc1 := hQ6.out.c1
              have hf1 := hQ6.out.fr 1
              clear h0 hH h15
              go_wp2_with (first | (go_at_call 70; refine (fail_calls _ _).mono ?_; rintro e w' ⟨rfl, rfl⟩))
              exact ⟨rfl, Gives.dead hdead.out hK6.out⟩
            · skip
              obtain ⟨hE, _, hk2, hp3, hpd⟩ := hH.out
              have hG := Aside0.mk (hE.trans (if_neg (by omega)))
              have hsz : (takB dgP (atR s 45) ++ pt).size ≤ 18 := by rw [ByteArray.size_append]; omega
              have hpos : 0 < (takB dgP (atR s 45) ++ pt).size := by rw [ByteArray.size_append]; omega
              have hat := atoi_digits _ hpos (app_digits (tak_all dgP _) hpd)
              have hbd := numV_bound _ (app_digits (tak_all dgP (atR s 45)) hpd) hsz
              have hAt := Aside0.mk (fun W => Tryz.strconv_Atoi _ _ hsz hat W)
              have hm : wrap64 (sgn s * (numV (takB dgP (atR s 45) ++ pt) : Int)) = sgn s * (numV (takB dgP (atR s 45) ++ pt) : Int) := by
                refine IntWalk.wrap64_in _ ?_
                unfold sgn
                split <;> constructor <;> omega
              have hM := Aside0.mk hm
              have d1 := (nonempty_ne _ (show 0 < (takB dgP (atR s 45)).size by omega)).1
              have hlen : (takB dgP (atR s 45)).size + pt.size ≤ 18 := by rw [ByteArray.size_append] at hsz; exact hsz
              have d2 : decide (15 < ((takB dgP (atR s 45)).size : Int)) = false := decide_eq_false (by omega)
              have d2b : decide (15 < (takB dgP (atR s 45)).size) = false := decide_eq_false (by omega)
              have hc1 := hQ6.out.c1
              have hf1 := hQ6.out.fr 1
              clear hE hk2 hp3 hpd hH hsz hpos hat hbd hm
              generalize (numV (takB dgP (atR s 45) ++ pt) : Int) = nv at *
              generalize sgn s = sg at *
              clear h0
              go_upto_region 15 with (fail)
              clear hc1 hf1
              go_upto_region 16 with (first | (go_at_call 98; refine (hAt.out _).mono ?_; rintro e w7 ⟨rfl, t, hw7⟩; have hB7 : Below wc.heap.size wc w7 := (by rw [hw7]; exact bytes_below (Below.refl _ _) (Nat.le_refl _) _ _); clear hw7))
              have hR7 := Aside0.mk (show Rd w7 g rest from blk_below hR6.out hB7)
              have hP7 := Aside0.mk (show PB w7 w.heap.size ⟨#[]⟩ 0 0 ⟨#[]⟩ from blk_below hP6.out hB7)
              have hQ7 := Aside0.mk (show PB w7 pb ⟨#[]⟩ 1 0 ⟨#[]⟩ from blk_below hQ6.out hB7)
              have hK7 := Aside0.mk (hK6.out.below hB7)
              clear hB7 hR6 hP6 hQ6 hK6
              have hc2 := hQ7.out.c2
              have hf2 := hQ7.out.fr 2
              have hm := hM.out
              (try clear d1 d2 d2b); (try clear hlen)
              go_upto_region 17 with (fail)
              have hR8 := Aside0.mk (hR7.out.far (p := ⟨pb, 2, none⟩) (fun e => hne2 e.symm) (.int .i64 (sg * nv)))
              have hP8 := Aside0.mk (hP7.out.far (p := ⟨pb, 2, none⟩) hne3 (.int .i64 (sg * nv)))
              have hQ8 := Aside0.mk (hQ7.out.set2 (sg * nv))
              have hK8 := Aside0.mk (hK7.out.far (p := ⟨pb, 2, none⟩) hge (.int .i64 (sg * nv)))
              clear hR7 hP7 hQ7 hK7 hc2 hf2 hm hM
              generalize w7.setCell ⟨pb, 2, none⟩ (.int .i64 (sg * nv)) = w8 at *
              have hq0 := hQ8.out.c0
              have hq1 := hQ8.out.c1
              have hq2 := hQ8.out.c2
              have hq3 := hQ8.out.c3
              have hp0 := hP8.out.c0
              have hp1 := hP8.out.c1
              have hp2 := hP8.out.c2
              have hp3 := hP8.out.c3
              have hf0 := hP8.out.fr 0
              have hf1 := hP8.out.fr 1
              have hf2 := hP8.out.fr 2
              have hf3 := hP8.out.fr 3
              go_wp2
              refine bodyPost_ret (results_cell_row rfl _ _ w.heap.size 61 #[.string ⟨#[]⟩, .int .i64 1, .int .i64 (sg * nv), .string ⟨#[]⟩] (0, 0) _ rfl (hP8.out.put ⟨#[]⟩ 1 (sg * nv) ⟨#[]⟩) Tryz.underlying61 rfl (by kernel_rfl)) rfl ?_
              exact Gives.ok hG.out rfl (hR8.out.put (fun e => hne e.symm) _ _ _ _) (hK8.out.put (Nat.le_refl _) _ _ _ _)
          · skip
            obtain ⟨hE, _, hk2, hp3, hpd⟩ := hH.out
            have hG := Aside0.mk (hE.trans (if_neg (by omega)))
            have hsz : (takB dgP (atR s 45) ++ pt).size ≤ 18 := by rw [ByteArray.size_append]; omega
            have hpos : 0 < (takB dgP (atR s 45) ++ pt).size := by rw [ByteArray.size_append]; omega
            have hat := atoi_digits _ hpos (app_digits (tak_all dgP _) hpd)
            have hbd := numV_bound _ (app_digits (tak_all dgP (atR s 45)) hpd) hsz
            have hAt := Aside0.mk (fun W => Tryz.strconv_Atoi _ _ hsz hat W)
            have hm : wrap64 (sgn s * (numV (takB dgP (atR s 45) ++ pt) : Int)) = sgn s * (numV (takB dgP (atR s 45) ++ pt) : Int) := by
              refine IntWalk.wrap64_in _ ?_
              unfold sgn
              split <;> constructor <;> omega
            have hM := Aside0.mk hm
            have d1 := (nonempty_ne _ (show 0 < (takB dgP (atR s 45)).size by omega)).1
            have hlen : (takB dgP (atR s 45)).size + pt.size ≤ 18 := by rw [ByteArray.size_append] at hsz; exact hsz
            have hk := hk2 rfl
            have hc1 := hQ6.out.c1
            have hf1 := hQ6.out.fr 1
            clear hE hk2 hp3 hpd hH hsz hpos hat hbd hm
            generalize (numV (takB dgP (atR s 45) ++ pt) : Int) = nv at *
            generalize sgn s = sg at *
            clear h0 hk
            go_upto_region 15 with (fail)
            clear hc1 hf1
            go_upto_region 16 with (first | (go_at_call 98; refine (hAt.out _).mono ?_; rintro e w7 ⟨rfl, t, hw7⟩; have hB7 : Below wc.heap.size wc w7 := (by rw [hw7]; exact bytes_below (Below.refl _ _) (Nat.le_refl _) _ _); clear hw7))
            have hR7 := Aside0.mk (show Rd w7 g rest from blk_below hR6.out hB7)
            have hP7 := Aside0.mk (show PB w7 w.heap.size ⟨#[]⟩ 0 0 ⟨#[]⟩ from blk_below hP6.out hB7)
            have hQ7 := Aside0.mk (show PB w7 pb ⟨#[]⟩ 2 0 ⟨#[]⟩ from blk_below hQ6.out hB7)
            have hK7 := Aside0.mk (hK6.out.below hB7)
            clear hB7 hR6 hP6 hQ6 hK6
            have hc2 := hQ7.out.c2
            have hf2 := hQ7.out.fr 2
            have hm := hM.out
            (try clear d1 d2 d2b); (try clear hlen)
            go_upto_region 17 with (fail)
            have hR8 := Aside0.mk (hR7.out.far (p := ⟨pb, 2, none⟩) (fun e => hne2 e.symm) (.int .i64 (sg * nv)))
            have hP8 := Aside0.mk (hP7.out.far (p := ⟨pb, 2, none⟩) hne3 (.int .i64 (sg * nv)))
            have hQ8 := Aside0.mk (hQ7.out.set2 (sg * nv))
            have hK8 := Aside0.mk (hK7.out.far (p := ⟨pb, 2, none⟩) hge (.int .i64 (sg * nv)))
            clear hR7 hP7 hQ7 hK7 hc2 hf2 hm hM
            generalize w7.setCell ⟨pb, 2, none⟩ (.int .i64 (sg * nv)) = w8 at *
            have hq0 := hQ8.out.c0
            have hq1 := hQ8.out.c1
            have hq2 := hQ8.out.c2
            have hq3 := hQ8.out.c3
            have hp0 := hP8.out.c0
            have hp1 := hP8.out.c1
            have hp2 := hP8.out.c2
            have hp3 := hP8.out.c3
            have hf0 := hP8.out.fr 0
            have hf1 := hP8.out.fr 1
            have hf2 := hP8.out.fr 2
            have hf3 := hP8.out.fr 3
            go_wp2
            refine bodyPost_ret (results_cell_row rfl _ _ w.heap.size 61 #[.string ⟨#[]⟩, .int .i64 2, .int .i64 (sg * nv), .string ⟨#[]⟩] (0, 0) _ rfl (hP8.out.put ⟨#[]⟩ 2 (sg * nv) ⟨#[]⟩) Tryz.underlying61 rfl (by kernel_rfl)) rfl ?_
            exact Gives.ok hG.out rfl (hR8.out.put (fun e => hne e.symm) _ _ _ _) (hK8.out.put (Nat.le_refl _) _ _ _ _)
end Go.Proofs.YtciigmlibnpeeaaGreatDoor.Sf
/- A text in quotes, read byte by byte. -/
set_option linter.unusedVariables false
set_option linter.unusedSimpArgs false
namespace Go.Proofs.YtciigmlibnpeeaaGreatDoor.Sf
open Go.RowKit Go.Proofs.YtciigmlibnpeeaaGreatDoorW.PrintWords Go.Proofs.YtciigmlibnpeeaaGreatDoorW.PrintLast Go.Proofs.YtciigmlibnpeeaaGreatDoorW.PrintMore
/-- A text in quotes, read byte by byte. -/
def qF : Nat → ByteArray → List Int → Option (ByteArray × ByteArray)
  | 0, _, _ => none
  | d + 1, s, xs => if 0 < s.size then (if bt s 0 = 34 then some (strOfNums xs, tl s)
      else if bt s 0 < 32 ∨ 126 < bt s 0 ∨ (bt s 0 = 92 ∧ ¬ (0 < (tl s).size ∧ wiP (bt (tl s) 0) ⟨#[34, 92]⟩ = true)) then none
      else if bt s 0 = 92 then qF d (tl (tl s)) (xs ++ [bt (tl s) 0]) else qF d (tl s) (xs ++ [bt s 0])) else none
def mkQ (p : ByteArray × ByteArray) : (Int × Int × ByteArray) × ByteArray := ((3, 0, p.1), p.2)
def rdQuoted (s : ByteArray) : Option ((Int × Int × ByteArray) × ByteArray) := (qF (s.size + 1) s []).map mkQ
theorem tl_lt (s : ByteArray) (h : 0 < s.size) : (tl s).size + 1 = s.size := by unfold tl; rw [ByteArray.size_extract]; omega
theorem KB.belowB {g B : Nat} {w w1 w2 : World} (h : KB g w w1) (k : Below B w1 w2) (hB : w.heap.size ≤ B) : KB g w w2 :=
  ⟨k.os.trans h.os, k.tape.trans h.tape, k.output.trans h.output, Nat.le_trans h.size k.size, fun i hi hg => (k.block i (Nat.lt_of_lt_of_le hi hB)).trans (h.block i hi hg)⟩
theorem hx_at (t : ByteArray) (h0 : 0 < t.size) : ∀ h : 0 < t.size, ((t[0]'h).toNat : Int) = bt t 0 := bt_at t 0
set_option maxHeartbeats 4000000 in
set_option maxRecDepth 100000 in
theorem quoted_calls (g : Nat) (s : ByteArray) (w : World) (hs : s.size ≤ 140737488351232) (hI : Rd w g s) :
    Calls Tryz.prog 77 #[.pointer (some ⟨g, 0, none⟩)] w fun e w' => Gives g w encP (rdQuoted s) e w' := by
  have hI1 := Aside0.mk (hI.alloc (.cells #[.string ⟨#[]⟩, .int .i64 0, .int .i64 0, .string ⟨#[]⟩] 61))
  have hP1 := Aside0.mk (PB.new w)
  have hK1 := Aside0.mk ((KB.refl g w).alloc (.cells #[.string ⟨#[]⟩, .int .i64 0, .int .i64 0, .string ⟨#[]⟩] 61))
  have hne : w.heap.size ≠ g := by have := hI.lt; omega
  clear hI
  go_enter Tryz.func77, Tryz.ntmps77
  go_wp2
  go_loopg [3, 4] (s.size + 1) (fun gf v3 v4 wx => ∃ (t : ByteArray) (xs : List Int), Aside0 (Kd.R (Kd.int .u8) 5 wx (w.heap.size + 1) (fun _ => True) v3 xs) ∧ Aside0 (Rd wx g t) ∧ Aside0 (PB wx w.heap.size ⟨#[]⟩ 0 0 ⟨#[]⟩) ∧ Aside0 (KB g w wx) ∧ Aside0 (rdQuoted s = (qF gf t xs).map mkQ) ∧ t.size < gf ∧ xs.length + t.size ≤ s.size)
  case atStart => exact ⟨s, [], ⟨Kd.R_nil _ _ _ _ _⟩, hI1, hP1, hK1, ⟨rfl⟩, by omega, by simp⟩
  case round =>
    clear hI1 hP1 hK1
    obtain ⟨t, xs, HR, HD, HP, HK, HQ, hlt, hln⟩ := hrel
    obtain ⟨g', rfl⟩ : ∃ g', gk = g' + 1 := ⟨gk - 1, by omega⟩
    have hc := HD.out.cell
    have hf := HD.out.frozen
    have hS : w.heap.size + 1 ≤ wr.heap.size := by have := blk_lt HP.out; omega
    have hq : rdQuoted s = (qF (g' + 1) t xs).map mkQ := HQ.out
    clear HQ
    rw [qF] at hq
    by_cases h0 : 0 < t.size
    · rw [if_pos h0] at hq
      have htl := tl_lt t h0
      have n1 := (nonempty_ne t h0).1
      have n1b := (nonempty_ne t h0).2
      have hx6 := hx_at t h0
      have q6 := eq_true h0
      have qi6 : (0 < (t.size : Int)) = True := eq_true (by omega)
      have q7 : (1 ≤ (t.size : Int)) = True := eq_true (by omega)
      have q7b : (1 ≤ t.size) = True := eq_true (by omega)
      have HR2 := Aside0.mk (Kd.R_set HR.out HD.out (by decide) 0 (.string (t.extract 1 t.size)))
      have HD2 := Aside0.mk (show Rd (wr.setCell ⟨g, 0, none⟩ (.string (t.extract 1 t.size))) g (tl t) from HD.out.set (tl t))
      have HP2 := Aside0.mk (HP.out.far (p := ⟨g, 0, none⟩) hne (.string (t.extract 1 t.size)))
      have HK2 := Aside0.mk (HK.out.set 0 (.string (t.extract 1 t.size)))
      have hS2 : w.heap.size + 1 ≤ (wr.setCell ⟨g, 0, none⟩ (.string (t.extract 1 t.size))).heap.size := by simpa [World.setCell] using hS
      have hqq := hq
      clear hq
      have hcc : bt t 0 = bt t 0 := rfl
      by_cases e34 : bt t 0 = 34
      · rw [if_pos e34] at hqq
        have b34 : (bt t 0 == 34) = true := by simp [e34]
        have HG : Aside0 (rdQuoted s = some ((3, 0, strOfNums xs), tl t)) := ⟨hqq⟩
        clear hqq e34 hcc
        obtain ⟨A3, c3, hv3⟩ := Kd.R_slice HR.out
        subst hv3
        have hcv : (convert 51 9 (.slice A3 xs.length c3)).run Tryz.prog (wr.setCell ⟨g, 0, none⟩ (.string (t.extract 1 t.size))) = .ok (.string (strOfNums xs)) (wr.setCell ⟨g, 0, none⟩ (.string (t.extract 1 t.size))) := Kd.C_string Tryz.underlying51 Tryz.underlying5 Tryz.underlying9 (Kd.R_reads' HR2.out).2.2
        generalize bt t 0 = c at *
        have hp0 := HP2.out.c0
        have hp1 := HP2.out.c1
        have hp2 := HP2.out.c2
        have hp3 := HP2.out.c3
        have hf0 := HP2.out.fr 0
        have hf1 := HP2.out.fr 1
        have hf2 := HP2.out.fr 2
        have hf3 := HP2.out.fr 3
        go_wp2
        refine bodyPost_ret (results_cell_row rfl _ _ w.heap.size 61 #[.string ⟨#[]⟩, .int .i64 3, .int .i64 0, .string (strOfNums xs)] (0, 0) _ rfl (HP2.out.put ⟨#[]⟩ 3 0 (strOfNums xs)) Tryz.underlying61 rfl (by kernel_rfl)) rfl ?_
        exact Gives.ok HG.out rfl (HD2.out.put (fun e => hne e.symm) _ _ _ _) (HK2.out.put (Nat.le_refl _) _ _ _ _)
      · rw [if_neg e34] at hqq
        have b34 : (bt t 0 == 34) = false := by simp [e34]
        obtain ⟨t1, ht1⟩ : ∃ t1, tl t = t1 := ⟨_, rfl⟩
        have ht1' : t.extract 1 t.size = t1 := ht1
        rw [ht1] at hqq htl HD2
        rw [ht1'] at HR2 HD2 HP2 HK2 hS2
        clear e34 hcc
        by_cases e1 : bt t 0 < 32
        · rw [if_pos (Or.inl e1)] at hqq
          have HG : Aside0 (rdQuoted s = none) := ⟨hqq⟩
          have d1 : decide (bt t 0 < 32) = true := decide_eq_true e1
          clear hqq e1
          generalize bt t 0 = c at *
          go_wp2_with (first | (go_at_call 70; refine (fail_calls _ _).mono ?_; rintro e w' ⟨rfl, rfl⟩))
          exact ⟨rfl, Gives.dead HG.out HK2.out⟩
        · have d1 : decide (bt t 0 < 32) = false := decide_eq_false e1
          by_cases e2 : 126 < bt t 0
          · rw [if_pos (Or.inr (Or.inl e2))] at hqq
            have HG : Aside0 (rdQuoted s = none) := ⟨hqq⟩
            have d2 : decide (126 < bt t 0) = true := decide_eq_true e2
            clear hqq e1 e2
            generalize bt t 0 = c at *
            go_wp2_with (first | (go_at_call 70; refine (fail_calls _ _).mono ?_; rintro e w' ⟨rfl, rfl⟩))
            exact ⟨rfl, Gives.dead HG.out HK2.out⟩
          · have d2 : decide (126 < bt t 0) = false := decide_eq_false e2
            by_cases e3 : bt t 0 = 92
            · have d3 : (bt t 0 == 92) = true := by simp [e3]
              by_cases e4 : 0 < t1.size
              · have n2 := (nonempty_ne t1 e4).1
                have hx7 := hx_at t1 e4
                have q8 := eq_true e4
                have qi8 : (0 < (t1.size : Int)) = True := eq_true (by omega)
                have q9 : (1 ≤ (t1.size : Int)) = True := eq_true (by omega)
                have q9b : (1 ≤ t1.size) = True := eq_true (by omega)
                have htl2 := tl_lt t1 e4
                cases e5 : wiP (bt t1 0) ⟨#[34, 92]⟩ with
                | false =>
                  rw [if_pos (Or.inr (Or.inr ⟨e3, fun h => by rw [e5] at h; exact absurd h.2 (by decide)⟩))] at hqq
                  have HG : Aside0 (rdQuoted s = none) := ⟨hqq⟩
                  have hwi := fun W => asks_within (bt t1 0) ⟨#[34, 92]⟩ W
                  rw [e5] at hwi
                  clear hqq e1 e2 e3 e5
                  generalize bt t 0 = c at *
                  generalize bt t1 0 = c1 at *
                  go_wp2_with (first | (go_at_call 100; refine (hwi _).mono ?_; rintro e w' ⟨rfl, ⟨q, rfl⟩⟩) | (go_at_call 70; refine (fail_calls _ _).mono ?_; rintro e w' ⟨rfl, rfl⟩))
                  exact ⟨rfl, Gives.dead HG.out (HK2.out.drewN _)⟩
                | true =>
                  rw [if_neg (fun h => h.elim e1 (fun h => h.elim e2 (fun h => h.2 ⟨e4, e5⟩))), if_pos e3] at hqq
                  have hwi := fun W => asks_within (bt t1 0) ⟨#[34, 92]⟩ W
                  rw [e5] at hwi
                  obtain ⟨t2, ht2⟩ : ∃ t2, tl t1 = t2 := ⟨_, rfl⟩
                  have ht2' : t1.extract 1 t1.size = t2 := ht2
                  rw [ht2] at hqq htl2
                  have HG := Aside0.mk hqq
                  clear hqq e1 e2 e3 e5
                  generalize bt t 0 = c at *
                  generalize bt t1 0 = c1 at *
                  go_upto_region 12 with (first | (go_at_call 100; refine (hwi _).mono ?_; rintro e w' ⟨rfl, ⟨q, rfl⟩⟩))
                  have HRq := Aside0.mk (Kd.R_set (Kd.R_drewN HR2.out q) (HD2.out.drewN q) (by decide) 0 (.string t2))
                  have HDq := Aside0.mk ((HD2.out.drewN q).set t2)
                  have HPq := Aside0.mk ((HP2.out.drewN q).far (p := ⟨g, 0, none⟩) hne (.string t2))
                  have HKq := Aside0.mk ((HK2.out.drewN q).set 0 (.string t2))
                  have hSq : w.heap.size + 1 ≤ (((wr.setCell ⟨g, 0, none⟩ (.string t1)).drewN q).setCell ⟨g, 0, none⟩ (.string t2)).heap.size := by simpa [World.setCell] using hS
                  clear HR2 HD2 HP2 HK2 hS2 HR HD HP HK hc hf
                  generalize ((wr.setCell ⟨g, 0, none⟩ (.string t1)).drewN q).setCell ⟨g, 0, none⟩ (.string t2) = w9 at *
                  go_wp2_with (first | ((with_reducible refine gate_builtin (b := .append) (xs := #[.tmp 74, .tmp 76]) rfl ?_); at_builtin; refine Kd.R_append (Kd.int .u8) (w0 := w9) (w.heap.size + 1) rfl (.tmp 74) (.tmp 76) 51 5 (.int .u8 0) 1 rfl Tryz.underlying51 (by kernel_rfl) rfl (by decide) (by omega) u3 xs c1 [.int .u8 c1] (fun _ => True) (fun _ => False) rfl rfl ?aP (fun _ hk => hk.elim) ?aF ?aO ?aB ?aS ?aL ?_; (case aP => exact rfl); (case aF => exact (fun _ _ => trivial)); (case aO => exact HRq.out); (case aB => exact Below.refl _ _); (case aS => exact hSq); (case aL => omega); intro v1 w1 ho1 hb1 hg1 hat1; have hR1 : Rd w1 g _ := blk_grown HDq.out hg1 (Kd.R_ne HRq.out HDq.out (by decide)); have hP1 : PB w1 w.heap.size ⟨#[]⟩ 0 0 ⟨#[]⟩ := blk_grown HPq.out hg1 (Kd.R_ne HRq.out HPq.out (by decide)); have hK1 := HKq.out.belowB hb1 (by omega); have HO1 := Aside0.mk ho1; have HR1 := Aside0.mk hR1; have HP1 := Aside0.mk hP1; have HK1 := Aside0.mk hK1; clear ho1 hb1 hg1 hat1 hR1 hP1 hK1))
                  go_roundg g'
                  case measure => omega
                  case rel => exact ⟨t2, xs ++ [c1], HO1, HR1, HP1, HK1, HG, by omega, by simp only [List.length_append, List.length_cons, List.length_nil]; omega⟩
              · rw [if_pos (Or.inr (Or.inr ⟨e3, fun h => e4 h.1⟩))] at hqq
                have HG : Aside0 (rdQuoted s = none) := ⟨hqq⟩
                have n2 := (empty_eq t1 e4).1
                clear hqq e1 e2 e3
                generalize bt t 0 = c at *
                go_wp2_with (first | (go_at_call 70; refine (fail_calls _ _).mono ?_; rintro e w' ⟨rfl, rfl⟩))
                exact ⟨rfl, Gives.dead HG.out HK2.out⟩
            · have d3 : (bt t 0 == 92) = false := by simp [e3]
              rw [if_neg (fun h => h.elim e1 (fun h => h.elim e2 (fun h => e3 h.1))), if_neg e3] at hqq
              have HG := Aside0.mk hqq
              clear hqq e1 e2 e3
              generalize bt t 0 = c at *
              go_upto_region 12 with (fail)
              have HRq := HR2
              have HDq := HD2
              have HPq := HP2
              have HKq := HK2
              have hSq := hS2
              clear HR2 HD2 HP2 HK2 hS2 HR HD HP HK hc hf
              generalize wr.setCell ⟨g, 0, none⟩ (.string t1) = w9 at *
              go_wp2_with (first | ((with_reducible refine gate_builtin (b := .append) (xs := #[.tmp 74, .tmp 76]) rfl ?_); at_builtin; refine Kd.R_append (Kd.int .u8) (w0 := w9) (w.heap.size + 1) rfl (.tmp 74) (.tmp 76) 51 5 (.int .u8 0) 1 rfl Tryz.underlying51 (by kernel_rfl) rfl (by decide) (by omega) u3 xs c [.int .u8 c] (fun _ => True) (fun _ => False) rfl rfl ?aP (fun _ hk => hk.elim) ?aF ?aO ?aB ?aS ?aL ?_; (case aP => exact rfl); (case aF => exact (fun _ _ => trivial)); (case aO => exact HRq.out); (case aB => exact Below.refl _ _); (case aS => exact hSq); (case aL => omega); intro v1 w1 ho1 hb1 hg1 hat1; have hR1 : Rd w1 g _ := blk_grown HDq.out hg1 (Kd.R_ne HRq.out HDq.out (by decide)); have hP1 : PB w1 w.heap.size ⟨#[]⟩ 0 0 ⟨#[]⟩ := blk_grown HPq.out hg1 (Kd.R_ne HRq.out HPq.out (by decide)); have hK1 := HKq.out.belowB hb1 (by omega); have HO1 := Aside0.mk ho1; have HR1 := Aside0.mk hR1; have HP1 := Aside0.mk hP1; have HK1 := Aside0.mk hK1; clear ho1 hb1 hg1 hat1 hR1 hP1 hK1))
              go_roundg g'
              case measure => omega
              case rel => exact ⟨t1, xs ++ [c], HO1, HR1, HP1, HK1, HG, by omega, by simp only [List.length_append, List.length_cons, List.length_nil]; omega⟩
    · rw [if_neg h0] at hq
      have HG : Aside0 (rdQuoted s = none) := ⟨hq⟩
      have n1 := (empty_eq t h0).1
      have n1b := (empty_eq t h0).2
      clear hq
      go_wp2_with (first | (go_at_call 70; refine (fail_calls _ _).mono ?_; rintro e w' ⟨rfl, rfl⟩))
      exact ⟨rfl, Gives.dead HG.out HK.out⟩
end Go.Proofs.YtciigmlibnpeeaaGreatDoor.Sf
/- The value that a text begins with. -/
set_option linter.unusedVariables false
set_option linter.unusedSimpArgs false
namespace Go.Proofs.YtciigmlibnpeeaaGreatDoor.Sf
open Go.RowKit Go.Proofs.YtciigmlibnpeeaaGreatDoorW.PrintWords Go.Proofs.YtciigmlibnpeeaaGreatDoorW.PrintLast Go.Proofs.YtciigmlibnpeeaaGreatDoorW.PrintMore
/-- The value that a text begins with. -/
def rdBytes (t : ByteArray) : Option ((Int × Int × ByteArray) × ByteArray) := if atF (drpB baP t) 58 = true then some ((5, 0, takB baP t), tl (drpB baP t)) else none
def rdBool (t : ByteArray) : Option ((Int × Int × ByteArray) × ByteArray) := if atF t 49 = true then some ((6, 1, ⟨#[]⟩), tl t) else if atF t 48 = true then some ((6, 0, ⟨#[]⟩), tl t) else none
def rdValue (s : ByteArray) : Option ((Int × Int × ByteArray) × ByteArray) :=
  if 0 < s.size then
    if bt s 0 = 45 ∨ dgP (bt s 0) = true then rdNumber s
    else if leP (bt s 0) = true ∨ bt s 0 = 42 then some ((4, 0, takB tokP s), drpB tokP s)
    else if bt s 0 = 34 then rdQuoted (tl s)
    else if bt s 0 = 58 then rdBytes (tl s)
    else if bt s 0 = 63 then rdBool (tl s) else none
  else none
theorem PB.mk_new (W : World) (n i : Int) (t : ByteArray) : PB (W.alloc (.cells #[.string ⟨#[]⟩, .int .i64 n, .int .i64 i, .string t] 61)) W.heap.size ⟨#[]⟩ n i t := by have := blk_new W (.cells #[.string ⟨#[]⟩, .int .i64 n, .int .i64 i, .string t] 61); simpa [PB] using this
theorem gp {g : Nat} {W w' : World} {k i : Int} {tx t : ByteArray} {e : Ending} (h : Gives g W encP (some ((k, i, tx), t)) e w') : (e = .returned (.agg #[.string ⟨#[]⟩, .int .i64 k, .int .i64 i, .string tx]) ∧ Rd w' g t) ∧ KB g W w' := h
theorem while_tokens (g : Nat) (s : ByteArray) (w : World) (hs : s.size ≤ 9223372036854775806) (hI : Rd w g s) :
    Calls Tryz.prog 74 #[.pointer (some ⟨g, 0, none⟩), .func (.func 75) #[] #[]] w fun e w' => e = .returned (.string (takB tokP s)) ∧ Rd w' g (drpB tokP s) ∧ KB g w w' := while_calls 75 tokP asks_tokens (Go.Proofs.enters_of Tryz.func75 (by kernel_rfl) rfl) g s w hs hI
theorem while_base (g : Nat) (s : ByteArray) (w : World) (hs : s.size ≤ 9223372036854775806) (hI : Rd w g s) :
    Calls Tryz.prog 74 #[.pointer (some ⟨g, 0, none⟩), .func (.func 78) #[] #[]] w fun e w' => e = .returned (.string (takB baP s)) ∧ Rd w' g (drpB baP s) ∧ KB g w w' := while_calls 78 baP asks_base (Go.Proofs.enters_of Tryz.func78 (by kernel_rfl) rfl) g s w hs hI
theorem at_no (g : Nat) (s : ByteArray) (c : Int) (h : atF s c = false) (w : World) (hI : Rd w g s) :
    Calls Tryz.prog 76 #[.pointer (some ⟨g, 0, none⟩), .int .u8 c] w fun e w' => e = .returned (.bool false) ∧ Rd w' g s ∧ KB g w w' := by
  have := at_calls g s c w hI
  rwa [h, show atR s c = s from if_neg (by rw [h]; decide)] at this
theorem at_yes (g : Nat) (s : ByteArray) (c : Int) (h : atF s c = true) (w : World) (hI : Rd w g s) :
    Calls Tryz.prog 76 #[.pointer (some ⟨g, 0, none⟩), .int .u8 c] w fun e w' => e = .returned (.bool true) ∧ Rd w' g (tl s) ∧ KB g w w' := by
  have := at_calls g s c w hI
  rwa [h, show atR s c = tl s from if_pos h] at this
theorem atF_ne (s : ByteArray) (c : Int) (h : ¬ bt s 0 = c) : atF s c = false := decide_eq_false (fun h' => h h'.2)
theorem atF_yes (s : ByteArray) (c : Int) (h0 : 0 < s.size) (h : bt s 0 = c) : atF s c = true := decide_eq_true ⟨h0, h⟩
set_option maxHeartbeats 8000000 in
set_option maxRecDepth 100000 in
theorem value_calls (g : Nat) (s : ByteArray) (w : World) (hs : s.size ≤ 140737488351232) (hI : Rd w g s) :
    Calls Tryz.prog 57 #[.pointer (some ⟨g, 0, none⟩)] w fun e w' => Gives g w encP (rdValue s) e w' := by
  have hI1 := Aside0.mk (hI.alloc (.cells #[.string ⟨#[]⟩, .int .i64 0, .int .i64 0, .string ⟨#[]⟩] 61))
  have hP1 := Aside0.mk (PB.new w)
  have hK1 := Aside0.mk ((KB.refl g w).alloc (.cells #[.string ⟨#[]⟩, .int .i64 0, .int .i64 0, .string ⟨#[]⟩] 61))
  have hne : w.heap.size ≠ g := by have := hI.lt; omega
  have hcI := hI1.out.cell
  have hfI := hI1.out.frozen
  clear hI
  have hzt : (tl s).size ≤ 140737488351232 := Nat.le_trans (tl_size s) hs
  generalize hW1 : w.alloc (.cells #[.string ⟨#[]⟩, .int .i64 0, .int .i64 0, .string ⟨#[]⟩] 61) = wa at *
  have hV : rdValue s = rdValue s := rfl
  conv at hV => rhs; unfold rdValue
  by_cases h0 : 0 < s.size
  · rw [if_pos h0] at hV
    obtain ⟨n1, n1b⟩ := nonempty_ne s h0
    have hx6 := hx_at s h0
    have q6 := eq_true h0
    have qi6 : (0 < (s.size : Int)) = True := eq_true (by omega)
    by_cases e45 : bt s 0 = 45
    · rw [if_pos (Or.inl e45)] at hV
      have b45 : (bt s 0 == 45) = true := by simp [e45]
      clear e45
      have hNc := fun W (h : Rd W g s) => number_calls g s W (Nat.le_trans hs (by decide)) h
      cases hN : rdNumber s with
      | none =>
        rw [hN] at hNc hV
        have hNu := Aside0.mk hNc
        have hG := Aside0.mk hV
        clear hNc hV hN
        generalize bt s 0 = c at *
        go_enter Tryz.func57, Tryz.ntmps57
        go_wp2_with (first | (go_at_call 72; refine (hNu.out _ (hI1.out)).mono ?_; rintro e w5 ⟨rfl, hB5⟩) | (go_at_call 71; refine (hdg _).mono ?_; rintro e w' ⟨rfl, ⟨q, rfl⟩⟩))
        exact ⟨rfl, Gives.dead hG.out ((hK1.out).trans hB5)⟩
      | some y =>
        obtain ⟨⟨k, i, tx⟩, rest⟩ := y
        rw [hN] at hNc hV
        have hNu := Aside0.mk hNc
        have hG := Aside0.mk hV
        clear hNc hV hN
        generalize bt s 0 = c at *
        go_enter Tryz.func57, Tryz.ntmps57
        go_wp2_with (first | (go_at_call 72; refine ((hNu.out _ (hI1.out)).mono (fun e w' h => gp h)).mono ?_; rintro e w5 ⟨⟨rfl, hR5⟩, hB5⟩; have hP5 := (hP1.out).kb hB5 hne; have hp0 := hP5.c0; have hp1 := hP5.c1; have hp2 := hP5.c2; have hp3 := hP5.c3; have hf0 := hP5.fr 0; have hf1 := hP5.fr 1; have hf2 := hP5.fr 2; have hf3 := hP5.fr 3) | (go_at_call 71; refine (hdg _).mono ?_; rintro e w' ⟨rfl, ⟨q, rfl⟩⟩))
        refine bodyPost_ret (results_cell_row rfl _ _ w.heap.size 61 #[.string ⟨#[]⟩, .int .i64 k, .int .i64 i, .string tx] (0, 0) _ rfl (hP5.put ⟨#[]⟩ k i tx) Tryz.underlying61 rfl (by kernel_rfl)) rfl ?_
        exact Gives.ok hG.out rfl (hR5.put (fun e => hne e.symm) _ _ _ _) (((hK1.out).trans hB5).put (Nat.le_refl _) _ _ _ _)
    · have b45 : (bt s 0 == 45) = false := by simp [e45]
      have hdg := fun W => asks_digit (bt s 0) W
      cases edg : dgP (bt s 0) with
      | true =>
        rw [if_pos (Or.inr edg)] at hV
        rw [edg] at hdg
        clear e45 edg
        have hNc := fun W (h : Rd W g s) => number_calls g s W (Nat.le_trans hs (by decide)) h
        cases hN : rdNumber s with
        | none =>
          rw [hN] at hNc hV
          have hNu := Aside0.mk hNc
          have hG := Aside0.mk hV
          clear hNc hV hN
          generalize bt s 0 = c at *
          go_enter Tryz.func57, Tryz.ntmps57
          go_wp2_with (first | (go_at_call 72; refine (hNu.out _ (hI1.out.drewN _)).mono ?_; rintro e w5 ⟨rfl, hB5⟩) | (go_at_call 71; refine (hdg _).mono ?_; rintro e w' ⟨rfl, ⟨q, rfl⟩⟩))
          exact ⟨rfl, Gives.dead hG.out ((hK1.out.drewN _).trans hB5)⟩
        | some y =>
          obtain ⟨⟨k, i, tx⟩, rest⟩ := y
          rw [hN] at hNc hV
          have hNu := Aside0.mk hNc
          have hG := Aside0.mk hV
          clear hNc hV hN
          generalize bt s 0 = c at *
          go_enter Tryz.func57, Tryz.ntmps57
          go_wp2_with (first | (go_at_call 72; refine ((hNu.out _ (hI1.out.drewN _)).mono (fun e w' h => gp h)).mono ?_; rintro e w5 ⟨⟨rfl, hR5⟩, hB5⟩; have hP5 := (hP1.out.drewN _).kb hB5 hne; have hp0 := hP5.c0; have hp1 := hP5.c1; have hp2 := hP5.c2; have hp3 := hP5.c3; have hf0 := hP5.fr 0; have hf1 := hP5.fr 1; have hf2 := hP5.fr 2; have hf3 := hP5.fr 3) | (go_at_call 71; refine (hdg _).mono ?_; rintro e w' ⟨rfl, ⟨q, rfl⟩⟩))
          refine bodyPost_ret (results_cell_row rfl _ _ w.heap.size 61 #[.string ⟨#[]⟩, .int .i64 k, .int .i64 i, .string tx] (0, 0) _ rfl (hP5.put ⟨#[]⟩ k i tx) Tryz.underlying61 rfl (by kernel_rfl)) rfl ?_
          exact Gives.ok hG.out rfl (hR5.put (fun e => hne e.symm) _ _ _ _) (((hK1.out.drewN _).trans hB5).put (Nat.le_refl _) _ _ _ _)
      | false =>
        rw [if_neg (fun h => h.elim e45 (fun h => by rw [edg] at h; exact absurd h (by decide)))] at hV
        rw [edg] at hdg
        have hle := fun W => asks_letter (bt s 0) W
        have hWt := Aside0.mk (fun W (h : Rd W g s) => while_tokens g s W (Nat.le_trans hs (by decide)) h)
        cases ele : leP (bt s 0) with
        | true =>
          rw [if_pos (Or.inl ele)] at hV
          rw [ele] at hle
          have hG := Aside0.mk hV
          clear hV e45 edg ele
          generalize bt s 0 = c at *
          go_enter Tryz.func57, Tryz.ntmps57
          go_wp2_with (first | (go_at_call 74; refine (hWt.out _ (hI1.out.drewN _)).mono ?_; rintro e w5 ⟨rfl, hR5, hB5⟩; have hP5 := (hP1.out.drewN _).kb hB5 hne; have hp0 := hP5.c0; have hp1 := hP5.c1; have hp2 := hP5.c2; have hp3 := hP5.c3; have hf0 := hP5.fr 0; have hf1 := hP5.fr 1; have hf2 := hP5.fr 2; have hf3 := hP5.fr 3) | (go_at_call 73; refine (hle _).mono ?_; rintro e w' ⟨rfl, ⟨q2, rfl⟩⟩) | (go_at_call 71; refine (hdg _).mono ?_; rintro e w' ⟨rfl, ⟨q, rfl⟩⟩))
          refine bodyPost_ret (results_cell_row rfl _ _ w.heap.size 61 #[.string ⟨#[]⟩, .int .i64 4, .int .i64 0, .string (takB tokP s)] (0, 0) _ rfl (hP5.put ⟨#[]⟩ 4 0 (takB tokP s)) Tryz.underlying61 rfl (by kernel_rfl)) rfl ?_
          exact Gives.ok hG.out rfl (hR5.put (fun e => hne e.symm) _ _ _ _) (((hK1.out.drewN _).trans hB5).put (Nat.le_refl _) _ _ _ _)
        | false =>
          rw [ele] at hle
          by_cases e42 : bt s 0 = 42
          · rw [if_pos (Or.inr e42)] at hV
            have b42 : (bt s 0 == 42) = true := by simp [e42]
            have hG := Aside0.mk hV
            clear hV e45 edg ele e42
            generalize bt s 0 = c at *
            go_enter Tryz.func57, Tryz.ntmps57
            go_wp2_with (first | (go_at_call 74; refine (hWt.out _ (hI1.out.drewN _)).mono ?_; rintro e w5 ⟨rfl, hR5, hB5⟩; have hP5 := (hP1.out.drewN _).kb hB5 hne; have hp0 := hP5.c0; have hp1 := hP5.c1; have hp2 := hP5.c2; have hp3 := hP5.c3; have hf0 := hP5.fr 0; have hf1 := hP5.fr 1; have hf2 := hP5.fr 2; have hf3 := hP5.fr 3) | (go_at_call 73; refine (hle _).mono ?_; rintro e w' ⟨rfl, ⟨q2, rfl⟩⟩) | (go_at_call 71; refine (hdg _).mono ?_; rintro e w' ⟨rfl, ⟨q, rfl⟩⟩))
            refine bodyPost_ret (results_cell_row rfl _ _ w.heap.size 61 #[.string ⟨#[]⟩, .int .i64 4, .int .i64 0, .string (takB tokP s)] (0, 0) _ rfl (hP5.put ⟨#[]⟩ 4 0 (takB tokP s)) Tryz.underlying61 rfl (by kernel_rfl)) rfl ?_
            exact Gives.ok hG.out rfl (hR5.put (fun e => hne e.symm) _ _ _ _) (((hK1.out.drewN _).trans hB5).put (Nat.le_refl _) _ _ _ _)
          · rw [if_neg (fun h => h.elim (fun h => by rw [ele] at h; exact absurd h (by decide)) e42)] at hV
            have b42 : (bt s 0 == 42) = false := by simp [e42]
            clear hWt
            by_cases e34 : bt s 0 = 34
            · rw [if_pos e34] at hV
              have hA34 := Aside0.mk (at_yes g s 34 (atF_yes s 34 h0 e34))
              have hQc := fun W (h : Rd W g (tl s)) => quoted_calls g (tl s) W hzt h
              cases hN : rdQuoted (tl s) with
              | none =>
                rw [hN] at hQc hV
                have hQu := Aside0.mk hQc
                have hG := Aside0.mk hV
                clear hQc hV hN e45 edg ele e42 e34
                generalize bt s 0 = c at *
                go_enter Tryz.func57, Tryz.ntmps57
                go_wp2_with (first | (go_at_call 77; refine (hQu.out _ hR5).mono ?_; rintro e w6 ⟨rfl, hB6⟩) | (go_at_call 76; refine (hA34.out _ (hI1.out.drewN _)).mono ?_; rintro e w5 ⟨rfl, hR5, hB5⟩) | (go_at_call 73; refine (hle _).mono ?_; rintro e w' ⟨rfl, ⟨q2, rfl⟩⟩) | (go_at_call 71; refine (hdg _).mono ?_; rintro e w' ⟨rfl, ⟨q, rfl⟩⟩))
                exact ⟨rfl, Gives.dead hG.out (((hK1.out.drewN _).trans hB5).trans hB6)⟩
              | some y =>
                obtain ⟨⟨k, i, tx⟩, rest⟩ := y
                rw [hN] at hQc hV
                have hQu := Aside0.mk hQc
                have hG := Aside0.mk hV
                clear hQc hV hN e45 edg ele e42 e34
                generalize bt s 0 = c at *
                go_enter Tryz.func57, Tryz.ntmps57
                go_wp2_with (first | (go_at_call 77; refine ((hQu.out _ hR5).mono (fun e w' h => gp h)).mono ?_; rintro e w6 ⟨⟨rfl, hR6⟩, hB6⟩; have hP6 := ((hP1.out.drewN _).kb hB5 hne).kb hB6 hne; have hp0 := hP6.c0; have hp1 := hP6.c1; have hp2 := hP6.c2; have hp3 := hP6.c3; have hf0 := hP6.fr 0; have hf1 := hP6.fr 1; have hf2 := hP6.fr 2; have hf3 := hP6.fr 3) | (go_at_call 76; refine (hA34.out _ (hI1.out.drewN _)).mono ?_; rintro e w5 ⟨rfl, hR5, hB5⟩) | (go_at_call 73; refine (hle _).mono ?_; rintro e w' ⟨rfl, ⟨q2, rfl⟩⟩) | (go_at_call 71; refine (hdg _).mono ?_; rintro e w' ⟨rfl, ⟨q, rfl⟩⟩))
                refine bodyPost_ret (results_cell_row rfl _ _ w.heap.size 61 #[.string ⟨#[]⟩, .int .i64 k, .int .i64 i, .string tx] (0, 0) _ rfl (hP6.put ⟨#[]⟩ k i tx) Tryz.underlying61 rfl (by kernel_rfl)) rfl ?_
                exact Gives.ok hG.out rfl (hR6.put (fun e => hne e.symm) _ _ _ _) ((((hK1.out.drewN _).trans hB5).trans hB6).put (Nat.le_refl _) _ _ _ _)
            · rw [if_neg e34] at hV
              have hA34 := Aside0.mk (at_no g s 34 (atF_ne s 34 e34))
              by_cases e58 : bt s 0 = 58
              · rw [if_pos e58] at hV
                have hA58 := Aside0.mk (at_yes g s 58 (atF_yes s 58 h0 e58))
                have hWb := Aside0.mk (fun W (h : Rd W g (tl s)) => while_base g (tl s) W (Nat.le_trans hzt (by decide)) h)
                unfold rdBytes at hV
                cases hE : atF (drpB baP (tl s)) 58 with
                | false =>
                  rw [if_neg (by rw [hE]; decide)] at hV
                  have hG := Aside0.mk hV
                  have hA3 := Aside0.mk (at_no g _ 58 hE)
                  clear hV e45 edg ele e42 e34 e58 hE
                  generalize bt s 0 = c at *
                  go_enter Tryz.func57, Tryz.ntmps57
                  go_wp2_with (first | (go_at_call 70; refine (fail_calls _ _).mono ?_; rintro e w' ⟨rfl, rfl⟩) | (go_at_call 76; refine (hA3.out _ (hR7.alloc _)).mono ?_; rintro e w8 ⟨rfl, hR8, hB8⟩) | (go_at_call 74; refine (hWb.out _ hR6).mono ?_; rintro e w7 ⟨rfl, hR7, hB7⟩) | (go_at_call 76; refine (hA58.out _ hR5).mono ?_; rintro e w6 ⟨rfl, hR6, hB6⟩) | (go_at_call 76; refine (hA34.out _ (hI1.out.drewN _)).mono ?_; rintro e w5 ⟨rfl, hR5, hB5⟩) | (go_at_call 73; refine (hle _).mono ?_; rintro e w' ⟨rfl, ⟨q2, rfl⟩⟩) | (go_at_call 71; refine (hdg _).mono ?_; rintro e w' ⟨rfl, ⟨q, rfl⟩⟩))
                  exact ⟨rfl, Gives.dead hG.out (((((((hK1.out.drewN _).trans hB5).trans hB6).trans hB7).alloc _).trans hB8))⟩
                | true =>
                  rw [if_pos hE] at hV
                  have hG := Aside0.mk hV
                  have hA3 := Aside0.mk (at_yes g _ 58 hE)
                  clear hV e45 edg ele e42 e34 e58 hE
                  generalize bt s 0 = c at *
                  go_enter Tryz.func57, Tryz.ntmps57
                  go_wp2_with (first | (go_at_call 76; refine (hA3.out _ (hR7.alloc _)).mono ?_; rintro e w8 ⟨rfl, hR8, hB8⟩; have hP8 := (((((hP1.out.drewN _).kb hB5 hne).kb hB6 hne).kb hB7 hne).alloc _).kb hB8 hne; have hQ8 := (PB.mk_new w7 5 0 (takB baP (tl s))).kb hB8 (fun e => absurd (hR7.lt) (by omega)); have hp0 := hP8.c0; have hp1 := hP8.c1; have hp2 := hP8.c2; have hp3 := hP8.c3; have hf0 := hP8.fr 0; have hf1 := hP8.fr 1; have hf2 := hP8.fr 2; have hf3 := hP8.fr 3; have hq0 := hQ8.c0; have hq1 := hQ8.c1; have hq2 := hQ8.c2; have hq3 := hQ8.c3) | (go_at_call 74; refine (hWb.out _ hR6).mono ?_; rintro e w7 ⟨rfl, hR7, hB7⟩) | (go_at_call 76; refine (hA58.out _ hR5).mono ?_; rintro e w6 ⟨rfl, hR6, hB6⟩) | (go_at_call 76; refine (hA34.out _ (hI1.out.drewN _)).mono ?_; rintro e w5 ⟨rfl, hR5, hB5⟩) | (go_at_call 73; refine (hle _).mono ?_; rintro e w' ⟨rfl, ⟨q2, rfl⟩⟩) | (go_at_call 71; refine (hdg _).mono ?_; rintro e w' ⟨rfl, ⟨q, rfl⟩⟩))
                  refine bodyPost_ret (results_cell_row rfl _ _ w.heap.size 61 #[.string ⟨#[]⟩, .int .i64 5, .int .i64 0, .string (takB baP (tl s))] (0, 0) _ rfl (hP8.put ⟨#[]⟩ 5 0 (takB baP (tl s))) Tryz.underlying61 rfl (by kernel_rfl)) rfl ?_
                  exact Gives.ok hG.out rfl (hR8.put (fun e => hne e.symm) _ _ _ _) ((((((((hK1.out.drewN _).trans hB5).trans hB6).trans hB7).alloc _).trans hB8)).put (Nat.le_refl _) _ _ _ _)
              · rw [if_neg e58] at hV
                have hA58 := Aside0.mk (at_no g s 58 (atF_ne s 58 e58))
                by_cases e63 : bt s 0 = 63
                · rw [if_pos e63] at hV
                  have hA63 := Aside0.mk (at_yes g s 63 (atF_yes s 63 h0 e63))
                  unfold rdBool at hV
                  cases hE : atF (tl s) 49 with
                  | true =>
                    rw [if_pos hE] at hV
                    have hG := Aside0.mk hV
                    have hA3 := Aside0.mk (at_yes g _ 49 hE)
                    clear hV e45 edg ele e42 e34 e58 e63 hE
                    generalize bt s 0 = c at *
                    go_enter Tryz.func57, Tryz.ntmps57
                    go_wp2_with (first | (go_at_call 76; refine (hA3.out _ hR7).mono ?_; rintro e w8 ⟨rfl, hR8, hB8⟩; have hP8 := (((((hP1.out.drewN _).kb hB5 hne).kb hB6 hne).kb hB7 hne).kb hB8 hne); have hp0 := hP8.c0; have hp1 := hP8.c1; have hp2 := hP8.c2; have hp3 := hP8.c3; have hf0 := hP8.fr 0; have hf1 := hP8.fr 1; have hf2 := hP8.fr 2; have hf3 := hP8.fr 3) | (go_at_call 76; refine (hA63.out _ hR6).mono ?_; rintro e w7 ⟨rfl, hR7, hB7⟩) | (go_at_call 76; refine (hA58.out _ hR5).mono ?_; rintro e w6 ⟨rfl, hR6, hB6⟩) | (go_at_call 76; refine (hA34.out _ (hI1.out.drewN _)).mono ?_; rintro e w5 ⟨rfl, hR5, hB5⟩) | (go_at_call 73; refine (hle _).mono ?_; rintro e w' ⟨rfl, ⟨q2, rfl⟩⟩) | (go_at_call 71; refine (hdg _).mono ?_; rintro e w' ⟨rfl, ⟨q, rfl⟩⟩))
                    refine bodyPost_ret (results_cell_row rfl _ _ w.heap.size 61 #[.string ⟨#[]⟩, .int .i64 6, .int .i64 1, .string ⟨#[]⟩] (0, 0) _ rfl (hP8.put ⟨#[]⟩ 6 1 ⟨#[]⟩) Tryz.underlying61 rfl (by kernel_rfl)) rfl ?_
                    exact Gives.ok hG.out rfl (hR8.put (fun e => hne e.symm) _ _ _ _) ((((((hK1.out.drewN _).trans hB5).trans hB6).trans hB7).trans hB8).put (Nat.le_refl _) _ _ _ _)
                  | false =>
                    rw [if_neg (by rw [hE]; decide)] at hV
                    have hA3 := Aside0.mk (at_no g _ 49 hE)
                    cases hF : atF (tl s) 48 with
                    | true =>
                      rw [if_pos hF] at hV
                      have hG := Aside0.mk hV
                      have hA4 := Aside0.mk (at_yes g _ 48 hF)
                      clear hV e45 edg ele e42 e34 e58 e63 hE hF
                      generalize bt s 0 = c at *
                      go_enter Tryz.func57, Tryz.ntmps57
                      go_wp2_with (first | (go_at_call 76; refine (hA4.out _ hR8).mono ?_; rintro e w9 ⟨rfl, hR9, hB9⟩; have hP9 := ((((((hP1.out.drewN _).kb hB5 hne).kb hB6 hne).kb hB7 hne).kb hB8 hne).kb hB9 hne); have hp0 := hP9.c0; have hp1 := hP9.c1; have hp2 := hP9.c2; have hp3 := hP9.c3; have hf0 := hP9.fr 0; have hf1 := hP9.fr 1; have hf2 := hP9.fr 2; have hf3 := hP9.fr 3) | (go_at_call 76; refine (hA3.out _ hR7).mono ?_; rintro e w8 ⟨rfl, hR8, hB8⟩) | (go_at_call 76; refine (hA63.out _ hR6).mono ?_; rintro e w7 ⟨rfl, hR7, hB7⟩) | (go_at_call 76; refine (hA58.out _ hR5).mono ?_; rintro e w6 ⟨rfl, hR6, hB6⟩) | (go_at_call 76; refine (hA34.out _ (hI1.out.drewN _)).mono ?_; rintro e w5 ⟨rfl, hR5, hB5⟩) | (go_at_call 73; refine (hle _).mono ?_; rintro e w' ⟨rfl, ⟨q2, rfl⟩⟩) | (go_at_call 71; refine (hdg _).mono ?_; rintro e w' ⟨rfl, ⟨q, rfl⟩⟩))
                      refine bodyPost_ret (results_cell_row rfl _ _ w.heap.size 61 #[.string ⟨#[]⟩, .int .i64 6, .int .i64 0, .string ⟨#[]⟩] (0, 0) _ rfl (hP9.put ⟨#[]⟩ 6 0 ⟨#[]⟩) Tryz.underlying61 rfl (by kernel_rfl)) rfl ?_
                      exact Gives.ok hG.out rfl (hR9.put (fun e => hne e.symm) _ _ _ _) (((((((hK1.out.drewN _).trans hB5).trans hB6).trans hB7).trans hB8).trans hB9).put (Nat.le_refl _) _ _ _ _)
                    | false =>
                      rw [if_neg (by rw [hF]; decide)] at hV
                      have hG := Aside0.mk hV
                      have hA4 := Aside0.mk (at_no g _ 48 hF)
                      clear hV e45 edg ele e42 e34 e58 e63 hE hF
                      generalize bt s 0 = c at *
                      go_enter Tryz.func57, Tryz.ntmps57
                      go_wp2_with (first | (go_at_call 70; refine (fail_calls _ _).mono ?_; rintro e w' ⟨rfl, rfl⟩) | (go_at_call 76; refine (hA4.out _ hR8).mono ?_; rintro e w9 ⟨rfl, hR9, hB9⟩) | (go_at_call 76; refine (hA3.out _ hR7).mono ?_; rintro e w8 ⟨rfl, hR8, hB8⟩) | (go_at_call 76; refine (hA63.out _ hR6).mono ?_; rintro e w7 ⟨rfl, hR7, hB7⟩) | (go_at_call 76; refine (hA58.out _ hR5).mono ?_; rintro e w6 ⟨rfl, hR6, hB6⟩) | (go_at_call 76; refine (hA34.out _ (hI1.out.drewN _)).mono ?_; rintro e w5 ⟨rfl, hR5, hB5⟩) | (go_at_call 73; refine (hle _).mono ?_; rintro e w' ⟨rfl, ⟨q2, rfl⟩⟩) | (go_at_call 71; refine (hdg _).mono ?_; rintro e w' ⟨rfl, ⟨q, rfl⟩⟩))
                      exact ⟨rfl, Gives.dead hG.out ((((((hK1.out.drewN _).trans hB5).trans hB6).trans hB7).trans hB8).trans hB9)⟩
                · rw [if_neg e63] at hV
                  have hG := Aside0.mk hV
                  have hA63 := Aside0.mk (at_no g s 63 (atF_ne s 63 e63))
                  clear hV e45 edg ele e42 e34 e58 e63
                  generalize bt s 0 = c at *
                  go_enter Tryz.func57, Tryz.ntmps57
                  go_wp2_with (first | (go_at_call 70; refine (fail_calls _ _).mono ?_; rintro e w' ⟨rfl, rfl⟩) | (go_at_call 76; refine (hA63.out _ hR6).mono ?_; rintro e w7 ⟨rfl, hR7, hB7⟩) | (go_at_call 76; refine (hA58.out _ hR5).mono ?_; rintro e w6 ⟨rfl, hR6, hB6⟩) | (go_at_call 76; refine (hA34.out _ (hI1.out.drewN _)).mono ?_; rintro e w5 ⟨rfl, hR5, hB5⟩) | (go_at_call 73; refine (hle _).mono ?_; rintro e w' ⟨rfl, ⟨q2, rfl⟩⟩) | (go_at_call 71; refine (hdg _).mono ?_; rintro e w' ⟨rfl, ⟨q, rfl⟩⟩))
                  exact ⟨rfl, Gives.dead hG.out ((((hK1.out.drewN _).trans hB5).trans hB6).trans hB7)⟩
  · rw [if_neg h0] at hV
    have hG := Aside0.mk hV
    have n1 := (empty_eq s h0).1
    have n1b := (empty_eq s h0).2
    clear hV
    go_enter Tryz.func57, Tryz.ntmps57
    go_wp2_with (first | (go_at_call 70; refine (fail_calls _ _).mono ?_; rintro e w' ⟨rfl, rfl⟩))
    exact ⟨rfl, Gives.dead hG.out hK1.out⟩
end Go.Proofs.YtciigmlibnpeeaaGreatDoor.Sf
namespace Go.Proofs.YtciigmlibnpeeaaGreatDoor.Q
open Go.RowKit Go.Proofs.YtciigmlibnpeeaaGreatDoorW.PrintWords Go.Proofs.YtciigmlibnpeeaaGreatDoorW.PrintLast Go.Proofs.YtciigmlibnpeeaaGreatDoorW.PrintMore
set_option linter.unusedVariables false
set_option linter.unusedSimpArgs false
theorem q_ne_nil (l : List UInt8) : (l != []) = !l.isEmpty := by cases l <;> rfl
def errW : Option Int → Value
  | none => .nilIface
  | some c => .iface 0 (.int .i64 c)
theorem errW_none : errW none = .nilIface := rfl
theorem errW_some (c : Int) : errW (some c) = .iface 0 (.int .i64 c) := rfl
theorem info9 : (Tryz.prog.info? 9).map (fun i => (i.zero, i.size, i.bytes)) = some (some (.string ⟨#[]⟩), 1, 16) := by kernel_rfl
theorem info35 : (Tryz.prog.info? 35).map (fun i => (i.zero, i.size, i.bytes)) = some (some (.agg #[(.string ⟨#[]⟩), (.string ⟨#[]⟩)]), 2, 32) := by kernel_rfl
theorem info61 : (Tryz.prog.info? 61).map (fun i => (i.zero, i.size, i.bytes)) = some (some (.agg #[(.string ⟨#[]⟩), (.int .i64 0), (.int .i64 0), (.string ⟨#[]⟩)]), 4, 48) := by kernel_rfl
structure S35 where
  f0 : ByteArray
  f1 : ByteArray
def z35 : S35 := ⟨(⟨#[]⟩ : ByteArray), (⟨#[]⟩ : ByteArray)⟩
def k35 : Kd S35 := Kd.iso (Kd.pair Kd.string Kd.string) (fun x : S35 => (x.f0, x.f1))
theorem k35_open {w : World} {x : S35} {cs : List Value} (h : k35.K w x cs) : cs = [.string x.f0, .string x.f1] := by
  obtain ⟨_, _, rfl, rfl, rfl⟩ := h
  exact rfl
theorem k35_mk (w : World) (x : S35)  : k35.K w x [.string x.f0, .string x.f1] := ⟨[.string x.f0], [.string x.f1], rfl, rfl, rfl⟩
theorem k35_mkM (w : World) (base : Nat) (ok : Nat → Prop) (x : S35)  : k35.M w base ok x [.string x.f0, .string x.f1] := ⟨[.string x.f0], [.string x.f1], rfl, rfl, rfl⟩
def rd_T35 (xs : List S35) (i : Int) : S35 := xs.getD i.toNat z35
theorem at_T35 {w : World} {A : Option Addr} {n : Nat} {xs : List S35} (h : Kd.C k35 w A n xs) (i : Int) (h0 : 0 ≤ i) (h1 : i < n) : ∃ ad , A = some ad ∧ w.cell? (ad.add (i.toNat * 2)) = some (.string (rd_T35 xs i).f0) ∧ w.cell? ⟨(ad.add (i.toNat * 2)).block, (ad.add (i.toNat * 2)).off + 1, none⟩ = some (.string (rd_T35 xs i).f1) := by
  obtain ⟨ad, c, e, _, hK, hc0⟩ := Kd.C_get h z35 i h0 h1
  have hc : ∀ j u, c[j]? = some u → w.cell? (ad.add (i.toNat * 2 + j)) = some u := hc0
  obtain rfl := k35_open hK
  exact ⟨ad, e, hc 0 _ rfl, by rw [← add_field _ _ 1 (by omega)]; exact hc 1 _ rfl⟩
structure S61 where
  f0 : ByteArray
  f1 : Int
  f2 : Int
  f3 : ByteArray
def z61 : S61 := ⟨(⟨#[]⟩ : ByteArray), (0 : Int), (0 : Int), (⟨#[]⟩ : ByteArray)⟩
def k61 : Kd S61 := Kd.iso (Kd.pair Kd.string (Kd.pair (Kd.int .i64) (Kd.pair (Kd.int .i64) Kd.string))) (fun x : S61 => (x.f0, x.f1, x.f2, x.f3))
theorem k61_open {w : World} {x : S61} {cs : List Value} (h : k61.K w x cs) : cs = [.string x.f0, .int .i64 x.f1, .int .i64 x.f2, .string x.f3] := by
  obtain ⟨_, _, rfl, rfl, ⟨_, _, rfl, rfl, ⟨_, _, rfl, rfl, rfl⟩⟩⟩ := h
  exact rfl
theorem k61_mkM (w : World) (base : Nat) (ok : Nat → Prop) (x : S61)  : k61.M w base ok x [.string x.f0, .int .i64 x.f1, .int .i64 x.f2, .string x.f3] := ⟨[.string x.f0], [.int .i64 x.f1, .int .i64 x.f2, .string x.f3], rfl, rfl, ⟨[.int .i64 x.f1], [.int .i64 x.f2, .string x.f3], rfl, rfl, ⟨[.int .i64 x.f2], [.string x.f3], rfl, rfl, rfl⟩⟩⟩
def rd_T61 (xs : List S61) (i : Int) : S61 := xs.getD i.toNat z61
theorem at_T61 {w : World} {A : Option Addr} {n : Nat} {xs : List S61} (h : Kd.C k61 w A n xs) (i : Int) (h0 : 0 ≤ i) (h1 : i < n) : ∃ ad , A = some ad ∧ w.cell? (ad.add (i.toNat * 4)) = some (.string (rd_T61 xs i).f0) ∧ w.cell? ⟨(ad.add (i.toNat * 4)).block, (ad.add (i.toNat * 4)).off + 1, none⟩ = some (.int .i64 (rd_T61 xs i).f1) ∧ w.cell? ⟨(ad.add (i.toNat * 4)).block, (ad.add (i.toNat * 4)).off + 2, none⟩ = some (.int .i64 (rd_T61 xs i).f2) ∧ w.cell? ⟨(ad.add (i.toNat * 4)).block, (ad.add (i.toNat * 4)).off + 3, none⟩ = some (.string (rd_T61 xs i).f3) := by
  obtain ⟨ad, c, e, _, hK, hc0⟩ := Kd.C_get h z61 i h0 h1
  have hc : ∀ j u, c[j]? = some u → w.cell? (ad.add (i.toNat * 4 + j)) = some u := hc0
  obtain rfl := k61_open hK
  exact ⟨ad, e, hc 0 _ rfl, by rw [← add_field _ _ 1 (by omega)]; exact hc 1 _ rfl, by rw [← add_field _ _ 2 (by omega)]; exact hc 2 _ rfl, by rw [← add_field _ _ 3 (by omega)]; exact hc 3 _ rfl⟩
end Go.Proofs.YtciigmlibnpeeaaGreatDoor.Q
namespace Go.Proofs.YtciigmlibnpeeaaGreatDoor.Q
open Go.RowKit Go.Proofs.YtciigmlibnpeeaaGreatDoorW.PrintWords Go.Proofs.YtciigmlibnpeeaaGreatDoorW.PrintLast Go.Proofs.YtciigmlibnpeeaaGreatDoorW.PrintMore
set_option linter.unusedVariables false
set_option linter.unusedSimpArgs false
theorem eqA28 (d : Nat) (w : World) (x0 y0 : Int) (x1 y1 : ByteArray) (x2 y2 : Int) (x3 y3 : ByteArray) :
    (Op.equalIn (d + 2) 28 (.agg #[.int .i64 x0, .string x1, .int .i64 x2, .string x3]) (.agg #[.int .i64 y0, .string y1, .int .i64 y2, .string y3])).run Tryz.prog w = .ok (x0 == y0 && (x1.toList == y1.toList && (x2 == y2 && (x3.toList == y3.toList)))) w := by
  refine eqA_of Tryz.underlying28 (by kernel_rfl) ?_
  refine eqf_cons (by rfl) (by go_simp; rfl) (by go_simp; rfl) (by go_simp) ?_
  refine eqf_cons (by rfl) (by go_simp; rfl) (by go_simp; rfl) (by go_simp) ?_
  refine eqf_cons (by rfl) (by go_simp; rfl) (by go_simp; rfl) (by go_simp) ?_
  exact eqf_last (by rfl) (by go_simp; rfl) (by go_simp; rfl) (by go_simp)
end Go.Proofs.YtciigmlibnpeeaaGreatDoor.Q
namespace Go.Proofs.YtciigmlibnpeeaaGreatDoor.Q
open Go.RowKit Go.Proofs.YtciigmlibnpeeaaGreatDoorW.PrintWords Go.Proofs.YtciigmlibnpeeaaGreatDoorW.PrintLast Go.Proofs.YtciigmlibnpeeaaGreatDoorW.PrintMore
set_option linter.unusedVariables false
set_option linter.unusedSimpArgs false
theorem eqA30 (d : Nat) (w : World) (x0 y0 : Int) (x1 y1 : ByteArray) (x2 y2 : Int) (x3 y3 : ByteArray) :
    (Op.equalIn (d + 2) 30 (.agg #[.int .i64 x0, .string x1, .int .i64 x2, .string x3]) (.agg #[.int .i64 y0, .string y1, .int .i64 y2, .string y3])).run Tryz.prog w = .ok (x0 == y0 && (x1.toList == y1.toList && (x2 == y2 && (x3.toList == y3.toList)))) w := by
  refine eqA_of Tryz.underlying30 (by kernel_rfl) ?_
  refine eqf_cons (by rfl) (by go_simp; rfl) (by go_simp; rfl) (by go_simp) ?_
  refine eqf_cons (by rfl) (by go_simp; rfl) (by go_simp; rfl) (by go_simp) ?_
  refine eqf_cons (by rfl) (by go_simp; rfl) (by go_simp; rfl) (by go_simp) ?_
  exact eqf_last (by rfl) (by go_simp; rfl) (by go_simp; rfl) (by go_simp)
end Go.Proofs.YtciigmlibnpeeaaGreatDoor.Q
namespace Go.Proofs.YtciigmlibnpeeaaGreatDoor.Q
open Go.RowKit Go.Proofs.YtciigmlibnpeeaaGreatDoorW.PrintWords Go.Proofs.YtciigmlibnpeeaaGreatDoorW.PrintLast Go.Proofs.YtciigmlibnpeeaaGreatDoorW.PrintMore
set_option linter.unusedVariables false
set_option linter.unusedSimpArgs false
/-- A letter A to Z made small. -/
def lowByte (c : Int) : Int := if 65 ≤ c ∧ c ≤ 90 then c + 32 else c
def lowBA (s : ByteArray) : ByteArray := strOfNums ((bytesOf s).map lowByte)
/-- The world after k rounds of making small: the new row's bytes below k are small, the others as they came. -/
structure LowAt (w W : World) (s : ByteArray) (k : Nat) : Prop where
  below : Below w.heap.size w W
  size : W.heap.size = w.heap.size + 1
  cell : ∀ j, j < s.size → W.cell? ⟨w.heap.size, j, none⟩ = some (.int .u8 (if j < k then lowByte (bt s j) else bt s j))
  free : ∀ j, j < s.size → W.frozen? ⟨w.heap.size, j, none⟩ = false
theorem bt_nat (s : ByteArray) (j : Nat) : bt s (j : Int) = ((s.data.toList.getD j 0).toNat : Int) := by
  unfold bt
  split
  · rename_i h
    have h' : j < s.data.toList.length := by rw [data_length]; simpa using h
    simp [List.getD_eq_getElem?_getD, List.getElem?_eq_getElem h']
    rfl
  · rename_i h
    have h' : s.data.toList.length ≤ j := by rw [data_length]; simp at h; omega
    simp [List.getD_eq_getElem?_getD, List.getElem?_eq_none h']
theorem LowAt.start (w : World) (e : TypeId) (s : ByteArray) : LowAt w (Lib.bytesWorld w e s) s 0 where
  below := bytes_below (Below.refl _ _) (Nat.le_refl _) e s
  size := Lib.bytesWorld_size w e s
  cell := fun j hj => by rw [Lib.bytesWorld_cell w e s j hj, if_neg (by omega), bt_nat]
  free := fun j hj => by
    have h1 : s.size ≤ (Lib.bytesCells w e s).size := by
      simp only [Lib.bytesCells, Array.size_append, Array.size_map]
      exact Nat.le_add_right _ _
    simp [World.frozen?, Lib.bytesWorld_at_new]
    omega
theorem LowAt.same {w W : World} {s : ByteArray} {k : Nat} (h : LowAt w W s k) (hs : lowByte (bt s k) = bt s k) : LowAt w W s (k + 1) where
  below := h.below
  size := h.size
  cell := fun j hj => by
    rw [h.cell j hj]
    rcases Nat.lt_trichotomy j k with h1 | h1 | h1
    · rw [if_pos h1, if_pos (by omega)]
    · subst h1; rw [if_neg (by omega), if_pos (by omega), hs]
    · rw [if_neg (by omega), if_neg (by omega)]
  free := h.free
theorem LowAt.store {w W : World} {s : ByteArray} {k : Nat} (h : LowAt w W s k) (hk : k < s.size) : LowAt w (W.setCell ⟨w.heap.size, k, none⟩ (.int .u8 (lowByte (bt s k)))) s (k + 1) where
  below := h.below.setCell (Nat.le_refl _) _
  size := by rw [← h.size]; simp [World.setCell]
  cell := fun j hj => by
    by_cases e : j = k
    · subst e; rw [World.cell?_setCell_same _ _ _ (h.cell j hj), if_pos (by omega)]
    · rw [World.cell?_setCell_other _ _ _ _ (by intro e'; injection e' with _ e' _; exact e e'.symm), h.cell j hj]
      by_cases h1 : j < k
      · rw [if_pos h1, if_pos (by omega)]
      · rw [if_neg h1, if_neg (by omega)]
  free := fun j hj => by rw [← h.free j hj]; simp [go_sem]
theorem LowAt.done {P : Program} {src dst e : TypeId} (hs : P.underlying src = some (.slice e)) (he : P.underlying e = some (.int .u8)) (hd : P.underlying dst = some .string)
    {w W : World} {s : ByteArray} (h : LowAt w W s s.size) (c : Nat) :
    (convert src dst (.slice (some ⟨w.heap.size, 0, none⟩) s.size c)).run P W = .ok (.string (lowBA s)) W := by
  refine run_convert_bytes_arg W src e hs he w.heap.size 0 s.size c _ (by rw [List.length_map, bytesOf_length]) (fun i hi => ?_) dst hd
  rw [Nat.zero_add, h.cell i hi, if_pos hi]
  have h1 : i < (bytesOf s).length := by rw [bytesOf_length]; exact hi
  have h2 : rd (bytesOf s) i = bt s i := rd_bytesOf s i
  simp only [rd, Int.toNat_natCast] at h2
  rw [List.getD_eq_getElem?_getD, List.getElem?_map, ← h2, List.getD_eq_getElem?_getD]
  simp [List.getElem?_eq_getElem h1]
theorem low_or : ∀ c : Int, 65 ≤ c → c ≤ 90 → Go.bits .or .u8 c 32 = c + 32 := by
  intro c h0 h1
  obtain ⟨n, rfl⟩ := Int.eq_ofNat_of_zero_le (by omega : 0 ≤ c)
  have h2 : n < 91 := by omega
  have h3 : 65 ≤ n := by omega
  revert h3
  exact (by decide : ∀ n : Nat, n < 91 → 65 ≤ n → Go.bits .or .u8 (n : Int) 32 = (n : Int) + 32) n h2
def octet_Lower.f (a0 : ByteArray) : Option ByteArray := if a0.size ≤ 281474976710656 then some (lowBA a0) else none
set_option maxHeartbeats 1000000 in
set_option maxRecDepth 100000 in
theorem octet_Lower.calls (a0 : ByteArray) (r : ByteArray) (w : World) (h : octet_Lower.f a0 = some r) :
    Calls Tryz.prog 27 #[.string a0] w fun e w' => e = .returned (.string r) ∧ Below w.heap.size w w' := by
  unfold octet_Lower.f at h
  split at h
  · rename_i hsz
    obtain rfl := Option.some.inj h
    clear h
    have kb := fun W => print_bytes (P := Tryz.prog) 9 51 5 Tryz.underlying9 Tryz.underlying51 Tryz.underlying5 a0 W
    go_enter Tryz.func27, Tryz.ntmps27
    go_wp2
    generalize grownCap w a0.size 0 5 = cap
    go_loopw [4, 5, 10] (fun v4 v5 v10 wr => ∃ k : Nat, k ≤ a0.size ∧ v10 = .int .i64 k ∧ LowAt w wr a0 k) (fun v4 v5 v10 _ => a0.size - (intOf v10).toNat)
    case atStart => exact ⟨0, Nat.zero_le _, rfl, LowAt.start w _ a0⟩
    case round =>
      clear kb
      obtain ⟨k, hk, rfl, hL⟩ := hrel
      by_cases hlt : k < a0.size
      · have hcell : wr.cell? ⟨w.heap.size, k, none⟩ = some (.int .u8 (bt a0 k)) := by rw [hL.cell k hlt, if_neg (by omega)]
        have hfree := hL.free k hlt
        obtain ⟨hb0, hb1⟩ := bt_range a0 k
        have hS := Aside0.mk (hL.store hlt)
        have hN := Aside0.mk (fun e => hL.same (k := k) e)
        generalize hc : bt a0 k = c at hcell hb0 hb1 hS hN
        clear hc
        have HL := Aside0.mk hL
        clear hL
        by_cases hu1 : 65 ≤ c
        · by_cases hu2 : c ≤ 90
          · have hl : lowByte c = c + 32 := by unfold lowByte; rw [if_pos ⟨hu1, hu2⟩]
            have hor := low_or c hu1 hu2
            rw [hl] at hS
            clear hl hN
            go_wp2
            go_roundw
            case rel => exact ⟨k + 1, by omega, by go_num, hS.out⟩
            case measure => simp [intOf]; omega
          · have hl : lowByte c = c := by unfold lowByte; rw [if_neg (by omega)]
            clear hS
            have hN' := Aside0.mk (hN.out hl)
            clear hN hl
            go_wp2
            go_roundw
            case rel => exact ⟨k + 1, by omega, by go_num, hN'.out⟩
            case measure => simp [intOf]; omega
        · have hl : lowByte c = c := by unfold lowByte; rw [if_neg (by omega)]
          clear hS
          have hN' := Aside0.mk (hN.out hl)
          clear hN hl
          go_wp2
          go_roundw
          case rel => exact ⟨k + 1, by omega, by go_num, hN'.out⟩
          case measure => simp [intOf]; omega
      · obtain rfl : k = a0.size := by omega
        have hd := fun c => hL.done (P := Tryz.prog) (src := 51) (dst := 9) (e := 5) Tryz.underlying51 Tryz.underlying5 Tryz.underlying9 c
        go_wp2
        go_ret
        exact ⟨rfl, hL.below⟩
  · cases h
def octet_Fold.f (a0 : ByteArray) (a1 : ByteArray) : Option (Bool) := (octet_Lower.f a0).bind fun t101 => ((octet_Lower.f a1).bind fun t102 => (some (t101.toList == t102.toList)))
set_option maxHeartbeats 8000000 in
set_option maxRecDepth 100000 in
theorem octet_Fold.calls (a0 : ByteArray) (a1 : ByteArray) (r : Bool) (w : World) (h : octet_Fold.f a0 a1 = some r) :
    Calls Tryz.prog 18 #[.string a0, .string a1] w fun e w' => e = .returned (.bool r) ∧ Below w.heap.size w w' := by
  have HB := Aside0.mk (Below.refl w.heap.size w)
  have H : ((octet_Lower.f a0).bind fun t101 => ((octet_Lower.f a1).bind fun t102 => (some (t101.toList == t102.toList)))) = some r := h
  clear h
  replace H := Option.bind_eq_some_iff.mp H
  obtain ⟨t101, A30, H⟩ := H
  replace H : ((octet_Lower.f a1).bind fun t102 => (some (t101.toList == t102.toList))) = some r := H
  have A3 := Aside0.mk A30
  clear A30
  replace H := Option.bind_eq_some_iff.mp H
  obtain ⟨t102, A40, H⟩ := H
  replace H : (some (t101.toList == t102.toList)) = some r := H
  have A4 := Aside0.mk A40
  clear A40
  obtain rfl := Option.some.inj H
  go_enter Tryz.func18, Tryz.ntmps18
  go_wp2_with (first | ((with_reducible refine gate_callee (f := 27) rfl ?_); refine goesL_ (some 6) rfl rfl Tryz.func27 (by kernel_rfl) rfl #[.string a0] rfl (by (try simp only [List.map_toArray, List.map_cons, List.map_nil]); first | done | rfl | (simp only [List.length_drop, List.length_take]; rfl)) ?_; (with_reducible refine (octet_Lower.calls a0 t101 _ A3.out).mono ?_); rintro e w5 ⟨rfl, hb⟩; refine ⟨_, rfl, ?_⟩; have n0_ := Aside0.mk (below_step (by repeat (first | (with_reducible first | exact HB.out | apply below_alloc | apply pw_below_drewN | apply below_drew1) | exact HB.out)) hb); clear HB; have HB := n0_; clear n0_; (try clear hb); (try clear hb2); (try clear hk); (try clear hi)) | ((with_reducible refine gate_callee (f := 27) rfl ?_); refine goesL_ (some 8) rfl rfl Tryz.func27 (by kernel_rfl) rfl #[.string a1] rfl (by (try simp only [List.map_toArray, List.map_cons, List.map_nil]); first | done | rfl | (simp only [List.length_drop, List.length_take]; rfl)) ?_; (with_reducible refine (octet_Lower.calls a1 t102 _ A4.out).mono ?_); rintro e w6 ⟨rfl, hb⟩; refine ⟨_, rfl, ?_⟩; have n0_ := Aside0.mk (below_step (by repeat (first | (with_reducible first | exact HB.out | apply below_alloc | apply pw_below_drewN | apply below_drew1) | exact HB.out)) hb); clear HB; have HB := n0_; clear n0_; (try clear hb); (try clear hb2); (try clear hk); (try clear hi)))
  go_ret
  exact ⟨by first | rfl | (simp [errW_none, errW_some] <;> rfl) | (simp [*, errW_none, errW_some] <;> rfl) | (simp [q_ne_nil]; done), by repeat (first | (with_reducible first | exact HB.out | apply below_alloc | apply pw_below_drewN | apply below_drew1) | exact HB.out)⟩
def coop_Plain.l0 : Nat → List (S35) → List (S35) → Int → Int → Option ((List (S35)))
  | 0, _, _, _, _ => none
  | k + 1, x2, x5, x6, x7 => if x7 < x6 then (if 0 ≤ x7 then (if x7 < (x5.length : Int) then ((octet_Fold.f ((rd_T35 x5 x7).f0) (⟨#[99, 114, 111, 115, 115, 45, 111, 114, 105, 103, 105, 110, 45, 111, 112, 101, 110, 101, 114, 45, 112, 111, 108, 105, 99, 121, 45, 114, 101, 112, 111, 114, 116, 45, 111, 110, 108, 121]⟩ : ByteArray)).bind fun t105 => (if t105 = true then (coop_Plain.l0 k x2 x5 x6 (wrap64 (x7 + 1))) else ((octet_Fold.f ((rd_T35 x5 x7).f0) (⟨#[99, 114, 111, 115, 115, 45, 111, 114, 105, 103, 105, 110, 45, 101, 109, 98, 101, 100, 100, 101, 114, 45, 112, 111, 108, 105, 99, 121, 45, 114, 101, 112, 111, 114, 116, 45, 111, 110, 108, 121]⟩ : ByteArray)).bind fun t106 => (if t106 = true then (coop_Plain.l0 k x2 x5 x6 (wrap64 (x7 + 1))) else (if x2.length < 4398046511104 then (coop_Plain.l0 k (x2 ++ [(⟨(rd_T35 x5 x7).f0, (rd_T35 x5 x7).f1⟩ : S35)]) x5 x6 (wrap64 (x7 + 1))) else (none)))))) else (none)) else (none)) else (some x2)
def coop_Plain.f (k : Nat) (l0 : List (S35)) : Option ((List (S35))) := coop_Plain.l0 k ([] : List (S35)) l0 (l0.length : Int) 0
set_option maxHeartbeats 8000000 in
set_option maxRecDepth 100000 in
theorem coop_Plain.calls (k : Nat) (A0 : Option Addr) (c0 : Nat) (l0 : List (S35)) (r : List (S35)) (w : World) (hr0 : Kd.C k35 w A0 l0.length l0) (hc0 : l0.length ≤ c0) (h : coop_Plain.f k l0 = some r) :
    Calls Tryz.prog 8 #[.slice A0 l0.length c0] w fun e w' => ∃ v0_ : Value, e = .returned (v0_) ∧ Kd.R k35 35 w' w.heap.size (fun _ => True) v0_ r ∧ Below w.heap.size w w' := by
  have hu35 := Tryz.underlying35
  have HR0 := Aside0.mk hr0
  have HC0 := Aside0.mk hc0
  clear hr0 hc0
  have HB := Aside0.mk (Below.refl w.heap.size w)
  have H : (coop_Plain.l0 k ([] : List (S35)) l0 (l0.length : Int) 0) = some r := h
  clear h
  have H' := Aside0.mk H
  clear H
  go_enter Tryz.func8, Tryz.ntmps8
  go_wp2
  go_loopg [2, 7] k (fun kq v2 v7 w' => ∃ (x2_1 : List (S35)) (x7_1 : Int), v7 = .int .i64 x7_1 ∧ Aside0 (coop_Plain.l0 kq x2_1 l0 (l0.length : Int) x7_1 = some r) ∧ Aside0 (kq ≤ k) ∧ Aside0 (Kd.R k35 35 w' w.heap.size (fun _ => True) v2 x2_1) ∧ Aside0 (Below w.heap.size w w'))
  case atStart => exact ⟨(([] : List (S35))), (0), (by first | rfl | (simp; done) | (simp [*]; done) | (simp [q_ne_nil]; done)), H', ⟨Nat.le_refl _⟩, ⟨by first | exact Kd.R_nil _ _ _ _ _ | exact Kd.N_nil _ _ _ _ _ | exact Kd.V_nil _ _ _ _ _ | exact Kd.Q_nil _ _ _ _ _ | exact Kd.S_nil _ _ _ _ _⟩, ⟨by repeat (first | (with_reducible first | exact HB.out | apply below_alloc | apply pw_below_drewN | apply below_drew1) | exact HB.out)⟩⟩
  case round =>
    clear H'
    obtain ⟨x2_1, x7_1, rfl, HA, HK1, HO_2, HB⟩ := hrel
    cases gk with
    | zero => exact absurd HA.out (by simp [coop_Plain.l0])
    | succ k1 =>
      have H := HA.out
      clear HA
      simp only [coop_Plain.l0] at H
      by_cases c2 : x7_1 < (l0.length : Int)
      · rw [if_pos c2] at H
        have c2b0 : decide (x7_1 < (l0.length : Int)) = true := decide_eq_true c2
        clear c2
        by_cases c3 : 0 ≤ x7_1
        · rw [if_pos c3] at H
          have c3b0 : decide (0 ≤ x7_1) = true := decide_eq_true c3
          clear c3
          by_cases c4 : x7_1 < (l0.length : Int)
          · rw [if_pos c4] at H
            have c4b0 : decide (x7_1 < (l0.length : Int)) = true := decide_eq_true c4
            clear c4
            replace H := Option.bind_eq_some_iff.mp H
            obtain ⟨t105, A50, H⟩ := H
            replace H : (if t105 = true then (coop_Plain.l0 k1 x2_1 l0 (l0.length : Int) (wrap64 (x7_1 + 1))) else ((octet_Fold.f ((rd_T35 l0 x7_1).f0) (⟨#[99, 114, 111, 115, 115, 45, 111, 114, 105, 103, 105, 110, 45, 101, 109, 98, 101, 100, 100, 101, 114, 45, 112, 111, 108, 105, 99, 121, 45, 114, 101, 112, 111, 114, 116, 45, 111, 110, 108, 121]⟩ : ByteArray)).bind fun t106 => (if t106 = true then (coop_Plain.l0 k1 x2_1 l0 (l0.length : Int) (wrap64 (x7_1 + 1))) else (if x2_1.length < 4398046511104 then (coop_Plain.l0 k1 (x2_1 ++ [(⟨(rd_T35 l0 x7_1).f0, (rd_T35 l0 x7_1).f1⟩ : S35)]) l0 (l0.length : Int) (wrap64 (x7_1 + 1))) else (none))))) = some r := H
            have A5 := Aside0.mk A50
            clear A50
            by_cases c6 : t105 = true
            · subst c6
              have H1 : (coop_Plain.l0 k1 x2_1 l0 (l0.length : Int) (wrap64 (x7_1 + 1))) = some r := by rw [if_pos rfl] at H; exact H
              clear H
              have H := H1
              clear H1
              have H' := Aside0.mk H
              clear H
              have p103 : 0 ≤ (x7_1 : Int) := of_decide_eq_true (by first | (with_reducible assumption) | assumption)
              have q103 : x7_1 < (l0.length : Int) := of_decide_eq_true (by first | (with_reducible assumption) | assumption)
              obtain ⟨ad103, e103, hx103_0, hx103_1⟩ := at_T35 HR0.out x7_1 p103 q103
              cases e103
              replace hx103_0 := (HB.out.cell (World.block_lt_of_cell? w _ hx103_0)).trans hx103_0
              replace hx103_1 := (HB.out.cell (World.block_lt_of_cell? w _ hx103_1)).trans hx103_1
              replace p103 := eq_true p103
              replace q103 := eq_true q103
              go_wp2_with (first | ((with_reducible refine gate_dst (N := 4) rfl ?_); refine box_event ?hg (N := 4) ?hd (cs := #[.string (⟨#[]⟩ : ByteArray), .string (⟨#[]⟩ : ByteArray)]) (t := 35) ?hr ?_; (case hd => rfl); (case hg => rfl); (case hr => first | (go_simp; done) | (go_simp; rfl)); intro gb104 hg w7 hbox hb; have n0_ := Aside0.mk (Kd.R_below (Kd.R_elderB (by (with_reducible repeat (first | apply Kd.R_alloc | apply Kd.R_drewN | apply Kd.R_drew)); exact HO_2.out) gb104 (Nat.le_of_eq hg.symm)) hb); have n1_ := Aside0.mk (below_step (by repeat (first | (with_reducible first | exact HB.out | apply below_alloc | apply pw_below_drewN | apply below_drew1) | exact HB.out)) hb); have n2_ := Aside0.mk (hbox); have n3_ := Aside0.mk ((by rw [hg]; exact (below_size (by repeat (first | (with_reducible first | exact HB.out | apply below_alloc | apply pw_below_drewN | apply below_drew1) | exact HB.out))) : w.heap.size ≤ gb104)); have n4_ := Aside0.mk ((by rw [hg]; exact (below_size (by repeat (first | (with_reducible first | exact HB.out | apply below_alloc | apply pw_below_drewN | apply below_drew1) | exact HB.out))) : w.heap.size ≤ gb104)); clear HO_2; clear HB; have HO_2 := n0_; have HB := n1_; have BK104 := n2_; have GW104 := n3_; have GE104 := n4_; clear n0_ n1_ n2_ n3_ n4_; clear hb hbox hg; have hcz8_0 : w7.cell? ⟨gb104, 0, none⟩ = some (.string (⟨#[]⟩ : ByteArray)) := (blk_cell BK104.out 0).trans rfl; have hcz8_1 : w7.cell? ⟨gb104, 1, none⟩ = some (.string (⟨#[]⟩ : ByteArray)) := (blk_cell BK104.out 1).trans rfl; have hfz8_0 := blk_frozen BK104.out 0; have hfz8_1 := blk_frozen BK104.out 1) | ((with_reducible refine gate_callee (f := 18) rfl ?_); refine goesL_ (some 13) rfl rfl Tryz.func18 (by kernel_rfl) rfl #[.string ((rd_T35 l0 x7_1).f0), .string (⟨#[99, 114, 111, 115, 115, 45, 111, 114, 105, 103, 105, 110, 45, 111, 112, 101, 110, 101, 114, 45, 112, 111, 108, 105, 99, 121, 45, 114, 101, 112, 111, 114, 116, 45, 111, 110, 108, 121]⟩ : ByteArray)] rfl (by (try simp only [List.map_toArray, List.map_cons, List.map_nil]); first | done | rfl | (simp only [List.length_drop, List.length_take]; rfl)) ?_; (with_reducible refine (octet_Fold.calls ((rd_T35 l0 x7_1).f0) (⟨#[99, 114, 111, 115, 115, 45, 111, 114, 105, 103, 105, 110, 45, 111, 112, 101, 110, 101, 114, 45, 112, 111, 108, 105, 99, 121, 45, 114, 101, 112, 111, 114, 116, 45, 111, 110, 108, 121]⟩ : ByteArray) true _ A5.out).mono ?_); rintro e w9 ⟨rfl, hb⟩; refine ⟨_, rfl, ?_⟩; have n0_ := Aside0.mk (Kd.R_below (by (with_reducible repeat (first | apply Kd.R_alloc | apply Kd.R_drewN | apply Kd.R_drew)); exact (Kd.R_mono (Kd.R_far (p := ⟨gb104, 1, none⟩) (Kd.R_far (p := ⟨gb104, 0, none⟩) (Kd.R_mono HO_2.out (fun k_ hk => (⟨hk, hk.2⟩ : _ ∧ k_ ≠ gb104))) (fun _ hk => hk.2) (.string ((rd_T35 l0 x7_1).f0))) (fun _ hk => hk.2) (.string ((rd_T35 l0 x7_1).f1))) (fun _ h_ => h_.1))) hb); have n1_ := Aside0.mk (blk_below (g := gb104) (o := .cells #[.string ((rd_T35 l0 x7_1).f0), .string ((rd_T35 l0 x7_1).f1)] 35 (0, 0)) (by (with_reducible repeat (first | refine blk_drewN ?_ _ | refine blk_drew ?_ | refine blk_alloc ?_ _)); refine blk_put (cs := #[.string ((rd_T35 l0 x7_1).f0), .string (⟨#[]⟩ : ByteArray)]) ?_ 1 _ rfl; (with_reducible repeat (first | refine blk_drewN ?_ _ | refine blk_drew ?_ | refine blk_alloc ?_ _)); refine blk_put (cs := #[.string (⟨#[]⟩ : ByteArray), .string (⟨#[]⟩ : ByteArray)]) ?_ 0 _ rfl; (with_reducible repeat (first | refine blk_drewN ?_ _ | refine blk_drew ?_ | refine blk_alloc ?_ _)); exact BK104.out) hb); have n2_ := Aside0.mk (below_step (by repeat (first | (with_reducible first | exact HB.out | apply below_alloc | apply pw_below_drewN | apply below_drew1 | refine below_set ?_ GE104.out) | exact HB.out)) hb); clear HO_2; clear BK104; clear HB; have HO_2 := n0_; have BK104 := n1_; have HB := n2_; clear n0_ n1_ n2_; (try clear hb); (try clear hb2); (try clear hk); (try clear hi)))
              go_roundg k1
              case measure => have := HK1.out; omega
              case rel => exact ⟨(x2_1), (wrap64 (x7_1 + 1)), (by first | rfl | (simp; done) | (simp [*]; done) | (simp [q_ne_nil]; done)), H', ⟨by have := HK1.out; omega⟩, ⟨by (with_reducible repeat (first | apply Kd.R_alloc | apply Kd.R_drewN | apply Kd.R_drew)); exact Kd.R_mono HO_2.out (fun _ hk => trivial)⟩, ⟨by repeat (first | (with_reducible first | exact HB.out | apply below_alloc | apply pw_below_drewN | apply below_drew1 | refine below_set ?_ GE104.out) | exact HB.out)⟩⟩
            · replace c6 := Bool.eq_false_iff.mpr c6
              subst c6
              have H1 : ((octet_Fold.f ((rd_T35 l0 x7_1).f0) (⟨#[99, 114, 111, 115, 115, 45, 111, 114, 105, 103, 105, 110, 45, 101, 109, 98, 101, 100, 100, 101, 114, 45, 112, 111, 108, 105, 99, 121, 45, 114, 101, 112, 111, 114, 116, 45, 111, 110, 108, 121]⟩ : ByteArray)).bind fun t106 => (if t106 = true then (coop_Plain.l0 k1 x2_1 l0 (l0.length : Int) (wrap64 (x7_1 + 1))) else (if x2_1.length < 4398046511104 then (coop_Plain.l0 k1 (x2_1 ++ [(⟨(rd_T35 l0 x7_1).f0, (rd_T35 l0 x7_1).f1⟩ : S35)]) l0 (l0.length : Int) (wrap64 (x7_1 + 1))) else (none)))) = some r := by rw [if_neg (show ¬ (false = true) by decide)] at H; exact H
              clear H
              have H := H1
              clear H1
              replace H := Option.bind_eq_some_iff.mp H
              obtain ⟨t106, A100, H⟩ := H
              replace H : (if t106 = true then (coop_Plain.l0 k1 x2_1 l0 (l0.length : Int) (wrap64 (x7_1 + 1))) else (if x2_1.length < 4398046511104 then (coop_Plain.l0 k1 (x2_1 ++ [(⟨(rd_T35 l0 x7_1).f0, (rd_T35 l0 x7_1).f1⟩ : S35)]) l0 (l0.length : Int) (wrap64 (x7_1 + 1))) else (none))) = some r := H
              have A10 := Aside0.mk A100
              clear A100
              by_cases c11 : t106 = true
              · subst c11
                have H1 : (coop_Plain.l0 k1 x2_1 l0 (l0.length : Int) (wrap64 (x7_1 + 1))) = some r := by rw [if_pos rfl] at H; exact H
                clear H
                have H := H1
                clear H1
                have H' := Aside0.mk H
                clear H
                have p103 : 0 ≤ (x7_1 : Int) := of_decide_eq_true (by first | (with_reducible assumption) | assumption)
                have q103 : x7_1 < (l0.length : Int) := of_decide_eq_true (by first | (with_reducible assumption) | assumption)
                obtain ⟨ad103, e103, hx103_0, hx103_1⟩ := at_T35 HR0.out x7_1 p103 q103
                cases e103
                replace hx103_0 := (HB.out.cell (World.block_lt_of_cell? w _ hx103_0)).trans hx103_0
                replace hx103_1 := (HB.out.cell (World.block_lt_of_cell? w _ hx103_1)).trans hx103_1
                replace p103 := eq_true p103
                replace q103 := eq_true q103
                go_wp2_with (first | ((with_reducible refine gate_dst (N := 4) rfl ?_); refine box_event ?hg (N := 4) ?hd (cs := #[.string (⟨#[]⟩ : ByteArray), .string (⟨#[]⟩ : ByteArray)]) (t := 35) ?hr ?_; (case hd => rfl); (case hg => rfl); (case hr => first | (go_simp; done) | (go_simp; rfl)); intro gb104 hg w12 hbox hb; have n0_ := Aside0.mk (Kd.R_below (Kd.R_elderB (by (with_reducible repeat (first | apply Kd.R_alloc | apply Kd.R_drewN | apply Kd.R_drew)); exact HO_2.out) gb104 (Nat.le_of_eq hg.symm)) hb); have n1_ := Aside0.mk (below_step (by repeat (first | (with_reducible first | exact HB.out | apply below_alloc | apply pw_below_drewN | apply below_drew1) | exact HB.out)) hb); have n2_ := Aside0.mk (hbox); have n3_ := Aside0.mk ((by rw [hg]; exact (below_size (by repeat (first | (with_reducible first | exact HB.out | apply below_alloc | apply pw_below_drewN | apply below_drew1) | exact HB.out))) : w.heap.size ≤ gb104)); have n4_ := Aside0.mk ((by rw [hg]; exact (below_size (by repeat (first | (with_reducible first | exact HB.out | apply below_alloc | apply pw_below_drewN | apply below_drew1) | exact HB.out))) : w.heap.size ≤ gb104)); clear HO_2; clear HB; have HO_2 := n0_; have HB := n1_; have BK104 := n2_; have GW104 := n3_; have GE104 := n4_; clear n0_ n1_ n2_ n3_ n4_; clear hb hbox hg; have hcz13_0 : w12.cell? ⟨gb104, 0, none⟩ = some (.string (⟨#[]⟩ : ByteArray)) := (blk_cell BK104.out 0).trans rfl; have hcz13_1 : w12.cell? ⟨gb104, 1, none⟩ = some (.string (⟨#[]⟩ : ByteArray)) := (blk_cell BK104.out 1).trans rfl; have hfz13_0 := blk_frozen BK104.out 0; have hfz13_1 := blk_frozen BK104.out 1) | ((with_reducible refine gate_callee (f := 18) rfl ?_); refine goesL_ (some 13) rfl rfl Tryz.func18 (by kernel_rfl) rfl #[.string ((rd_T35 l0 x7_1).f0), .string (⟨#[99, 114, 111, 115, 115, 45, 111, 114, 105, 103, 105, 110, 45, 111, 112, 101, 110, 101, 114, 45, 112, 111, 108, 105, 99, 121, 45, 114, 101, 112, 111, 114, 116, 45, 111, 110, 108, 121]⟩ : ByteArray)] rfl (by (try simp only [List.map_toArray, List.map_cons, List.map_nil]); first | done | rfl | (simp only [List.length_drop, List.length_take]; rfl)) ?_; (with_reducible refine (octet_Fold.calls ((rd_T35 l0 x7_1).f0) (⟨#[99, 114, 111, 115, 115, 45, 111, 114, 105, 103, 105, 110, 45, 111, 112, 101, 110, 101, 114, 45, 112, 111, 108, 105, 99, 121, 45, 114, 101, 112, 111, 114, 116, 45, 111, 110, 108, 121]⟩ : ByteArray) false _ A5.out).mono ?_); rintro e w14 ⟨rfl, hb⟩; refine ⟨_, rfl, ?_⟩; have n0_ := Aside0.mk (Kd.R_below (by (with_reducible repeat (first | apply Kd.R_alloc | apply Kd.R_drewN | apply Kd.R_drew)); exact (Kd.R_mono (Kd.R_far (p := ⟨gb104, 1, none⟩) (Kd.R_far (p := ⟨gb104, 0, none⟩) (Kd.R_mono HO_2.out (fun k_ hk => (⟨hk, hk.2⟩ : _ ∧ k_ ≠ gb104))) (fun _ hk => hk.2) (.string ((rd_T35 l0 x7_1).f0))) (fun _ hk => hk.2) (.string ((rd_T35 l0 x7_1).f1))) (fun _ h_ => h_.1))) hb); have n1_ := Aside0.mk (blk_below (g := gb104) (o := .cells #[.string ((rd_T35 l0 x7_1).f0), .string ((rd_T35 l0 x7_1).f1)] 35 (0, 0)) (by (with_reducible repeat (first | refine blk_drewN ?_ _ | refine blk_drew ?_ | refine blk_alloc ?_ _)); refine blk_put (cs := #[.string ((rd_T35 l0 x7_1).f0), .string (⟨#[]⟩ : ByteArray)]) ?_ 1 _ rfl; (with_reducible repeat (first | refine blk_drewN ?_ _ | refine blk_drew ?_ | refine blk_alloc ?_ _)); refine blk_put (cs := #[.string (⟨#[]⟩ : ByteArray), .string (⟨#[]⟩ : ByteArray)]) ?_ 0 _ rfl; (with_reducible repeat (first | refine blk_drewN ?_ _ | refine blk_drew ?_ | refine blk_alloc ?_ _)); exact BK104.out) hb); have n2_ := Aside0.mk (below_step (by repeat (first | (with_reducible first | exact HB.out | apply below_alloc | apply pw_below_drewN | apply below_drew1 | refine below_set ?_ GE104.out) | exact HB.out)) hb); clear HO_2; clear BK104; clear HB; have HO_2 := n0_; have BK104 := n1_; have HB := n2_; clear n0_ n1_ n2_; (try clear hb); (try clear hb2); (try clear hk); (try clear hi); have hcz15_0 : w14.cell? ⟨gb104, 0, none⟩ = some (.string ((rd_T35 l0 x7_1).f0)) := (blk_cell BK104.out 0).trans rfl; have hcz15_1 : w14.cell? ⟨gb104, 1, none⟩ = some (.string ((rd_T35 l0 x7_1).f1)) := (blk_cell BK104.out 1).trans rfl; have hfz15_0 := blk_frozen BK104.out 0; have hfz15_1 := blk_frozen BK104.out 1) | (go_at_call 18; (with_reducible refine (octet_Fold.calls ((rd_T35 l0 x7_1).f0) (⟨#[99, 114, 111, 115, 115, 45, 111, 114, 105, 103, 105, 110, 45, 101, 109, 98, 101, 100, 100, 101, 114, 45, 112, 111, 108, 105, 99, 121, 45, 114, 101, 112, 111, 114, 116, 45, 111, 110, 108, 121]⟩ : ByteArray) true _ A10.out).mono ?_); rintro e w16 ⟨rfl, hb⟩; have n0_ := Aside0.mk (Kd.R_below (by (with_reducible repeat (first | apply Kd.R_alloc | apply Kd.R_drewN | apply Kd.R_drew)); exact HO_2.out) hb); have n1_ := Aside0.mk (blk_below (g := gb104) (o := .cells #[.string ((rd_T35 l0 x7_1).f0), .string ((rd_T35 l0 x7_1).f1)] 35 (0, 0)) (by (with_reducible repeat (first | refine blk_drewN ?_ _ | refine blk_drew ?_ | refine blk_alloc ?_ _)); exact BK104.out) hb); have n2_ := Aside0.mk (below_step (by repeat (first | (with_reducible first | exact HB.out | apply below_alloc | apply pw_below_drewN | apply below_drew1 | refine below_set ?_ GE104.out) | exact HB.out)) hb); clear HO_2; clear BK104; clear HB; have HO_2 := n0_; have BK104 := n1_; have HB := n2_; clear n0_ n1_ n2_; (try clear hb); (try clear hb2); (try clear hk); (try clear hi)))
                go_roundg k1
                case measure => have := HK1.out; omega
                case rel => exact ⟨(x2_1), (wrap64 (x7_1 + 1)), (by first | rfl | (simp; done) | (simp [*]; done) | (simp [q_ne_nil]; done)), H', ⟨by have := HK1.out; omega⟩, ⟨by (with_reducible repeat (first | apply Kd.R_alloc | apply Kd.R_drewN | apply Kd.R_drew)); exact Kd.R_mono HO_2.out (fun _ hk => trivial)⟩, ⟨by repeat (first | (with_reducible first | exact HB.out | apply below_alloc | apply pw_below_drewN | apply below_drew1 | refine below_set ?_ GE104.out) | exact HB.out)⟩⟩
              · replace c11 := Bool.eq_false_iff.mpr c11
                subst c11
                have H1 : (if x2_1.length < 4398046511104 then (coop_Plain.l0 k1 (x2_1 ++ [(⟨(rd_T35 l0 x7_1).f0, (rd_T35 l0 x7_1).f1⟩ : S35)]) l0 (l0.length : Int) (wrap64 (x7_1 + 1))) else (none)) = some r := by rw [if_neg (show ¬ (false = true) by decide)] at H; exact H
                clear H
                have H := H1
                clear H1
                by_cases c17 : x2_1.length < 4398046511104
                · rw [if_pos c17] at H
                  have LMc17 := Aside0.mk c17
                  clear c17
                  obtain ⟨y107, hy107⟩ : ∃ y_ : List (S35), y_ = (x2_1 ++ [(⟨(rd_T35 l0 x7_1).f0, (rd_T35 l0 x7_1).f1⟩ : S35)]) := ⟨_, rfl⟩
                  replace H : (coop_Plain.l0 k1 y107 l0 (l0.length : Int) (wrap64 (x7_1 + 1))) = some r := by first | (rw [hy107]; with_reducible exact H) | (have H2_ := (Option.bind_some _ _).symm.trans H; rw [hy107]; with_reducible exact H2_) | (have H2_ := (Option.bind_some _ _).symm.trans H; with_reducible exact H2_) | with_reducible exact H | (rw [hy107]; exact H) | exact H
                  have Ny107 := Aside0.mk hy107
                  clear hy107
                  have H' := Aside0.mk H
                  clear H
                  have p103 : 0 ≤ (x7_1 : Int) := of_decide_eq_true (by first | (with_reducible assumption) | assumption)
                  have q103 : x7_1 < (l0.length : Int) := of_decide_eq_true (by first | (with_reducible assumption) | assumption)
                  obtain ⟨ad103, e103, hx103_0, hx103_1⟩ := at_T35 HR0.out x7_1 p103 q103
                  cases e103
                  replace hx103_0 := (HB.out.cell (World.block_lt_of_cell? w _ hx103_0)).trans hx103_0
                  replace hx103_1 := (HB.out.cell (World.block_lt_of_cell? w _ hx103_1)).trans hx103_1
                  replace p103 := eq_true p103
                  replace q103 := eq_true q103
                  go_wp2_with (first | ((with_reducible refine gate_dst (N := 4) rfl ?_); refine box_event ?hg (N := 4) ?hd (cs := #[.string (⟨#[]⟩ : ByteArray), .string (⟨#[]⟩ : ByteArray)]) (t := 35) ?hr ?_; (case hd => rfl); (case hg => rfl); (case hr => first | (go_simp; done) | (go_simp; rfl)); intro gb104 hg w18 hbox hb; have n0_ := Aside0.mk (Kd.R_below (Kd.R_elderB (by (with_reducible repeat (first | apply Kd.R_alloc | apply Kd.R_drewN | apply Kd.R_drew)); exact HO_2.out) gb104 (Nat.le_of_eq hg.symm)) hb); have n1_ := Aside0.mk (below_step (by repeat (first | (with_reducible first | exact HB.out | apply below_alloc | apply pw_below_drewN | apply below_drew1) | exact HB.out)) hb); have n2_ := Aside0.mk (hbox); have n3_ := Aside0.mk ((by rw [hg]; exact (below_size (by repeat (first | (with_reducible first | exact HB.out | apply below_alloc | apply pw_below_drewN | apply below_drew1) | exact HB.out))) : w.heap.size ≤ gb104)); have n4_ := Aside0.mk ((by rw [hg]; exact (below_size (by repeat (first | (with_reducible first | exact HB.out | apply below_alloc | apply pw_below_drewN | apply below_drew1) | exact HB.out))) : w.heap.size ≤ gb104)); clear HO_2; clear HB; have HO_2 := n0_; have HB := n1_; have BK104 := n2_; have GW104 := n3_; have GE104 := n4_; clear n0_ n1_ n2_ n3_ n4_; clear hb hbox hg; have hcz19_0 : w18.cell? ⟨gb104, 0, none⟩ = some (.string (⟨#[]⟩ : ByteArray)) := (blk_cell BK104.out 0).trans rfl; have hcz19_1 : w18.cell? ⟨gb104, 1, none⟩ = some (.string (⟨#[]⟩ : ByteArray)) := (blk_cell BK104.out 1).trans rfl; have hfz19_0 := blk_frozen BK104.out 0; have hfz19_1 := blk_frozen BK104.out 1) | ((with_reducible refine gate_callee (f := 18) rfl ?_); refine goesL_ (some 13) rfl rfl Tryz.func18 (by kernel_rfl) rfl #[.string ((rd_T35 l0 x7_1).f0), .string (⟨#[99, 114, 111, 115, 115, 45, 111, 114, 105, 103, 105, 110, 45, 111, 112, 101, 110, 101, 114, 45, 112, 111, 108, 105, 99, 121, 45, 114, 101, 112, 111, 114, 116, 45, 111, 110, 108, 121]⟩ : ByteArray)] rfl (by (try simp only [List.map_toArray, List.map_cons, List.map_nil]); first | done | rfl | (simp only [List.length_drop, List.length_take]; rfl)) ?_; (with_reducible refine (octet_Fold.calls ((rd_T35 l0 x7_1).f0) (⟨#[99, 114, 111, 115, 115, 45, 111, 114, 105, 103, 105, 110, 45, 111, 112, 101, 110, 101, 114, 45, 112, 111, 108, 105, 99, 121, 45, 114, 101, 112, 111, 114, 116, 45, 111, 110, 108, 121]⟩ : ByteArray) false _ A5.out).mono ?_); rintro e w20 ⟨rfl, hb⟩; refine ⟨_, rfl, ?_⟩; have n0_ := Aside0.mk (Kd.R_below (by (with_reducible repeat (first | apply Kd.R_alloc | apply Kd.R_drewN | apply Kd.R_drew)); exact (Kd.R_mono (Kd.R_far (p := ⟨gb104, 1, none⟩) (Kd.R_far (p := ⟨gb104, 0, none⟩) (Kd.R_mono HO_2.out (fun k_ hk => (⟨hk, hk.2⟩ : _ ∧ k_ ≠ gb104))) (fun _ hk => hk.2) (.string ((rd_T35 l0 x7_1).f0))) (fun _ hk => hk.2) (.string ((rd_T35 l0 x7_1).f1))) (fun _ h_ => h_.1))) hb); have n1_ := Aside0.mk (blk_below (g := gb104) (o := .cells #[.string ((rd_T35 l0 x7_1).f0), .string ((rd_T35 l0 x7_1).f1)] 35 (0, 0)) (by (with_reducible repeat (first | refine blk_drewN ?_ _ | refine blk_drew ?_ | refine blk_alloc ?_ _)); refine blk_put (cs := #[.string ((rd_T35 l0 x7_1).f0), .string (⟨#[]⟩ : ByteArray)]) ?_ 1 _ rfl; (with_reducible repeat (first | refine blk_drewN ?_ _ | refine blk_drew ?_ | refine blk_alloc ?_ _)); refine blk_put (cs := #[.string (⟨#[]⟩ : ByteArray), .string (⟨#[]⟩ : ByteArray)]) ?_ 0 _ rfl; (with_reducible repeat (first | refine blk_drewN ?_ _ | refine blk_drew ?_ | refine blk_alloc ?_ _)); exact BK104.out) hb); have n2_ := Aside0.mk (below_step (by repeat (first | (with_reducible first | exact HB.out | apply below_alloc | apply pw_below_drewN | apply below_drew1 | refine below_set ?_ GE104.out) | exact HB.out)) hb); clear HO_2; clear BK104; clear HB; have HO_2 := n0_; have BK104 := n1_; have HB := n2_; clear n0_ n1_ n2_; (try clear hb); (try clear hb2); (try clear hk); (try clear hi); have hcz21_0 : w20.cell? ⟨gb104, 0, none⟩ = some (.string ((rd_T35 l0 x7_1).f0)) := (blk_cell BK104.out 0).trans rfl; have hcz21_1 : w20.cell? ⟨gb104, 1, none⟩ = some (.string ((rd_T35 l0 x7_1).f1)) := (blk_cell BK104.out 1).trans rfl; have hfz21_0 := blk_frozen BK104.out 0; have hfz21_1 := blk_frozen BK104.out 1) | (go_at_call 18; (with_reducible refine (octet_Fold.calls ((rd_T35 l0 x7_1).f0) (⟨#[99, 114, 111, 115, 115, 45, 111, 114, 105, 103, 105, 110, 45, 101, 109, 98, 101, 100, 100, 101, 114, 45, 112, 111, 108, 105, 99, 121, 45, 114, 101, 112, 111, 114, 116, 45, 111, 110, 108, 121]⟩ : ByteArray) false _ A10.out).mono ?_); rintro e w22 ⟨rfl, hb⟩; have n0_ := Aside0.mk (Kd.R_below (by (with_reducible repeat (first | apply Kd.R_alloc | apply Kd.R_drewN | apply Kd.R_drew)); exact HO_2.out) hb); have n1_ := Aside0.mk (blk_below (g := gb104) (o := .cells #[.string ((rd_T35 l0 x7_1).f0), .string ((rd_T35 l0 x7_1).f1)] 35 (0, 0)) (by (with_reducible repeat (first | refine blk_drewN ?_ _ | refine blk_drew ?_ | refine blk_alloc ?_ _)); exact BK104.out) hb); have n2_ := Aside0.mk (below_step (by repeat (first | (with_reducible first | exact HB.out | apply below_alloc | apply pw_below_drewN | apply below_drew1 | refine below_set ?_ GE104.out) | exact HB.out)) hb); clear HO_2; clear BK104; clear HB; have HO_2 := n0_; have BK104 := n1_; have HB := n2_; clear n0_ n1_ n2_; (try clear hb); (try clear hb2); (try clear hk); (try clear hi); have hcz23_0 : w22.cell? ⟨gb104, 0, none⟩ = some (.string ((rd_T35 l0 x7_1).f0)) := (blk_cell BK104.out 0).trans rfl; have hcz23_1 : w22.cell? ⟨gb104, 1, none⟩ = some (.string ((rd_T35 l0 x7_1).f1)) := (blk_cell BK104.out 1).trans rfl; have hfz23_0 := blk_frozen BK104.out 0; have hfz23_1 := blk_frozen BK104.out 1) | ((with_reducible refine gate_builtin (b := .append) (xs := #[.tmp 21, .tmp 23]) rfl ?_); at_builtin; refine Kd.R_append k35 (w0 := w) w.heap.size rfl (.tmp 21) (.tmp 23) 22 35 (.agg #[(.string ⟨#[]⟩), (.string ⟨#[]⟩)]) 32 rfl Tryz.underlying22 info35 rfl (by decide) (by omega) u2 x2_1 (⟨(rd_T35 l0 x7_1).f0, (rd_T35 l0 x7_1).f1⟩ : S35) [.string ((rd_T35 l0 x7_1).f0), .string ((rd_T35 l0 x7_1).f1)] (fun k_ => k_ ≠ gb104) (fun _ => False) rfl rfl ?aP (fun _ hk => hk.elim) ?aF ?aO ?aB ?aS ?aL ?_; (case aP => exact k35_mkM _ _ _ (⟨(rd_T35 l0 x7_1).f0, (rd_T35 l0 x7_1).f1⟩ : S35)); (case aB => exact (by repeat (first | (with_reducible first | exact HB.out | apply below_alloc | apply pw_below_drewN | apply below_drew1 | refine below_set ?_ GE104.out) | exact HB.out))); (case aF => exact (fun k_ hk => Kd.freshB (g := gb104) (o := .cells #[.string ((rd_T35 l0 x7_1).f0), .string ((rd_T35 l0 x7_1).f1)] 35 (0, 0)) (by (with_reducible repeat (first | refine blk_drewN ?_ _ | refine blk_drew ?_ | refine blk_alloc ?_ _)); exact BK104.out) k_ hk)); (case aO => exact (by (with_reducible repeat (first | apply Kd.R_alloc | apply Kd.R_drewN | apply Kd.R_drew)); exact Kd.R_mono HO_2.out (fun _ hk => hk.2))); (case aS => exact (below_size (by repeat (first | (with_reducible first | exact HB.out | apply below_alloc | apply pw_below_drewN | apply below_drew1 | refine below_set ?_ GE104.out) | exact HB.out)))); (case aL => have := LMc17.out; omega); intro v108 w24 ho hb hg hat; rw [← Ny107.out] at ho; have n0_ := Aside0.mk (blk_grown (g := gb104) (o := .cells #[.string ((rd_T35 l0 x7_1).f0), .string ((rd_T35 l0 x7_1).f1)] 35 (0, 0)) (by (with_reducible repeat (first | refine blk_drewN ?_ _ | refine blk_drew ?_ | refine blk_alloc ?_ _)); exact BK104.out) hg (Kd.R_away HO_2.out (fun _ hk => hk.2))); have n1_ := Aside0.mk (hb); have n2_ := Aside0.mk (ho); clear BK104; clear HB; clear HO_2; have BK104 := n0_; have HB := n1_; have HO109 := n2_; clear n0_ n1_ n2_; clear ho hb hg hat))
                  go_roundg k1
                  case measure => have := HK1.out; omega
                  case rel => exact ⟨(y107), (wrap64 (x7_1 + 1)), (by first | rfl | (simp; done) | (simp [*]; done) | (simp [q_ne_nil]; done)), H', ⟨by have := HK1.out; omega⟩, ⟨by (with_reducible repeat (first | apply Kd.R_alloc | apply Kd.R_drewN | apply Kd.R_drew)); exact Kd.R_mono HO109.out (fun _ hk => trivial)⟩, ⟨by repeat (first | (with_reducible first | exact HB.out | apply below_alloc | apply pw_below_drewN | apply below_drew1 | refine below_set ?_ GE104.out) | exact HB.out)⟩⟩
                · rw [if_neg c17] at H
                  exact absurd H (by simp)
          · rw [if_neg c4] at H
            exact absurd H (by simp)
        · rw [if_neg c3] at H
          exact absurd H (by simp)
      · rw [if_neg c2] at H
        have c2b0 : decide (x7_1 < (l0.length : Int)) = false := decide_eq_false c2
        clear c2
        obtain rfl := Option.some.inj H
        go_wp2
        go_ret
        exact ⟨_, by first | rfl | (simp [errW_none, errW_some] <;> rfl) | (simp [*, errW_none, errW_some] <;> rfl) | (simp [q_ne_nil]; done), by (with_reducible repeat (first | apply Kd.R_alloc | apply Kd.R_drewN | apply Kd.R_drew)); exact HO_2.out, by repeat (first | (with_reducible first | exact HB.out | apply below_alloc | apply pw_below_drewN | apply below_drew1) | exact HB.out)⟩
def trimBA (s : ByteArray) : ByteArray := ⟨(Lib.trimS s.data.toList [9, 10, 12, 13, 32]).toArray⟩
def octet_Trim.f (a0 : ByteArray) : Option ByteArray := if a0.size ≤ 281474976710656 then some (trimBA a0) else none
set_option maxHeartbeats 1000000 in
theorem octet_Trim.calls (a0 : ByteArray) (r : ByteArray) (w : World) (h : octet_Trim.f a0 = some r) :
    Calls Tryz.prog 17 #[.string a0] w fun e w' => e = .returned (.string r) ∧ Below w.heap.size w w' := by
  unfold octet_Trim.f at h
  split at h
  · rename_i hsz
    obtain rfl := Option.some.inj h
    clear h
    have hcon := Any.strings_Trim_laid Tryz.lays160 (by kernel_rfl) a0 ⟨#[9, 10, 12, 13, 32]⟩ w (by omega) (by decide) (ascii_of_all (by decide))
    change Calls Tryz.prog 26 _ _ (fun e w' => e = .returned (.string (trimBA a0)) ∧ Below w.heap.size w w') at hcon
    generalize trimBA a0 = r at hcon ⊢
    go_enter Tryz.func17, Tryz.ntmps17
    go_wp2_with (go_at_call 26; refine hcon.mono ?_; rintro e w' ⟨rfl, hB⟩)
    go_ret
    exact ⟨rfl, hB⟩
  · cases h
def foldEq (s t : ByteArray) : Bool := (lowBA s).toList == (lowBA t).toList
theorem fold_some (s t : ByteArray) (h : s.size ≤ 281474976710656) (h' : t.size ≤ 281474976710656) : octet_Fold.f s t = some (foldEq s t) := by
  unfold octet_Fold.f octet_Lower.f
  rw [if_pos h, if_pos h']
  rfl
theorem trim_some (s : ByteArray) (h : s.size ≤ 281474976710656) : octet_Trim.f s = some (trimBA s) := if_pos h
/-- The values of a name, in order. -/
def valsOf (l : List S35) (name : ByteArray) : List ByteArray := (l.filter (fun h => foldEq h.f0 name)).map (fun h => trimBA h.f1)
theorem valsOf_snoc (l : List S35) (h : S35) (name : ByteArray) : valsOf (l ++ [h]) name = valsOf l name ++ (if foldEq h.f0 name = true then [trimBA h.f1] else []) := by
  unfold valsOf
  rw [List.filter_append, List.map_append]
  by_cases hf : foldEq h.f0 name = true <;> simp [hf]
theorem valsOf_take (l : List S35) (k : Nat) (name : ByteArray) : valsOf (l.take k) name <+: valsOf l name := by
  refine ⟨valsOf (l.drop k) name, ?_⟩
  unfold valsOf
  rw [← List.map_append, ← List.filter_append, List.take_append_drop]
theorem valsOf_len (l : List S35) (name : ByteArray) : (valsOf l name).length ≤ l.length := by
  unfold valsOf
  rw [List.length_map]
  exact List.length_filter_le _ _
/-- Heads of a size that a call can bear. -/
def hdrsB (l : List S35) (name : ByteArray) : Bool := decide (name.size ≤ 281474976710656) && decide (l.length ≤ 4398046511000) && l.all (fun h => decide (h.f0.size ≤ 281474976710656) && decide (h.f1.size ≤ 281474976710656))
/-- What a round keeps: all below m but one variable. -/
def KpBut (m bo : Nat) (W W' : World) : Prop := W.heap.size ≤ W'.heap.size ∧ ∀ k, k < m → k ≠ bo → W'.heap[k]? = W.heap[k]?
theorem KpBut.refl (m bo : Nat) (W : World) : KpBut m bo W W := ⟨Nat.le_refl _, fun _ _ _ => rfl⟩
theorem KpBut.trans {m bo : Nat} {A B C : World} (h : KpBut m bo A B) (h' : KpBut m bo B C) : KpBut m bo A C := ⟨Nat.le_trans h.1 h'.1, fun k hk hne => (h'.2 k hk hne).trans (h.2 k hk hne)⟩
theorem KpBut.below {m bo : Nat} {A B : World} (h : Below A.heap.size A B) (hm : m ≤ A.heap.size) : KpBut m bo A B := ⟨h.size, fun k hk _ => h.block k (by omega)⟩
theorem KpBut.cell {m bo : Nat} {A B : World} (h : KpBut m bo A B) {p : Addr} {v : Value} (hp : p.block < m) (hne : p.block ≠ bo) (hc : A.cell? p = some v) : B.cell? p = some v :=
  (World.cell?_of_block (h.2 p.block hp hne)).trans hc
theorem KpBut.putObj {m bo s : Nat} (hm : m ≤ s) (W : World) (l : Nat) (o o' : Obj) (hl : s ≤ l) (_ : W.heap[l]? = some o) (_ : o.isCells = false) (_ : o.isWalk = false) : KpBut m bo W (W.putObj l o') := by
  refine ⟨by simp, fun k hk _ => World.putObj_heap_other (by omega)⟩
theorem hdrsB_at {l : List S35} {name : ByteArray} (h : hdrsB l name = true) : name.size ≤ 281474976710656 ∧ l.length ≤ 4398046511000 ∧ ∀ i : Nat, i < l.length → (rd_T35 l i).f0.size ≤ 281474976710656 ∧ (rd_T35 l i).f1.size ≤ 281474976710656 := by
  unfold hdrsB at h
  simp only [Bool.and_eq_true, decide_eq_true_eq, List.all_eq_true] at h
  refine ⟨h.1.1, h.1.2, fun i hi => ?_⟩
  have e : rd_T35 l (i : Int) = l[i] := by simp [rd_T35, List.getD_eq_getElem?_getD, List.getElem?_eq_getElem hi]
  rw [e]
  exact h.2 _ (List.getElem_mem hi)
theorem take_snoc_h (l : List S35) (k : Nat) (h : k < l.length) : l.take (k + 1) = l.take k ++ [rd_T35 l (k : Int)] := by
  have e : rd_T35 l (k : Int) = l[k] := by simp [rd_T35, List.getD_eq_getElem?_getD, List.getElem?_eq_getElem h]
  rw [e, List.take_succ_eq_append_getElem h]
/-- Between two rounds. -/
def VRel (hs : List S35) (name : ByteArray) (m bo : Nat) (W : World) (J : List ByteArray → World → Prop) (v : Value) (wr : World) : Prop :=
  ∃ k : Nat, k ≤ hs.length ∧ v = .int .i64 k ∧ KpBut m bo W wr ∧ J (valsOf (hs.take k) name) wr
attribute [local go_sem] Oper.semAt_some in
set_option maxRecDepth 100000 in
set_option maxHeartbeats 2000000 in
theorem values1_in (n : Nat) (hn : 1 ≤ n) (l m bo BL BN : Nat) (w : World) (A : Option Addr) (c : Nat) (hs : List S35) (name : ByteArray) (hok : hdrsB hs name = true) (hr : Kd.C k35 w A hs.length hs)
    (hwb : w.heap.size ≤ bo) (hwm : w.heap.size ≤ m) (hBN : BN < m) (hBNo : BN ≠ bo) (J Jx : List ByteArray → World → Prop)
    (W : World) (hW : ∀ k, k < w.heap.size → W.heap[k]? = w.heap[k]?) (hmW : m ≤ W.heap.size) (hJ : AbidesFrom W.heap.size J)
    (hY : ∀ pre x W1, J pre W1 → pre.length < hs.length → pre ++ [x] <+: valsOf hs name → YieldAt Fence.wide (n - 1) Tryz.prog l #[.string x] W1 fun e W' =>
      (e = .returned (.bool true) ∧ J (pre ++ [x]) W' ∧ KpBut m bo W1 W') ∨ (e = .returned (.bool false) ∧ Jx (pre ++ [x]) W'))
    (hcL : W.cell? ⟨BL, 0, none⟩ = some (.slice A hs.length c)) (hcN : W.cell? ⟨BN, 0, none⟩ = some (.string name)) (h0 : J [] W) :
    CallsIn Fence.wide n Tryz.prog 67 #[.func (.yield l) #[] #[], .pointer (some ⟨BL, 0, none⟩), .pointer (some ⟨BN, 0, none⟩)] W fun e W' => (∃ v, e = .returned v) ∧
      ((∃ ys, ys = valsOf hs name ∧ J ys W') ∨ (∃ pre, pre <+: valsOf hs name ∧ Jx pre W')) := by
  obtain ⟨hz, hlen, hsz⟩ := hdrsB_at hok
  refine callsIn_of_wp Tryz.func67 rfl trivial ?_ rfl
  simp only [Tryz.ntmps67, List.size_toArray, List.length_cons, List.length_nil, Nat.reduceAdd, Nat.reduceSub, Array.replicate_succ, Array.replicate_zero, List.push_toArray, List.append_toArray, List.nil_append, List.cons_append]
  have fw1 : Fence.wide.fn 18 := trivial
  have fw2 : Fence.wide.fn 17 := trivial
  have HR := Aside0.mk hr
  have HJ := Aside0.mk hJ
  have HY := Aside0.mk hY
  have HW := Aside0.mk hW
  have HS := Aside0.mk hsz
  have H0 := Aside0.mk h0
  have HN := Aside0.mk hcN
  clear hr hJ hY hW hsz h0 hok hcN
  gi_wp2
  gi_loopw [8] (fun v8 wr => VRel hs name m bo W J v8 wr) (fun v8 wr => hs.length - (intOf v8).toNat)
  case atStart => exact ⟨0, Nat.zero_le _, rfl, KpBut.refl _ _ _, by simpa [valsOf] using H0.out⟩
  case round =>
    clear H0
    obtain ⟨k, hk, rfl, hK, hJs⟩ := hrel
    have HK := Aside0.mk hK
    have HJs := Aside0.mk hJs
    clear hK hJs
    by_cases hlt : k < hs.length
    · obtain ⟨ad, hA, hx0, hx1⟩ := at_T35 HR.out (k : Int) (by omega) (by omega)
      subst hA
      have hvl := valsOf_len (hs.take k) name
      rw [List.length_take] at hvl
      have hsn := take_snoc_h hs k hlt
      have hpre := valsOf_take hs (k + 1) name
      obtain ⟨hs0, hs1⟩ := HS.out k hlt
      simp only [Int.toNat_natCast] at hx0 hx1
      generalize hh : rd_T35 hs (k : Int) = hd at *
      clear hh
      have hb0 := World.block_lt_of_cell? w _ hx0
      have hb1 := World.block_lt_of_cell? w _ hx1
      have hy0 : wr.cell? (ad.add (k * 2)) = some (.string hd.f0) := HK.out.cell (by omega) (by omega) ((World.cell?_of_block (HW.out _ hb0)).trans hx0)
      have hy1 : wr.cell? ⟨(ad.add (k * 2)).block, (ad.add (k * 2)).off + 1, none⟩ = some (.string hd.f1) := HK.out.cell (by simpa using Nat.lt_of_lt_of_le hb0 hwm) (by show (ad.add (k * 2)).block ≠ bo; omega) ((World.cell?_of_block (HW.out _ hb1)).trans hx1)
      have hyN : wr.cell? ⟨BN, 0, none⟩ = some (.string name) := HK.out.cell hBN hBNo HN.out
      have hyA := fun o => pw_cell_below (below_alloc (Below.refl wr.heap.size wr) o) hyN
      have hsw := HK.out.1
      clear hx0 hx1 hb0 hb1
      have HP := Aside0.mk hpre
      have HSN := Aside0.mk hsn
      clear hpre hsn
      by_cases hf : foldEq hd.f0 name = true
      · have hv : valsOf (hs.take (k + 1)) name = valsOf (hs.take k) name ++ [trimBA hd.f1] := by rw [HSN.out, valsOf_snoc, if_pos hf]
        have HV := Aside0.mk hv
        have hFold := Aside0.mk (fun W2 => octet_Fold.calls hd.f0 name true W2 (by rw [fold_some _ _ hs0 hz, hf]))
        have hTrim := Aside0.mk (fun W2 => octet_Trim.calls hd.f1 (trimBA hd.f1) W2 (trim_some _ hs1))
        clear hv hf
        generalize trimBA hd.f1 = tv at *
        gi_wp2_with (first | (gi_at_call 18; refine (callsIn_wide.2 (hFold.out _)).mono ?_; rintro e w2 ⟨rfl, hb2⟩; have hq2 := blk_below (blk_new wr _) hb2; have hc2 := blk_cell hq2 1; simp only [List.getElem?_toArray, List.getElem?_cons_succ, List.getElem?_cons_zero] at hc2; have HB2 := Aside0.mk hb2; clear hb2 hq2) | (gi_at_call 17; refine (callsIn_wide.2 (hTrim.out _)).mono ?_; rintro e w3 ⟨rfl, hb3⟩; have HB3 := Aside0.mk hb3; clear hb3 hc2; obtain ⟨fn, tmps, assign, body, hy, hRd⟩ := HY.out _ tv w3 (HJ.out _ _ _ none (HJ.out _ _ _ none (HJ.out _ _ _ none HJs.out (World.grownBy_alloc wr _ none) (by simp)) (grown_of_below HB2.out none) (by simp)) (grown_of_below HB3.out none) (by simp)) (by omega) (HV.out ▸ HP.out); have HRD := Aside0.mk hRd; clear hRd))
        refine HRD.out.mono ?_
        rintro e W4 (⟨rfl, hJ4, hk4⟩ | ⟨rfl, hJ4⟩)
        · have HJ4 := Aside0.mk hJ4
          have HK4 := Aside0.mk hk4
          clear hJ4 hk4
          gi_wp2
          go_roundw
          case rel => exact ⟨k + 1, by omega, by go_num, HK.out.trans ((KpBut.below ((Below.refl _ _).alloc (Nat.le_refl _) _) (by omega)).trans ((KpBut.below HB2.out (by simp; omega)).trans ((KpBut.below HB3.out (by have := HB2.out.size; simp at this; omega)).trans HK4.out))), by rw [HV.out]; exact HJ4.out⟩
          case measure => simp [intOf]; omega
        · have HJ4 := Aside0.mk hJ4
          clear hJ4
          gi_wp2
          refine bodyPost_ret (results_none rfl _ _ _) rfl ?_
          exact ⟨⟨_, rfl⟩, .inr ⟨_, HV.out ▸ HP.out, HJ4.out⟩⟩
      · have hv : valsOf (hs.take (k + 1)) name = valsOf (hs.take k) name := by rw [HSN.out, valsOf_snoc, if_neg hf, List.append_nil]
        have HV := Aside0.mk hv
        have hFold := Aside0.mk (fun W2 => octet_Fold.calls hd.f0 name false W2 (by rw [fold_some _ _ hs0 hz, Bool.not_eq_true _ |>.mp hf]))
        clear hv hf
        gi_wp2_with (first | (gi_at_call 18; refine (callsIn_wide.2 (hFold.out _)).mono ?_; rintro e w2 ⟨rfl, hb2⟩; have HB2 := Aside0.mk hb2; clear hb2))
        refine ⟨fun f h => (by cases h), ?_⟩
        gi_wp2
        go_roundw
        case rel => exact ⟨k + 1, by omega, by go_num, HK.out.trans ((KpBut.below ((Below.refl _ _).alloc (Nat.le_refl _) _) (by omega)).trans (KpBut.below HB2.out (by simp; omega))), by rw [HV.out]; exact HJ.out _ _ _ none (HJ.out _ _ _ none HJs.out (World.grownBy_alloc wr _ none) (by simp)) (grown_of_below HB2.out none) (by simp)⟩
        case measure => simp [intOf]; omega
    · obtain rfl : k = hs.length := by omega
      gi_wp2
      go_end0
      exact ⟨⟨_, rfl⟩, .inl ⟨_, by rw [List.take_length], HJs.out⟩⟩
set_option maxHeartbeats 1000000 in
theorem values_any (A : Option Addr) (n c : Nat) (name : ByteArray) (w : World) :
    Calls Tryz.prog 51 #[.slice A n c, .string name] w fun e w' => e = .returned (.func (.func 67) #[] #[.pointer (some ⟨w.heap.size, 0, none⟩), .pointer (some ⟨w.heap.size + 1, 0, none⟩)]) ∧ w' = (w.alloc (.cells #[.slice A n c] 22)).alloc (.cells #[.string name] 9) := by
  have hmf : ∀ (fn : Fn) (first cap : Array Value) (w : World), (Instr.makeFunc fn first cap).run Tryz.prog w = .ok (.func fn first cap) w := fun _ _ _ _ => rfl
  go_enter Tryz.func51, Tryz.ntmps51
  go_wp2
  go_ret
  exact ⟨rfl, rfl⟩
theorem values_stops (n : Nat) (hn : 1 ≤ n) (w W : World) (A : Option Addr) (c : Nat) (hs : List S35) (name : ByteArray) (hok : hdrsB hs name = true) (hr : Kd.C k35 w A hs.length hs) (bo BL BN : Nat)
    (hB : Below w.heap.size w W) (hbo : w.heap.size ≤ bo) (hBL : Boxed W BL 22 (.slice A hs.length c)) (hBN : Boxed W BN 9 (.string name)) (hne : BN ≠ bo) :
    SeqStopsK Fence.wide n Tryz.prog 67 #[.pointer (some ⟨BL, 0, none⟩), .pointer (some ⟨BN, 0, none⟩)] (fun x : ByteArray => #[Value.string x]) (KpBut W.heap.size bo) (fun ys => ys = valsOf hs name) (fun pre => pre <+: valsOf hs name) hs.length W := by
  intro l J Jx W1 hW1 hJ _ hY h0
  exact values1_in n hn l W.heap.size bo BL BN w A c hs name hok hr hbo hB.size hBN.lt hne J Jx W1 (fun k hk => (hW1.block k (by have := hB.size; omega)).trans (hB.block k hk)) hW1.size hJ (fun pre x W2 h1 h2 _ => hY pre x W2 h1 h2)
    ((hW1.cell (p := ⟨BL, 0, none⟩) hBL.lt).trans hBL.cell) ((hW1.cell (p := ⟨BN, 0, none⟩) hBN.lt).trans hBN.cell) h0
/-- The gathering loop's variable: its box, and the row that it holds. -/
def GatherAt (w : World) (m bo : Nat) (pre : List ByteArray) (W : World) : Prop :=
  (∃ v, Boxed W bo 36 v ∧ W.ownsRow m 9 1 v pre.length (pre.map Value.string) ∧ True) ∧ Below w.heap.size w W ∧ m ≤ W.heap.size
theorem GatherAt.done {w : World} {m bo : Nat} {pre : List ByteArray} {W : World} (h : GatherAt w m bo pre W) (hm : w.heap.size ≤ m) : ∃ v, Boxed W bo 36 v ∧ Kd.R Kd.string 9 W w.heap.size (fun _ => True) v pre ∧ Below w.heap.size w W := by
  obtain ⟨⟨v, hv, hrow, _⟩, hB, _⟩ := h
  exact ⟨v, hv, Kd.R_of_own (by simpa [encs] using own_weaken hrow hm) (fun _ _ => trivial), hB⟩
theorem GatherAt.own (w : World) (m bo B : Nat) (hB : w.heap.size ≤ B) : OwnFrom B (GatherAt w m bo) :=
  OwnFrom.and (Own.from (holdsRow_own m bo 36 9 1 (fun pre : List ByteArray => pre.length) (fun pre => pre.map Value.string) (fun _ _ => True)) _)
    (OwnFrom.and (ownFrom_below (Nat.le_refl _) hB) (fun s W W' row hs hg _ => Nat.le_trans hs hg.size))
theorem R_putObj {α : Type} {d : Kd α} {e : Nat} {w : World} {base : Nat} {ok : Nat → Prop} {v : Value} {xs : List α} (h : d.R e w base ok v xs) {D : Nat} {o : Obj} (hD : w.heap[D]? = some o) (hc : o.isCells = false) (o' : Obj) : d.R e (w.putObj D o') base ok v xs :=
  Kd.R_mono (Kd.R_move (Kd.R_bound h) (fun k hk => World.putObj_heap_other (by
    rintro rfl
    obtain ⟨_, _, _, q, _, cells, hcell⟩ := hk
    rw [hD] at hcell
    cases hcell
    cases hc))) (fun _ hk => hk.1)
theorem gathered {W w1 : World} {m bo : Nat} {t e : TypeId} {size : Nat} {v v' : Value} {k n : Nat} {xs ys : List Value} {tmp : Obj}
    (hv : Boxed W bo t v) (hte : t ≠ e) (hrow : W.ownsRow m e size v k xs) (hm : m ≤ W.heap.size) (hb : bo < m)
    (hown' : w1.ownsRow m e size v' n ys) (hgrow : (W.alloc tmp).grownBy w1 v.ownBlock) :
    Boxed w1 bo t v ∧ Boxed (w1.setCell ⟨bo, 0, none⟩ v') bo t v' ∧ (w1.setCell ⟨bo, 0, none⟩ v').ownsRow m e size v' n ys ∧ KeepsOthers W (w1.setCell ⟨bo, 0, none⟩ v') ∧ Below bo W (w1.setCell ⟨bo, 0, none⟩ v') ∧ KpBut m bo W (w1.setCell ⟨bo, 0, none⟩ v') := by
  obtain ⟨h1, h2, _, h4, h5⟩ := hv.appended hte (own_weaken hrow (by omega)) (by omega) (Nat.le_refl _) (own_weaken hown' (by omega)) hgrow
  refine ⟨h1, h2, hown'.kept (grownBy_setCell' w1 bo v') (.inr (h1.not_row hte hown').symm), h4, h5, h5.size, fun k hk hne => ?_⟩
  rw [Below.heap_setCell w1 ⟨bo, 0, none⟩ v' k hne]
  refine (hgrow.block k (by simp; omega) (fun e => ?_)).trans (Below.heap_alloc W tmp k (by omega))
  have := own_base hrow k e.symm
  omega
def headers_Values.f (l0 : List S35) (a1 : ByteArray) : Option (List ByteArray) := if hdrsB l0 a1 = true then some (valsOf l0 a1) else none
attribute [local go_sem] Oper.semAt_some in
set_option maxRecDepth 100000 in
set_option maxHeartbeats 2000000 in
theorem values_ok (A0 : Option Addr) (c0 : Nat) (l0 : List S35) (a1 : ByteArray) (w : World) (hr0 : Kd.C k35 w A0 l0.length l0) (hc0 : l0.length ≤ c0) (hok : hdrsB l0 a1 = true) :
    Calls Tryz.prog 41 #[.slice A0 l0.length c0, .string a1] w fun e w' => ∃ v0_ : Value, e = .returned v0_ ∧ Kd.R Kd.string 9 w' w.heap.size (fun _ => True) v0_ (valsOf l0 a1) ∧ Below w.heap.size w w' := by
  obtain ⟨hz, hlen, hsz⟩ := hdrsB_at hok
  clear hz hsz
  obtain ⟨i0, hi, hz0, hz1, hz2⟩ := info_parts info9
  refine (callsIn_wide (n := 5)).1 ?_
  refine callsIn_of_wp_marks Tryz.func41 rfl trivial ?_ rfl
  simp only [Tryz.ntmps41, List.size_toArray, List.length_cons, List.length_nil, Nat.reduceAdd, Nat.reduceSub, Array.replicate_succ, Array.replicate_zero, List.push_toArray, List.append_toArray, List.nil_append, List.cons_append]
  have fw1 : Fence.wide.fn 51 := trivial
  have hv := fun W => values_any A0 l0.length c0 a1 W
  have HV := Aside0.mk hv
  have HR := Aside0.mk hr0
  have HOK := Aside0.mk hok
  clear hv hr0 hok
  gi_wp2_with (gi_at_call 51; refine (callsIn_wide.2 (HV.out _)).mono ?_; rintro e w' ⟨rfl, rfl⟩)
  have bO := Boxed.new w 36 (.slice none 0 0)
  have bL := Boxed.new (w.alloc (.cells #[.slice none 0 0] 36)) 22 (.slice A0 l0.length c0)
  have bN := Boxed.new ((w.alloc (.cells #[.slice none 0 0] 36)).alloc (.cells #[.slice A0 l0.length c0] 22)) 9 (.string a1)
  rw [World.size_alloc] at bL
  rw [World.size_alloc, World.size_alloc] at bN
  have hB0 : Below w.heap.size w (((w.alloc (.cells #[.slice none 0 0] 36)).alloc (.cells #[.slice A0 l0.length c0] 22)).alloc (.cells #[.string a1] 9)) := (((Below.refl _ w).alloc (Nat.le_refl _) _).alloc (by simp) _).alloc (by simp; omega) _
  refine wpIn_rangeFunc_ownG rfl (by omega) (gf := 67) (lb := #[.pointer (some ⟨w.heap.size + 1, 0, none⟩), .pointer (some ⟨w.heap.size + 1 + 1, 0, none⟩)]) rfl trivial (enters_of Tryz.func67 (by kernel_rfl) rfl)
    (values_stops 4 (by omega) w _ A0 c0 l0 a1 HOK.out HR.out w.heap.size (w.heap.size + 1) (w.heap.size + 1 + 1) hB0 (Nat.le_refl _) (bL.alloc _) bN (by omega)) KpBut.trans (KpBut.putObj (Nat.le_refl _)) (Below.refl _ _) (fun _ => rfl)
    (fun pre W => GatherAt w (w.heap.size + 3) w.heap.size pre W) (fun _ _ _ => False)
    (GatherAt.own _ _ _ _ (by simp; omega))
    (fun _ _ _ _ _ hs _ _ => hs)
    ⟨⟨_, (bO.alloc _).alloc _, World.ownsRow_nil _ _ _ _, trivial⟩, hB0, by simp⟩
    (fun x => { tmps := #[.slice A0 l0.length c0, .string a1, undef, undef, .pointer (some ⟨w.heap.size, 0, none⟩), .string x, .slice A0 l0.length c0, .string a1, .func (.func 67) #[] #[.pointer (some ⟨w.heap.size + 1, 0, none⟩), .pointer (some ⟨w.heap.size + 1 + 1, 0, none⟩)], .string x, undef, undef, undef, undef, undef], defers := [] }) ?assign ?body ?done ?stop
  case assign =>
    intro l x W K hK
    gi_wp2
    exact hK
  case body =>
    rintro l pre x W ⟨⟨v, hv, hrow, _⟩, hB, hWs⟩ hlt
    have hc := hv.cell
    gi_wp2_with (gi_at_builtin; refine wpListIn_append_own _ rfl _ _ 36 rfl (w.heap.size + 3) 9 i0 (.string ⟨#[]⟩) 1 16 Tryz.underlying36 hi hz0 hz1 hz2 rfl (by decide) _ _ _ rfl (hrow.alloc _) ⟨W.heap.size, 0, none⟩ 1 1 [.string x] rfl rfl (cell_one_new _ _ _) (by simp [Value.oneCell']) (by simp only [maxLen]; omega) (by omega) (by simp; omega) ?_; intro v' w1 hown' hgrow _; obtain ⟨g', cap', rfl⟩ := ownsRow_succ hown'; obtain ⟨hv1, hv2, hr2, hk2, hb2, hkp⟩ := gathered hv (by decide) hrow hWs (by omega) hown' hgrow; have hc1 := hv1.cell; have hf1 := hv1.frozen)
    exact ⟨hk2.from _, by simpa using hkp, ⟨_, hv2, by simpa using hr2, trivial⟩, hB.trans hb2, Nat.le_trans hWs hb2.size⟩
  case done =>
    rintro D ys W hD rfl hG hK
    obtain ⟨v, hbx, hRR, hBB⟩ := hG.done (by omega)
    obtain ⟨A1, c1, hv1⟩ := Kd.R_slice hRR
    generalize (valsOf l0 a1).length = n1 at hv1
    subst hv1
    have hc1 := hbx.cell
    have hf1 := hbx.frozen
    have HRR := Aside0.mk hRR
    have HBB := Aside0.mk hBB
    have HBX := Aside0.mk hbx
    clear hRR hBB hbx
    gi_wp2
    have hK2 := (KeepsOthers.setCell W ⟨w.heap.size, 0, none⟩ (.slice A1 n1 c1)).same D _ hK rfl
    have hD2 : D ≠ w.heap.size := by simp at hD; omega
    refine ⟨by simp, .inl ⟨_, _, rfl, run_takeDeferred hK2, ?_⟩⟩
    have hb3 : Boxed ((W.setCell ⟨w.heap.size, 0, none⟩ (.slice A1 n1 c1)).putObj D (.deferred none)) w.heap.size 36 (.slice A1 n1 c1) := (World.putObj_heap_other (Ne.symm hD2)).trans (HBX.out.set _)
    have hc3 := hb3.cell
    refine ⟨.slice A1 n1 c1, by simp [results, Tryz.results41, go_sem, hc3], ?_⟩
    exact ⟨_, rfl, R_putObj (Kd.R_set HRR.out HBX.out (by decide) 0 _) hK2 rfl _, (HBB.out.setCell (p := ⟨w.heap.size, 0, none⟩) (Nat.le_refl _) _).trans (belowK_b (w := w) (Nat.le_refl _) _ D _ _ (by simp at hD; omega) hK2 rfl rfl)⟩
  case stop =>
    rintro D c pre W _ _ h _
    exact h.elim
theorem headers_Values.calls (A0 : Option Addr) (c0 : Nat) (l0 : List S35) (a1 : ByteArray) (r : List ByteArray) (w : World) (hr0 : Kd.C k35 w A0 l0.length l0) (hc0 : l0.length ≤ c0) (h : headers_Values.f l0 a1 = some r) :
    Calls Tryz.prog 41 #[.slice A0 l0.length c0, .string a1] w fun e w' => ∃ v0_ : Value, e = .returned v0_ ∧ Kd.R Kd.string 9 w' w.heap.size (fun _ => True) v0_ r ∧ Below w.heap.size w w' := by
  unfold headers_Values.f at h
  split at h
  · rename_i hok
    obtain rfl := Option.some.inj h
    exact values_ok A0 c0 l0 a1 w hr0 hc0 hok
  · cases h
def joinBA (l : List ByteArray) (sep : ByteArray) : ByteArray := ⟨(Lib.join (l.map (·.data.toList)) sep.data.toList).toArray⟩
def strings_Join.f (l0 : List ByteArray) (a1 : ByteArray) : Option ByteArray := if (joinBA l0 a1).size ≤ 140737488355328 ∧ l0.length ≤ 8796093022208 then some (joinBA l0 a1) else none
theorem cell_spot {w : World} {a : Addr} {v : Value} (h : w.cell? a = some v) : a.spot = none := by
  unfold World.cell? at h
  split at h
  · cases hs : a.spot with
    | none => rfl
    | some x => simp [hs] at h
  · cases h
theorem strings_Join.calls (A0 : Option Addr) (c0 : Nat) (l0 : List ByteArray) (a1 : ByteArray) (r : ByteArray) (w : World) (hr0 : Kd.C Kd.string w A0 l0.length l0) (hc0 : l0.length ≤ c0) (h : strings_Join.f l0 a1 = some r) :
    Calls Tryz.prog 42 #[.slice A0 l0.length c0, .string a1] w fun e w' => e = .returned (.string r) ∧ Below w.heap.size w w' := by
  unfold strings_Join.f at h
  split at h
  · rename_i hs
    obtain rfl := Option.some.inj h
    clear h
    cases l0 with
    | nil => exact (Tryz.strings_Join_none A0 c0 a1 w).mono fun e w' ⟨h1, h2⟩ => ⟨h1, by subst h2; exact Below.refl _ _⟩
    | cons x xs =>
      obtain ⟨ad, c, e, _, hK, hc⟩ := Kd.C_get hr0 (⟨#[]⟩ : ByteArray) 0 (Int.le_refl _) (by simp)
      obtain rfl := e
      have hall : ∀ (j : Nat) y, (x :: xs)[j]? = some y → w.cell? (ad.add j) = some (.string y) := by
        intro j y hj
        have hjl : j < (x :: xs).length := (List.getElem?_eq_some_iff.1 hj).1
        obtain ⟨ad', c', e', _, hK', hc'⟩ := Kd.C_get hr0 (⟨#[]⟩ : ByteArray) (j : Int) (by omega) (by omega)
        injection e' with e'
        subst e'
        have e2 : c' = [.string y] := by
          have : (x :: xs).getD j (⟨#[]⟩ : ByteArray) = y := by rw [List.getD_eq_getElem?_getD, hj]; rfl
          simp only [Int.toNat_natCast, this] at hK'
          exact hK'
        subst e2
        have := hc' 0 _ rfl
        simpa [show (Kd.string).sz = 1 from rfl] using this
      have h0 := hall 0 x rfl
      have hsp : ad.spot = none := by have := cell_spot h0; unfold Addr.add at this; simpa using this
      obtain ⟨bk, o, sp⟩ := ad
      simp only at hsp
      subst hsp
      have hlt := World.block_lt_of_cell? w _ h0
      refine (Tryz.strings_Join bk o c0 (x :: xs) a1 w (fun j y hj => ?_) (by simpa [Addr.add] using hlt) (by omega) hc0 (by have := hs.1; unfold joinBA at this; simpa [ByteArray.size] using this)).mono fun e w' hh => hh
      have := hall j y hj
      unfold Addr.add at this
      by_cases hj0 : j = 0
      · subst hj0; simpa using this
      · simpa [hj0] using this
  · cases h
def headers_Combined.f (l0 : List (S35)) (a1 : ByteArray) : Option (ByteArray × Bool) := (headers_Values.f l0 a1).bind fun t110 => ((strings_Join.f t110 (⟨#[44, 32]⟩ : ByteArray)).bind fun t113 => (some (t113, decide ((t110.length : Int) > 0))))
set_option maxHeartbeats 8000000 in
set_option maxRecDepth 100000 in
theorem headers_Combined.calls (A0 : Option Addr) (c0 : Nat) (l0 : List (S35)) (a1 : ByteArray) (r1 : ByteArray) (r2 : Bool) (w : World) (hr0 : Kd.C k35 w A0 l0.length l0) (hc0 : l0.length ≤ c0) (h : headers_Combined.f l0 a1 = some (r1, r2)) :
    Calls Tryz.prog 29 #[.slice A0 l0.length c0, .string a1] w fun e w' => e = .returned (.tuple #[.string r1, .bool r2]) ∧ Below w.heap.size w w' := by
  have HR0 := Aside0.mk hr0
  have HC0 := Aside0.mk hc0
  clear hr0 hc0
  have HB := Aside0.mk (Below.refl w.heap.size w)
  have H : ((headers_Values.f l0 a1).bind fun t110 => ((strings_Join.f t110 (⟨#[44, 32]⟩ : ByteArray)).bind fun t113 => (some (t113, decide ((t110.length : Int) > 0))))) = some (r1, r2) := h
  clear h
  replace H := Option.bind_eq_some_iff.mp H
  obtain ⟨t110, A30, H⟩ := H
  replace H : ((strings_Join.f t110 (⟨#[44, 32]⟩ : ByteArray)).bind fun t113 => (some (t113, decide ((t110.length : Int) > 0)))) = some (r1, r2) := H
  have A3 := Aside0.mk A30
  clear A30
  replace H := Option.bind_eq_some_iff.mp H
  obtain ⟨t113, A40, H⟩ := H
  replace H : (some (t113, decide ((t110.length : Int) > 0))) = some (r1, r2) := H
  have A4 := Aside0.mk A40
  clear A40
  simp only [Option.some.injEq, Prod.mk.injEq] at H
  obtain ⟨rfl, rfl⟩ := H
  go_enter Tryz.func29, Tryz.ntmps29
  go_wp2_with (first | ((with_reducible refine gate_callee (f := 41) rfl ?_); refine goesL_ (some 9) rfl rfl Tryz.func41 (by kernel_rfl) rfl #[.slice A0 l0.length c0, .string a1] rfl (by (try simp only [List.map_toArray, List.map_cons, List.map_nil]); first | done | rfl | (simp only [List.length_drop, List.length_take]; rfl)) ?_; (with_reducible refine (headers_Values.calls _ _ l0 a1 t110 _ ?side1 ?side2 A3.out).mono ?_); (case side1 => repeat (first | exact HR0.out | (with_reducible refine Kd.C_alloc ?_ _) | (with_reducible refine Kd.C_drewN ?_ _) | (with_reducible refine Kd.C_drew ?_))); (case side2 => exact HC0.out); rintro e w5 ⟨v111, rfl, ho0, hb⟩; refine ⟨_, rfl, ?_⟩; have n0_ := Aside0.mk (Kd.R_lower ho0 (below_size (by repeat (first | (with_reducible first | exact HB.out | apply below_alloc | apply pw_below_drewN | apply below_drew1) | exact HB.out)))); have n1_ := Aside0.mk (below_step (by repeat (first | (with_reducible first | exact HB.out | apply below_alloc | apply pw_below_drewN | apply below_drew1) | exact HB.out)) hb); clear HB; have HO112 := n0_; have HB := n1_; clear n0_ n1_; (try clear hb); (try clear hb2); (try clear hk); (try clear hi); (try clear ho0); obtain ⟨Ao6, co6, eo6⟩ := Kd.R_slice HO112.out; subst eo6) | ((with_reducible refine gate_callee (f := 42) rfl ?_); refine goesL_ (some 11) rfl rfl Tryz.func42 (by kernel_rfl) rfl #[.slice Ao6 t110.length co6, .string (⟨#[44, 32]⟩ : ByteArray)] rfl (by (try simp only [List.map_toArray, List.map_cons, List.map_nil]); first | done | rfl | (simp only [List.length_drop, List.length_take]; rfl)) ?_; (with_reducible refine (strings_Join.calls _ _ t110 (⟨#[44, 32]⟩ : ByteArray) t113 _ ?side1 ?side2 A4.out).mono ?_); (case side1 => repeat (first | exact (Kd.R_reads' HO112.out).2.2 | (with_reducible refine Kd.C_alloc ?_ _) | (with_reducible refine Kd.C_drewN ?_ _) | (with_reducible refine Kd.C_drew ?_))); (case side2 => exact (Kd.R_reads' HO112.out).2.1); rintro e w7 ⟨rfl, hb⟩; refine ⟨_, rfl, ?_⟩; have n0_ := Aside0.mk (Kd.R_below (by (with_reducible repeat (first | apply Kd.R_alloc | apply Kd.R_drewN | apply Kd.R_drew)); exact HO112.out) hb); have n1_ := Aside0.mk (below_step (by repeat (first | (with_reducible first | exact HB.out | apply below_alloc | apply pw_below_drewN | apply below_drew1) | exact HB.out)) hb); clear HO112; clear HB; have HO112 := n0_; have HB := n1_; clear n0_ n1_; (try clear hb); (try clear hb2); (try clear hk); (try clear hi)))
  go_ret2
  exact ⟨by first | rfl | (simp [errW_none, errW_some] <;> rfl) | (simp [*, errW_none, errW_some] <;> rfl) | (simp [q_ne_nil]; done), by repeat (first | (with_reducible first | exact HB.out | apply below_alloc | apply pw_below_drewN | apply below_drew1) | exact HB.out)⟩
/-- A text without the blanks (bytes 32) at its ends. -/
def trimSp (s : ByteArray) : ByteArray := ⟨(Lib.trimB s.data.toList 32).toArray⟩
def strings_Trim.f (a0 a1 : ByteArray) : Option ByteArray := if a1 = ⟨#[32]⟩ ∧ a0.size ≤ 9223372036854775807 then some (trimSp a0) else none
theorem strings_Trim.calls (a0 : ByteArray) (a1 : ByteArray) (r : ByteArray) (w : World) (h : strings_Trim.f a0 a1 = some r) :
    Calls Tryz.prog 26 #[.string a0, .string a1] w fun e w' => e = .returned (.string r) ∧ Below w.heap.size w w' := by
  unfold strings_Trim.f at h
  by_cases hs : a1 = ⟨#[32]⟩ ∧ a0.size ≤ 9223372036854775807
  · rw [if_pos hs] at h
    obtain ⟨rfl, hz⟩ := hs
    obtain rfl := Option.some.inj h
    refine (Tryz.strings_Trim_one a0 32 (by decide) w hz).mono ?_
    rintro e w' ⟨he, hw⟩
    refine ⟨he, ?_⟩
    rcases hw with rfl | rfl
    · exact Below.refl _ _
    · exact below_drew1 (Below.refl _ _)
  · rw [if_neg hs] at h; cases h
end Go.Proofs.YtciigmlibnpeeaaGreatDoor.Q
