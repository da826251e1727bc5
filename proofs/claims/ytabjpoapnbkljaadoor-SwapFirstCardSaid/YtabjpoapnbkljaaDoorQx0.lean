-- Laid by this seat's own driver (wip/tools/drive.py) out of the translation.
import Derived.Test.YtabjpoapnbkljaaDoorProg
import Derived.Below
import Derived.Deep.Draws
import Derived.Deep.AppendLies
import Derived.Maps.AppendAt
import Derived.OwnWalk
import Derived.Laws.BytesArg
import Derived.Laws.MakeOwn
import Derived.Laws.OwnMore
import Derived.Deep.OwnRows
import Derived.Tactics
import Derived.Lib.ConvBytes
import Derived.Laws.Slices
import Derived.WalkKit
import Derived.KernelRfl
import Derived.RowKit3
import Derived.Deep.LoopGhost
import Derived.Deep.QuietTactic
import Derived.BigQuiet
import Derived.WideLaws
import Derived.Deep.DeepCutAuto
import Derived.Deep.CutBlock
import Derived.Deep.RegionHeld3
import Derived.Laws.Rows
import Derived.Lib.AppendStr
import Derived.ArgAppend
import Derived.Laws.IdiomCopy
import Derived.OrdersHeld
import Derived.Laws.BitsLemmas
import Derived.RowKit
import Derived.Test.YtabjpoapnbkljaaDoorShelf
import Derived.RangeFuncNested
import Derived.RangeFuncBound
import Derived.RangeFuncCalls
import Derived.RangeFuncLeaves
import Derived.RangeFuncBox
import Derived.Shelf.Abstract
import Derived.OwnWalkIn
import Derived.TacticsInMore
import Derived.LoopNIn
import Derived.LoopIn
import Derived.Maps.AppendAt
import Derived.Stop.RegionWithIn
import Derived.Maps.OwnOps
import Derived.Maps.OwnSet
import Derived.Deep.RegionHeld3
import Derived.Test.YtabjpoapnbkljaaDoorWWords
import Derived.Test.YtabjpoapnbkljaaDoorWLast
import Derived.Test.YtabjpoapnbkljaaDoorWTab
import Derived.Test.YtabjpoapnbkljaaDoorWFour
import Derived.Test.YtabjpoapnbkljaaDoorWQPut
import Derived.Test.YtabjpoapnbkljaaDoorWApart
import Derived.Test.YtabjpoapnbkljaaDoorWArr
import Derived.Test.YtabjpoapnbkljaaDoorWZeros
import Derived.Test.YtabjpoapnbkljaaDoorWFoot
import Derived.Test.YtabjpoapnbkljaaDoorWKept
import Derived.Test.YtabjpoapnbkljaaDoorWShare
import Derived.Test.YtabjpoapnbkljaaDoorWN
import Derived.Test.YtabjpoapnbkljaaDoorWFootNe
import Derived.Test.YtabjpoapnbkljaaDoorWAt
import Derived.Test.YtabjpoapnbkljaaDoorWEqStruct
import Derived.Test.YtabjpoapnbkljaaDoorWRepsOne
import Derived.Test.YtabjpoapnbkljaaDoorWInv
import Derived.Test.YtabjpoapnbkljaaDoorWInvWords
import Derived.Test.YtabjpoapnbkljaaDoorWGuard
import Derived.Test.YtabjpoapnbkljaaDoorWNEv
import Derived.Test.YtabjpoapnbkljaaDoorWMore
namespace Go.Proofs.YtabjpoapnbkljaaDoor.Q
open Go.RowKit Go.Proofs.YtabjpoapnbkljaaDoorW.PrintWords Go.Proofs.YtabjpoapnbkljaaDoorW.PrintLast Go.Proofs.YtabjpoapnbkljaaDoorW.PrintMore
attribute [local go_sem] max2_int min2_int max_two min_two max_three min_three max_four min_four   -- for this text's walks alone
set_option linter.unusedVariables false
set_option linter.unusedSimpArgs false

theorem q_ne_nil (l : List UInt8) : (l != []) = !l.isEmpty := by cases l <;> rfl



def errW : Option Int → Value
  | none => .nilIface
  | some c => .iface 0 (.int .i64 c)
theorem errW_none : errW none = .nilIface := rfl
theorem errW_some (c : Int) : errW (some c) = .iface 0 (.int .i64 c) := rfl

theorem info9 : (Tryd.prog.info? 9).map (fun i => (i.zero, i.size, i.bytes)) = some (some (.string ⟨#[]⟩), 1, 16) := by kernel_rfl
-- the values' own types
/-! #### struct type 23 -/
structure S23 where
  f0 : Int
  f1 : ByteArray
  f2 : Int
  f3 : ByteArray
def z23 : S23 := ⟨(0 : Int), (⟨#[]⟩ : ByteArray), (0 : Int), (⟨#[]⟩ : ByteArray)⟩
def k23 : Kd S23 := Kd.iso (Kd.pair (Kd.int .i64) (Kd.pair Kd.string (Kd.pair (Kd.int .i64) Kd.string))) (fun x : S23 => (x.f0, x.f1, x.f2, x.f3))
theorem k23_open {w : World} {x : S23} {cs : List Value} (h : k23.K w x cs) : cs = [.int .i64 x.f0, .string x.f1, .int .i64 x.f2, .string x.f3] := by
  obtain ⟨_, _, rfl, rfl, ⟨_, _, rfl, rfl, ⟨_, _, rfl, rfl, rfl⟩⟩⟩ := h
  exact rfl
theorem k23_openM {w : World} {base : Nat} {ok : Nat → Prop} {x : S23} {cs : List Value} (h : k23.M w base ok x cs) : cs = [.int .i64 x.f0, .string x.f1, .int .i64 x.f2, .string x.f3] := by
  obtain ⟨_, _, rfl, rfl, ⟨_, _, rfl, rfl, ⟨_, _, rfl, rfl, rfl⟩⟩⟩ := h
  exact rfl
theorem k23_mk (w : World) (x : S23)  : k23.K w x [.int .i64 x.f0, .string x.f1, .int .i64 x.f2, .string x.f3] := ⟨[.int .i64 x.f0], [.string x.f1, .int .i64 x.f2, .string x.f3], rfl, rfl, ⟨[.string x.f1], [.int .i64 x.f2, .string x.f3], rfl, rfl, ⟨[.int .i64 x.f2], [.string x.f3], rfl, rfl, rfl⟩⟩⟩
theorem k23_mkM (w : World) (base : Nat) (ok : Nat → Prop) (x : S23)  : k23.M w base ok x [.int .i64 x.f0, .string x.f1, .int .i64 x.f2, .string x.f3] := ⟨[.int .i64 x.f0], [.string x.f1, .int .i64 x.f2, .string x.f3], rfl, rfl, ⟨[.string x.f1], [.int .i64 x.f2, .string x.f3], rfl, rfl, ⟨[.int .i64 x.f2], [.string x.f3], rfl, rfl, rfl⟩⟩⟩
def rd_T23 (xs : List S23) (i : Int) : S23 := xs.getD i.toNat z23
theorem at_T23 {w : World} {A : Option Addr} {n : Nat} {xs : List S23} (h : Kd.C k23 w A n xs) (i : Int) (h0 : 0 ≤ i) (h1 : i < n) : ∃ ad , A = some ad ∧ w.cell? (ad.add (i.toNat * 4)) = some (.int .i64 (rd_T23 xs i).f0) ∧ w.cell? ⟨(ad.add (i.toNat * 4)).block, (ad.add (i.toNat * 4)).off + 1, none⟩ = some (.string (rd_T23 xs i).f1) ∧ w.cell? ⟨(ad.add (i.toNat * 4)).block, (ad.add (i.toNat * 4)).off + 2, none⟩ = some (.int .i64 (rd_T23 xs i).f2) ∧ w.cell? ⟨(ad.add (i.toNat * 4)).block, (ad.add (i.toNat * 4)).off + 3, none⟩ = some (.string (rd_T23 xs i).f3) := by
  obtain ⟨ad, c, e, _, hK, hc0⟩ := Kd.C_get h z23 i h0 h1
  have hc : ∀ j u, c[j]? = some u → w.cell? (ad.add (i.toNat * 4 + j)) = some u := hc0
  obtain rfl := k23_open hK
  exact ⟨ad, e, hc 0 _ rfl, by rw [← add_field _ _ 1 (by omega)]; exact hc 1 _ rfl, by rw [← add_field _ _ 2 (by omega)]; exact hc 2 _ rfl, by rw [← add_field _ _ 3 (by omega)]; exact hc 3 _ rfl⟩

/-! #### struct type 26 -/
structure S26 where
  f0 : ByteArray
  f1 : Bool
  f2 : Int
def z26 : S26 := ⟨(⟨#[]⟩ : ByteArray), false, (0 : Int)⟩
def k26 : Kd S26 := Kd.iso (Kd.pair Kd.string (Kd.pair Kd.bool (Kd.int .u32))) (fun x : S26 => (x.f0, x.f1, x.f2))
theorem k26_open {w : World} {x : S26} {cs : List Value} (h : k26.K w x cs) : cs = [.string x.f0, .bool x.f1, .int .u32 x.f2] := by
  obtain ⟨_, _, rfl, rfl, ⟨_, _, rfl, rfl, rfl⟩⟩ := h
  exact rfl
theorem k26_openM {w : World} {base : Nat} {ok : Nat → Prop} {x : S26} {cs : List Value} (h : k26.M w base ok x cs) : cs = [.string x.f0, .bool x.f1, .int .u32 x.f2] := by
  obtain ⟨_, _, rfl, rfl, ⟨_, _, rfl, rfl, rfl⟩⟩ := h
  exact rfl
theorem k26_mk (w : World) (x : S26)  : k26.K w x [.string x.f0, .bool x.f1, .int .u32 x.f2] := ⟨[.string x.f0], [.bool x.f1, .int .u32 x.f2], rfl, rfl, ⟨[.bool x.f1], [.int .u32 x.f2], rfl, rfl, rfl⟩⟩
theorem k26_mkM (w : World) (base : Nat) (ok : Nat → Prop) (x : S26)  : k26.M w base ok x [.string x.f0, .bool x.f1, .int .u32 x.f2] := ⟨[.string x.f0], [.bool x.f1, .int .u32 x.f2], rfl, rfl, ⟨[.bool x.f1], [.int .u32 x.f2], rfl, rfl, rfl⟩⟩
def rd_T26 (xs : List S26) (i : Int) : S26 := xs.getD i.toNat z26
theorem at_T26 {w : World} {A : Option Addr} {n : Nat} {xs : List S26} (h : Kd.C k26 w A n xs) (i : Int) (h0 : 0 ≤ i) (h1 : i < n) : ∃ ad , A = some ad ∧ w.cell? (ad.add (i.toNat * 3)) = some (.string (rd_T26 xs i).f0) ∧ w.cell? ⟨(ad.add (i.toNat * 3)).block, (ad.add (i.toNat * 3)).off + 1, none⟩ = some (.bool (rd_T26 xs i).f1) ∧ w.cell? ⟨(ad.add (i.toNat * 3)).block, (ad.add (i.toNat * 3)).off + 2, none⟩ = some (.int .u32 (rd_T26 xs i).f2) := by
  obtain ⟨ad, c, e, _, hK, hc0⟩ := Kd.C_get h z26 i h0 h1
  have hc : ∀ j u, c[j]? = some u → w.cell? (ad.add (i.toNat * 3 + j)) = some u := hc0
  obtain rfl := k26_open hK
  exact ⟨ad, e, hc 0 _ rfl, by rw [← add_field _ _ 1 (by omega)]; exact hc 1 _ rfl, by rw [← add_field _ _ 2 (by omega)]; exact hc 2 _ rfl⟩

/-! #### struct type 28 -/
structure S28 where
  f0 : Bool
  f1 : Int
  f2 : ByteArray
  f3 : S26
  f4 : Int
def z28 : S28 := ⟨false, (0 : Int), (⟨#[]⟩ : ByteArray), z26, (0 : Int)⟩
def k28 : Kd S28 := Kd.iso (Kd.pair Kd.bool (Kd.pair (Kd.int .i64) (Kd.pair Kd.string (Kd.pair k26 (Kd.int .i64))))) (fun x : S28 => (x.f0, x.f1, x.f2, x.f3, x.f4))
theorem k28_open {w : World} {x : S28} {cs : List Value} (h : k28.K w x cs) : cs = [.bool x.f0, .int .i64 x.f1, .string x.f2, .string x.f3.f0, .bool x.f3.f1, .int .u32 x.f3.f2, .int .i64 x.f4] := by
  obtain ⟨_, _, rfl, rfl, ⟨_, _, rfl, rfl, ⟨_, _, rfl, rfl, ⟨_, _, rfl, s3, rfl⟩⟩⟩⟩ := h
  obtain rfl := k26_open s3
  exact rfl
theorem k28_openM {w : World} {base : Nat} {ok : Nat → Prop} {x : S28} {cs : List Value} (h : k28.M w base ok x cs) : cs = [.bool x.f0, .int .i64 x.f1, .string x.f2, .string x.f3.f0, .bool x.f3.f1, .int .u32 x.f3.f2, .int .i64 x.f4] := by
  obtain ⟨_, _, rfl, rfl, ⟨_, _, rfl, rfl, ⟨_, _, rfl, rfl, ⟨_, _, rfl, s3, rfl⟩⟩⟩⟩ := h
  obtain rfl := k26_openM s3
  exact rfl
theorem k28_mk (w : World) (x : S28)  : k28.K w x [.bool x.f0, .int .i64 x.f1, .string x.f2, .string x.f3.f0, .bool x.f3.f1, .int .u32 x.f3.f2, .int .i64 x.f4] := ⟨[.bool x.f0], [.int .i64 x.f1, .string x.f2, .string x.f3.f0, .bool x.f3.f1, .int .u32 x.f3.f2, .int .i64 x.f4], rfl, rfl, ⟨[.int .i64 x.f1], [.string x.f2, .string x.f3.f0, .bool x.f3.f1, .int .u32 x.f3.f2, .int .i64 x.f4], rfl, rfl, ⟨[.string x.f2], [.string x.f3.f0, .bool x.f3.f1, .int .u32 x.f3.f2, .int .i64 x.f4], rfl, rfl, ⟨[.string x.f3.f0, .bool x.f3.f1, .int .u32 x.f3.f2], [.int .i64 x.f4], rfl, (k26_mk w x.f3 ), rfl⟩⟩⟩⟩
theorem k28_mkM (w : World) (base : Nat) (ok : Nat → Prop) (x : S28)  : k28.M w base ok x [.bool x.f0, .int .i64 x.f1, .string x.f2, .string x.f3.f0, .bool x.f3.f1, .int .u32 x.f3.f2, .int .i64 x.f4] := ⟨[.bool x.f0], [.int .i64 x.f1, .string x.f2, .string x.f3.f0, .bool x.f3.f1, .int .u32 x.f3.f2, .int .i64 x.f4], rfl, rfl, ⟨[.int .i64 x.f1], [.string x.f2, .string x.f3.f0, .bool x.f3.f1, .int .u32 x.f3.f2, .int .i64 x.f4], rfl, rfl, ⟨[.string x.f2], [.string x.f3.f0, .bool x.f3.f1, .int .u32 x.f3.f2, .int .i64 x.f4], rfl, rfl, ⟨[.string x.f3.f0, .bool x.f3.f1, .int .u32 x.f3.f2], [.int .i64 x.f4], rfl, (k26_mkM w base ok x.f3 ), rfl⟩⟩⟩⟩
def rd_T28 (xs : List S28) (i : Int) : S28 := xs.getD i.toNat z28
theorem at_T28 {w : World} {A : Option Addr} {n : Nat} {xs : List S28} (h : Kd.C k28 w A n xs) (i : Int) (h0 : 0 ≤ i) (h1 : i < n) : ∃ ad , A = some ad ∧ w.cell? (ad.add (i.toNat * 7)) = some (.bool (rd_T28 xs i).f0) ∧ w.cell? ⟨(ad.add (i.toNat * 7)).block, (ad.add (i.toNat * 7)).off + 1, none⟩ = some (.int .i64 (rd_T28 xs i).f1) ∧ w.cell? ⟨(ad.add (i.toNat * 7)).block, (ad.add (i.toNat * 7)).off + 2, none⟩ = some (.string (rd_T28 xs i).f2) ∧ w.cell? ⟨(ad.add (i.toNat * 7)).block, (ad.add (i.toNat * 7)).off + 3, none⟩ = some (.string (rd_T28 xs i).f3.f0) ∧ w.cell? ⟨(ad.add (i.toNat * 7)).block, (ad.add (i.toNat * 7)).off + 4, none⟩ = some (.bool (rd_T28 xs i).f3.f1) ∧ w.cell? ⟨(ad.add (i.toNat * 7)).block, (ad.add (i.toNat * 7)).off + 5, none⟩ = some (.int .u32 (rd_T28 xs i).f3.f2) ∧ w.cell? ⟨(ad.add (i.toNat * 7)).block, (ad.add (i.toNat * 7)).off + 6, none⟩ = some (.int .i64 (rd_T28 xs i).f4) := by
  obtain ⟨ad, c, e, _, hK, hc0⟩ := Kd.C_get h z28 i h0 h1
  have hc : ∀ j u, c[j]? = some u → w.cell? (ad.add (i.toNat * 7 + j)) = some u := hc0
  obtain rfl := k28_open hK
  exact ⟨ad, e, hc 0 _ rfl, by rw [← add_field _ _ 1 (by omega)]; exact hc 1 _ rfl, by rw [← add_field _ _ 2 (by omega)]; exact hc 2 _ rfl, by rw [← add_field _ _ 3 (by omega)]; exact hc 3 _ rfl, by rw [← add_field _ _ 4 (by omega)]; exact hc 4 _ rfl, by rw [← add_field _ _ 5 (by omega)]; exact hc 5 _ rfl, by rw [← add_field _ _ 6 (by omega)]; exact hc 6 _ rfl⟩

/-! #### struct type 42 -/
structure S42 where
  f0 : ByteArray
  f1 : S26
  f2 : Int
  f3 : ByteArray
  f4 : Bool
  f5 : ByteArray
  f6 : ByteArray
def z42 : S42 := ⟨(⟨#[]⟩ : ByteArray), z26, (0 : Int), (⟨#[]⟩ : ByteArray), false, (⟨#[]⟩ : ByteArray), (⟨#[]⟩ : ByteArray)⟩
def k42 : Kd S42 := Kd.iso (Kd.pair Kd.string (Kd.pair k26 (Kd.pair (Kd.int .i64) (Kd.pair Kd.string (Kd.pair Kd.bool (Kd.pair Kd.string Kd.string)))))) (fun x : S42 => (x.f0, x.f1, x.f2, x.f3, x.f4, x.f5, x.f6))
theorem k42_open {w : World} {x : S42} {cs : List Value} (h : k42.K w x cs) : cs = [.string x.f0, .string x.f1.f0, .bool x.f1.f1, .int .u32 x.f1.f2, .int .i64 x.f2, .string x.f3, .bool x.f4, .string x.f5, .string x.f6] := by
  obtain ⟨_, _, rfl, rfl, ⟨_, _, rfl, s1, ⟨_, _, rfl, rfl, ⟨_, _, rfl, rfl, ⟨_, _, rfl, rfl, ⟨_, _, rfl, rfl, rfl⟩⟩⟩⟩⟩⟩ := h
  obtain rfl := k26_open s1
  exact rfl
theorem k42_openM {w : World} {base : Nat} {ok : Nat → Prop} {x : S42} {cs : List Value} (h : k42.M w base ok x cs) : cs = [.string x.f0, .string x.f1.f0, .bool x.f1.f1, .int .u32 x.f1.f2, .int .i64 x.f2, .string x.f3, .bool x.f4, .string x.f5, .string x.f6] := by
  obtain ⟨_, _, rfl, rfl, ⟨_, _, rfl, s1, ⟨_, _, rfl, rfl, ⟨_, _, rfl, rfl, ⟨_, _, rfl, rfl, ⟨_, _, rfl, rfl, rfl⟩⟩⟩⟩⟩⟩ := h
  obtain rfl := k26_openM s1
  exact rfl
theorem k42_mk (w : World) (x : S42)  : k42.K w x [.string x.f0, .string x.f1.f0, .bool x.f1.f1, .int .u32 x.f1.f2, .int .i64 x.f2, .string x.f3, .bool x.f4, .string x.f5, .string x.f6] := ⟨[.string x.f0], [.string x.f1.f0, .bool x.f1.f1, .int .u32 x.f1.f2, .int .i64 x.f2, .string x.f3, .bool x.f4, .string x.f5, .string x.f6], rfl, rfl, ⟨[.string x.f1.f0, .bool x.f1.f1, .int .u32 x.f1.f2], [.int .i64 x.f2, .string x.f3, .bool x.f4, .string x.f5, .string x.f6], rfl, (k26_mk w x.f1 ), ⟨[.int .i64 x.f2], [.string x.f3, .bool x.f4, .string x.f5, .string x.f6], rfl, rfl, ⟨[.string x.f3], [.bool x.f4, .string x.f5, .string x.f6], rfl, rfl, ⟨[.bool x.f4], [.string x.f5, .string x.f6], rfl, rfl, ⟨[.string x.f5], [.string x.f6], rfl, rfl, rfl⟩⟩⟩⟩⟩⟩
theorem k42_mkM (w : World) (base : Nat) (ok : Nat → Prop) (x : S42)  : k42.M w base ok x [.string x.f0, .string x.f1.f0, .bool x.f1.f1, .int .u32 x.f1.f2, .int .i64 x.f2, .string x.f3, .bool x.f4, .string x.f5, .string x.f6] := ⟨[.string x.f0], [.string x.f1.f0, .bool x.f1.f1, .int .u32 x.f1.f2, .int .i64 x.f2, .string x.f3, .bool x.f4, .string x.f5, .string x.f6], rfl, rfl, ⟨[.string x.f1.f0, .bool x.f1.f1, .int .u32 x.f1.f2], [.int .i64 x.f2, .string x.f3, .bool x.f4, .string x.f5, .string x.f6], rfl, (k26_mkM w base ok x.f1 ), ⟨[.int .i64 x.f2], [.string x.f3, .bool x.f4, .string x.f5, .string x.f6], rfl, rfl, ⟨[.string x.f3], [.bool x.f4, .string x.f5, .string x.f6], rfl, rfl, ⟨[.bool x.f4], [.string x.f5, .string x.f6], rfl, rfl, ⟨[.string x.f5], [.string x.f6], rfl, rfl, rfl⟩⟩⟩⟩⟩⟩
def rd_T42 (xs : List S42) (i : Int) : S42 := xs.getD i.toNat z42
theorem at_T42 {w : World} {A : Option Addr} {n : Nat} {xs : List S42} (h : Kd.C k42 w A n xs) (i : Int) (h0 : 0 ≤ i) (h1 : i < n) : ∃ ad , A = some ad ∧ w.cell? (ad.add (i.toNat * 9)) = some (.string (rd_T42 xs i).f0) ∧ w.cell? ⟨(ad.add (i.toNat * 9)).block, (ad.add (i.toNat * 9)).off + 1, none⟩ = some (.string (rd_T42 xs i).f1.f0) ∧ w.cell? ⟨(ad.add (i.toNat * 9)).block, (ad.add (i.toNat * 9)).off + 2, none⟩ = some (.bool (rd_T42 xs i).f1.f1) ∧ w.cell? ⟨(ad.add (i.toNat * 9)).block, (ad.add (i.toNat * 9)).off + 3, none⟩ = some (.int .u32 (rd_T42 xs i).f1.f2) ∧ w.cell? ⟨(ad.add (i.toNat * 9)).block, (ad.add (i.toNat * 9)).off + 4, none⟩ = some (.int .i64 (rd_T42 xs i).f2) ∧ w.cell? ⟨(ad.add (i.toNat * 9)).block, (ad.add (i.toNat * 9)).off + 5, none⟩ = some (.string (rd_T42 xs i).f3) ∧ w.cell? ⟨(ad.add (i.toNat * 9)).block, (ad.add (i.toNat * 9)).off + 6, none⟩ = some (.bool (rd_T42 xs i).f4) ∧ w.cell? ⟨(ad.add (i.toNat * 9)).block, (ad.add (i.toNat * 9)).off + 7, none⟩ = some (.string (rd_T42 xs i).f5) ∧ w.cell? ⟨(ad.add (i.toNat * 9)).block, (ad.add (i.toNat * 9)).off + 8, none⟩ = some (.string (rd_T42 xs i).f6) := by
  obtain ⟨ad, c, e, _, hK, hc0⟩ := Kd.C_get h z42 i h0 h1
  have hc : ∀ j u, c[j]? = some u → w.cell? (ad.add (i.toNat * 9 + j)) = some u := hc0
  obtain rfl := k42_open hK
  exact ⟨ad, e, hc 0 _ rfl, by rw [← add_field _ _ 1 (by omega)]; exact hc 1 _ rfl, by rw [← add_field _ _ 2 (by omega)]; exact hc 2 _ rfl, by rw [← add_field _ _ 3 (by omega)]; exact hc 3 _ rfl, by rw [← add_field _ _ 4 (by omega)]; exact hc 4 _ rfl, by rw [← add_field _ _ 5 (by omega)]; exact hc 5 _ rfl, by rw [← add_field _ _ 6 (by omega)]; exact hc 6 _ rfl, by rw [← add_field _ _ 7 (by omega)]; exact hc 7 _ rfl, by rw [← add_field _ _ 8 (by omega)]; exact hc 8 _ rfl⟩

end Go.Proofs.YtabjpoapnbkljaaDoor.Q
