/- A text's reader: a block of its own, with the text in its one cell. -/
import Derived.Test.YtciigmlibnpeeaaDoorProg
import Derived.Below
import Derived.Deep.Draws
import Derived.Deep.AppendLies
import Derived.Maps.AppendAt
import Derived.OwnWalk
import Derived.Laws.BytesArg
import Derived.Laws.MakeOwn
import Derived.Laws.OwnMore
import Derived.Deep.OwnRows
import Derived.Tactics
import Derived.Lib.ConvBytes
import Derived.Laws.Slices
import Derived.WalkKit
import Derived.KernelRfl
import Derived.RowKit3
import Derived.Deep.LoopGhost
import Derived.Deep.QuietTactic
import Derived.BigQuiet
import Derived.WideLaws
import Derived.Deep.DeepCutAuto
import Derived.Deep.CutBlock
import Derived.Deep.RegionHeld3
import Derived.Laws.Rows
import Derived.Lib.AppendStr
import Derived.ArgAppend
import Derived.Laws.IdiomCopy
import Derived.OrdersHeld
import Derived.Laws.BitsLemmas
import Derived.RowKit
import Derived.Test.YtciigmlibnpeeaaDoorShelf
import Derived.RangeFuncNested
import Derived.RangeFuncBound
import Derived.RangeFuncCalls
import Derived.RangeFuncLeaves
import Derived.RangeFuncBox
import Derived.Shelf.Abstract
import Derived.OwnWalkIn
import Derived.TacticsInMore
import Derived.LoopNIn
import Derived.LoopIn
import Derived.Maps.AppendAt
import Derived.Stop.RegionWithIn
import Derived.Maps.OwnOps
import Derived.Maps.OwnSet
import Derived.Deep.RegionHeld3
import Derived.Recover
import Derived.Defers
import Derived.Test.YtciigmlibnpeeaaDoorWWords
import Derived.Test.YtciigmlibnpeeaaDoorWLast
import Derived.Test.YtciigmlibnpeeaaDoorWTab
import Derived.Test.YtciigmlibnpeeaaDoorWFour
import Derived.Test.YtciigmlibnpeeaaDoorWQPut
import Derived.Test.YtciigmlibnpeeaaDoorWApart
import Derived.Test.YtciigmlibnpeeaaDoorWArr
import Derived.Test.YtciigmlibnpeeaaDoorWZeros
import Derived.Test.YtciigmlibnpeeaaDoorWFoot
import Derived.Test.YtciigmlibnpeeaaDoorWKept
import Derived.Test.YtciigmlibnpeeaaDoorWShare
import Derived.Test.YtciigmlibnpeeaaDoorWN
import Derived.Test.YtciigmlibnpeeaaDoorWFootNe
import Derived.Test.YtciigmlibnpeeaaDoorWAt
import Derived.Test.YtciigmlibnpeeaaDoorWEqStruct
import Derived.Test.YtciigmlibnpeeaaDoorWRepsOne
import Derived.Test.YtciigmlibnpeeaaDoorWInv
import Derived.Test.YtciigmlibnpeeaaDoorWInvWords
import Derived.Test.YtciigmlibnpeeaaDoorWGuard
import Derived.Test.YtciigmlibnpeeaaDoorWNEv
import Derived.Test.YtciigmlibnpeeaaDoorWMore
set_option linter.unusedVariables false
set_option linter.unusedSimpArgs false
namespace Go.Proofs.YtciigmlibnpeeaaDoor.Sf
open Go.RowKit Go.Proofs.YtciigmlibnpeeaaDoorW.PrintWords Go.Proofs.YtciigmlibnpeeaaDoorW.PrintLast Go.Proofs.YtciigmlibnpeeaaDoorW.PrintMore
attribute [local go_sem] max2_int min2_int max_two min_two max_three min_three max_four min_four   -- for this text's walks alone
/-- A text's reader: a block of its own, with the text in its one cell. -/
def Rd (W : World) (g : Nat) (s : ByteArray) : Prop := W.heap[g]? = some (.cells #[.string s] 74 (0, 0))
theorem Rd.cell {W : World} {g : Nat} {s : ByteArray} (h : Rd W g s) : W.cell? ⟨g, 0, none⟩ = some (.string s) := (blk_cell h 0).trans rfl
theorem Rd.frozen {W : World} {g : Nat} {s : ByteArray} (h : Rd W g s) : W.frozen? ⟨g, 0, none⟩ = false := blk_frozen h 0
theorem Rd.set {W : World} {g : Nat} {s : ByteArray} (h : Rd W g s) (t : ByteArray) : Rd (W.setCell ⟨g, 0, none⟩ (.string t)) g t := by
  have := blk_set h 0 (.string t); simpa [Rd] using this
theorem Rd.drew {W : World} {g : Nat} {s : ByteArray} (h : Rd W g s) : Rd W.drew g s := h
theorem Rd.drewN {W : World} {g : Nat} {s : ByteArray} (h : Rd W g s) (n : Nat) : Rd (W.drewN n) g s := h
theorem Rd.alloc {W : World} {g : Nat} {s : ByteArray} (h : Rd W g s) (o : Obj) : Rd (W.alloc o) g s := blk_alloc h o
theorem Rd.far {W : World} {g : Nat} {s : ByteArray} (h : Rd W g s) {p : Addr} (hp : g ≠ p.block) (u : Value) : Rd (W.setCell p u) g s := blk_far h hp u
theorem Rd.lt {W : World} {g : Nat} {s : ByteArray} (h : Rd W g s) : g < W.heap.size := blk_lt h
/-- Nothing that was there has turned, but the reader's block. -/
structure KB (g : Nat) (w w' : World) : Prop where
  os : w'.os = w.os
  tape : w'.tape = w.tape
  output : w'.output = w.output
  size : w.heap.size ≤ w'.heap.size
  block : ∀ k, k < w.heap.size → k ≠ g → w'.heap[k]? = w.heap[k]?
theorem KB.refl (g : Nat) (w : World) : KB g w w := ⟨rfl, rfl, rfl, Nat.le_refl _, fun _ _ _ => rfl⟩
theorem KB.trans {g : Nat} {w w1 w2 : World} (h : KB g w w1) (k : KB g w1 w2) : KB g w w2 :=
  ⟨k.os.trans h.os, k.tape.trans h.tape, k.output.trans h.output, Nat.le_trans h.size k.size, fun i hi hg => (k.block i (Nat.lt_of_lt_of_le hi h.size) hg).trans (h.block i hi hg)⟩
theorem KB.below {g : Nat} {w w1 w2 : World} (h : KB g w w1) (k : Below w1.heap.size w1 w2) : KB g w w2 :=
  ⟨k.os.trans h.os, k.tape.trans h.tape, k.output.trans h.output, Nat.le_trans h.size k.size, fun i hi hg => (k.block i (Nat.lt_of_lt_of_le hi h.size)).trans (h.block i hi hg)⟩
theorem KB.set {g : Nat} {w w1 : World} (h : KB g w w1) (j : Nat) (u : Value) : KB g w (w1.setCell ⟨g, j, none⟩ u) :=
  ⟨h.os, h.tape, h.output, by simpa [World.setCell] using h.size, fun i hi hg => (Below.heap_setCell w1 ⟨g, j, none⟩ u i hg).trans (h.block i hi hg)⟩
theorem KB.far {g : Nat} {w w1 : World} (h : KB g w w1) {p : Addr} (hp : w.heap.size ≤ p.block) (u : Value) : KB g w (w1.setCell p u) :=
  ⟨h.os, h.tape, h.output, by simpa [World.setCell] using h.size, fun i hi hg => (Below.heap_setCell w1 p u i (by omega)).trans (h.block i hi hg)⟩
theorem KB.alloc {g : Nat} {w w1 : World} (h : KB g w w1) (o : Obj) : KB g w (w1.alloc o) := h.below (below_alloc (Below.refl _ _) o)
theorem KB.drew {g : Nat} {w w1 : World} (h : KB g w w1) : KB g w w1.drew := h.below (below_drew1 (Below.refl _ _))
theorem KB.drewN {g : Nat} {w w1 : World} (h : KB g w w1) (n : Nat) : KB g w (w1.drewN n) := h.below (pw_below_drewN (Below.refl _ _) n)
theorem KB.toBelow {g : Nat} {w0 w w' : World} (h : KB g w w') (hb : Below w0.heap.size w0 w) (hg : w0.heap.size ≤ g) : Below w0.heap.size w0 w' :=
  ⟨h.os.trans hb.os, h.tape.trans hb.tape, h.output.trans hb.output, Nat.le_trans hb.size h.size, fun k hk => (h.block k (Nat.lt_of_lt_of_le hk hb.size) (by omega)).trans (hb.block k hk)⟩
theorem KB.blk {g : Nat} {w w' : World} (h : KB g w w') {k : Nat} {o : Obj} (hb : w.heap[k]? = some o) (hg : k ≠ g) : w'.heap[k]? = some o := (h.block k (blk_lt hb) hg).trans hb
theorem drawn_below {w w' : World} (h : Drawn0 w w') : Below w.heap.size w w' := by
  obtain ⟨n, rfl⟩ := h
  exact pw_below_drewN (Below.refl _ _) n
/-- The panic by which a reader gives up. -/
abbrev gave : Ending := .panicked [{ v := .iface 48 (.int .i64 50), recovered := false }]
theorem fail_calls (p : Option Addr) (w : World) : Calls Tryd.prog 42 #[.pointer p] w fun e w' => e = gave ∧ w' = w := by
  go_enter Tryd.func42, Tryd.ntmps42
  go_wp2
  exact ⟨rfl, rfl, rfl⟩
/-- Does a byte stand there? If so it is passed. -/
def atF (s : ByteArray) (c : Int) : Bool := decide (0 < s.size ∧ bt s 0 = c)
def tl (s : ByteArray) : ByteArray := s.extract 1 s.size
def atR (s : ByteArray) (c : Int) : ByteArray := if atF s c = true then tl s else s
set_option maxHeartbeats 2000000 in
theorem at_calls (g : Nat) (s : ByteArray) (c : Int) (w : World) (hI : Rd w g s) :
    Calls Tryd.prog 48 #[.pointer (some ⟨g, 0, none⟩), .int .u8 c] w fun e w' => e = .returned (.bool (atF s c)) ∧ Rd w' g (atR s c) ∧ KB g w w' := by
  have hc := hI.cell
  have hf := hI.frozen
  have HI := Aside0.mk hI
  clear hI
  by_cases h0 : 0 < s.size
  · have c1 : (s.toList == ([] : List UInt8)) = false := by
      rw [beq_eq_false_iff_ne]; intro he
      have := Lib.toList_data s
      rw [he] at this
      have h2 := congrArg List.length this
      rw [← Lib.size_eq] at h2
      simp at h2; omega
    have c1b : (s.toList != ([] : List UInt8)) = true := by simp [bne, c1]
    have hx6 : ∀ h : 0 < s.size, ((s[0]'h).toNat : Int) = bt s 0 := bt_at s 0
    have q6 := eq_true h0
    have qi6 : (0 < (s.size : Int)) = True := eq_true (by omega)
    by_cases hb : bt s 0 = c
    · have e1 : atF s c = true := decide_eq_true ⟨h0, hb⟩
      have e2 : atR s c = tl s := if_pos e1
      rw [e1, e2]
      have hbb : (bt s 0 == c) = true := beq_iff_eq.mpr hb
      have h1 : (1 ≤ (s.size : Int)) = True := eq_true (by omega)
      have h1d : decide (1 ≤ (s.size : Int)) = true := decide_eq_true (by omega)
      clear hb
      go_enter Tryd.func48, Tryd.ntmps48
      go_wp2
      go_ret
      exact ⟨by simp [hbb], HI.out.set _, (KB.refl _ _).set _ _⟩
    · have e1 : atF s c = false := decide_eq_false (fun h => hb h.2)
      have e2 : atR s c = s := if_neg (by rw [e1]; decide)
      rw [e1, e2]
      have hbb : (bt s 0 == c) = false := beq_eq_false_iff_ne.mpr hb
      clear hb
      go_enter Tryd.func48, Tryd.ntmps48
      go_wp2
      go_ret
      exact ⟨by simp [hbb], HI.out, KB.refl _ _⟩
  · have c1 : (s.toList == ([] : List UInt8)) = true := by
      rw [beq_iff_eq, Lib.toList_data]
      apply List.eq_nil_of_length_eq_zero
      rw [← Lib.size_eq]; omega
    have c1b : (s.toList != ([] : List UInt8)) = false := by simp [bne, c1]
    have e1 : atF s c = false := decide_eq_false (fun h => h0 h.1)
    have e2 : atR s c = s := if_neg (by rw [e1]; decide)
    rw [e1, e2]
    go_enter Tryd.func48, Tryd.ntmps48
    go_wp2
    go_ret
    exact ⟨rfl, HI.out, KB.refl _ _⟩

end Go.Proofs.YtciigmlibnpeeaaDoor.Sf
