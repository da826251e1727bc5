/- What a reader's method gives: a value and what is left, or it gives up. -/
import Derived.Test.YtciigmlibnpeeaaDoorProg
import Derived.Below
import Derived.Deep.Draws
import Derived.Deep.AppendLies
import Derived.Maps.AppendAt
import Derived.OwnWalk
import Derived.Laws.BytesArg
import Derived.Laws.MakeOwn
import Derived.Laws.OwnMore
import Derived.Deep.OwnRows
import Derived.Tactics
import Derived.Lib.ConvBytes
import Derived.Laws.Slices
import Derived.WalkKit
import Derived.KernelRfl
import Derived.RowKit3
import Derived.Deep.LoopGhost
import Derived.Deep.QuietTactic
import Derived.BigQuiet
import Derived.WideLaws
import Derived.Deep.DeepCutAuto
import Derived.Deep.CutBlock
import Derived.Deep.RegionHeld3
import Derived.Laws.Rows
import Derived.Lib.AppendStr
import Derived.ArgAppend
import Derived.Laws.IdiomCopy
import Derived.OrdersHeld
import Derived.Laws.BitsLemmas
import Derived.RowKit
import Derived.Test.YtciigmlibnpeeaaDoorShelf
import Derived.RangeFuncNested
import Derived.RangeFuncBound
import Derived.RangeFuncCalls
import Derived.RangeFuncLeaves
import Derived.RangeFuncBox
import Derived.Shelf.Abstract
import Derived.OwnWalkIn
import Derived.TacticsInMore
import Derived.LoopNIn
import Derived.LoopIn
import Derived.Maps.AppendAt
import Derived.Stop.RegionWithIn
import Derived.Maps.OwnOps
import Derived.Maps.OwnSet
import Derived.Deep.RegionHeld3
import Derived.Recover
import Derived.Defers
import Derived.Test.YtciigmlibnpeeaaDoorWWords
import Derived.Test.YtciigmlibnpeeaaDoorWLast
import Derived.Test.YtciigmlibnpeeaaDoorWTab
import Derived.Test.YtciigmlibnpeeaaDoorWFour
import Derived.Test.YtciigmlibnpeeaaDoorWQPut
import Derived.Test.YtciigmlibnpeeaaDoorWApart
import Derived.Test.YtciigmlibnpeeaaDoorWArr
import Derived.Test.YtciigmlibnpeeaaDoorWZeros
import Derived.Test.YtciigmlibnpeeaaDoorWFoot
import Derived.Test.YtciigmlibnpeeaaDoorWKept
import Derived.Test.YtciigmlibnpeeaaDoorWShare
import Derived.Test.YtciigmlibnpeeaaDoorWN
import Derived.Test.YtciigmlibnpeeaaDoorWFootNe
import Derived.Test.YtciigmlibnpeeaaDoorWAt
import Derived.Test.YtciigmlibnpeeaaDoorWEqStruct
import Derived.Test.YtciigmlibnpeeaaDoorWRepsOne
import Derived.Test.YtciigmlibnpeeaaDoorWInv
import Derived.Test.YtciigmlibnpeeaaDoorWInvWords
import Derived.Test.YtciigmlibnpeeaaDoorWGuard
import Derived.Test.YtciigmlibnpeeaaDoorWNEv
import Derived.Test.YtciigmlibnpeeaaDoorWMore
import Derived.Test.YtciigmlibnpeeaaDoorSf1
import Derived.Test.YtciigmlibnpeeaaDoorSf2
import Derived.Test.YtciigmlibnpeeaaDoorSf3
set_option linter.unusedVariables false
set_option linter.unusedSimpArgs false
namespace Go.Proofs.YtciigmlibnpeeaaDoor.Sf
open Go.RowKit Go.Proofs.YtciigmlibnpeeaaDoorW.PrintWords Go.Proofs.YtciigmlibnpeeaaDoorW.PrintLast Go.Proofs.YtciigmlibnpeeaaDoorW.PrintMore
attribute [local go_sem] max2_int min2_int max_two min_two max_three min_three max_four min_four   -- for this text's walks alone
/-- What a reader's method gives: a value and what is left, or it gives up. -/
def Gives {α : Type} (g : Nat) (w : World) (enc : α → Value) (r : Option (α × ByteArray)) (e : Ending) (w' : World) : Prop :=
  (match r with | some (x, t) => e = .returned (enc x) ∧ Rd w' g t | none => e = gave) ∧ KB g w w'
theorem Gives.dead {α : Type} {g : Nat} {w w' : World} {enc : α → Value} {r : Option (α × ByteArray)} (h : r = none) (hk : KB g w w') : Gives g w enc r gave w' := by subst h; exact ⟨rfl, hk⟩
theorem Gives.ok {α : Type} {g : Nat} {w w' : World} {enc : α → Value} {r : Option (α × ByteArray)} {x : α} {t : ByteArray} {e : Ending} (h : r = some (x, t)) (he : e = .returned (enc x)) (hR : Rd w' g t) (hk : KB g w w') : Gives g w enc r e w' := by subst h; exact ⟨⟨he, hR⟩, hk⟩
theorem nonempty_ne (s : ByteArray) (h0 : 0 < s.size) : (s.toList == ([] : List UInt8)) = false ∧ (s.toList != ([] : List UInt8)) = true := by
  have c1 : (s.toList == ([] : List UInt8)) = false := by
    rw [beq_eq_false_iff_ne]; intro he
    have := Lib.toList_data s
    rw [he] at this
    have h2 := congrArg List.length this
    rw [← Lib.size_eq] at h2
    simp at h2; omega
  exact ⟨c1, by simp [bne, c1]⟩
theorem empty_eq (s : ByteArray) (h0 : ¬ 0 < s.size) : (s.toList == ([] : List UInt8)) = true ∧ (s.toList != ([] : List UInt8)) = false := by
  have c1 : (s.toList == ([] : List UInt8)) = true := by
    rw [beq_iff_eq, Lib.toList_data]
    apply List.eq_nil_of_length_eq_zero
    rw [← Lib.size_eq]; omega
  exact ⟨c1, by simp [bne, c1]⟩
def rdKey (s : ByteArray) : Option (ByteArray × ByteArray) := if 0 < s.size ∧ (smP (bt s 0) = true ∨ bt s 0 = 42) then some (takB keP s, drpB keP s) else none
theorem while_key (g : Nat) (s : ByteArray) (w : World) (hs : s.size ≤ 9223372036854775806) (hI : Rd w g s) :
    Calls Tryd.prog 46 #[.pointer (some ⟨g, 0, none⟩), .func (.func 64) #[] #[]] w fun e w' => e = .returned (.string (takB keP s)) ∧ Rd w' g (drpB keP s) ∧ KB g w w' := while_calls 64 keP asks_key (Go.Proofs.enters_of Tryd.func64 (by kernel_rfl) rfl) g s w hs hI
set_option maxHeartbeats 2000000 in
set_option maxRecDepth 100000 in
theorem key_calls (g : Nat) (s : ByteArray) (w : World) (hs : s.size ≤ 9223372036854775806) (hI : Rd w g s) :
    Calls Tryd.prog 52 #[.pointer (some ⟨g, 0, none⟩)] w fun e w' => Gives g w Value.string (rdKey s) e w' := by
  have hc := hI.cell
  have hf := hI.frozen
  have hW := Aside0.mk (fun q : Nat => while_key g s (w.drewN q) hs (hI.drewN q))
  have HI := Aside0.mk hI
  clear hI
  by_cases h0 : 0 < s.size
  · obtain ⟨c1, c1b⟩ := nonempty_ne s h0
    have hx6 : ∀ h : 0 < s.size, ((s[0]'h).toNat : Int) = bt s 0 := bt_at s 0
    have q6 := eq_true h0
    have qi6 : (0 < (s.size : Int)) = True := eq_true (by omega)
    have hsm := asks_small (bt s 0)
    cases h1 : smP (bt s 0) with
    | true =>
      have e : rdKey s = some (takB keP s, drpB keP s) := if_pos ⟨h0, Or.inl h1⟩
      rw [e]
      rw [h1] at hsm
      clear h1 e
      generalize bt s 0 = c at *
      go_enter Tryd.func52, Tryd.ntmps52
      go_wp2_with (first | (go_at_call 62; refine (hsm _).mono ?_; rintro e w' ⟨rfl, ⟨q, rfl⟩⟩) | (go_at_call 46; refine (hW.out _).mono ?_; rintro e w' ⟨rfl, hR, hB⟩))
      go_ret
      exact ⟨⟨rfl, hR⟩, ((KB.refl _ _).drewN _).trans hB⟩
    | false =>
      rw [h1] at hsm
      by_cases h2 : bt s 0 = 42
      · have e : rdKey s = some (takB keP s, drpB keP s) := if_pos ⟨h0, Or.inr h2⟩
        rw [e]
        have h2a : (bt s 0 != 42) = false := by simp [h2]
        clear h1 e h2
        generalize bt s 0 = c at *
        go_enter Tryd.func52, Tryd.ntmps52
        go_wp2_with (first | (go_at_call 62; refine (hsm _).mono ?_; rintro e w' ⟨rfl, ⟨q, rfl⟩⟩) | (go_at_call 46; refine (hW.out _).mono ?_; rintro e w' ⟨rfl, hR, hB⟩))
        go_ret
        exact ⟨⟨rfl, hR⟩, ((KB.refl _ _).drewN _).trans hB⟩
      · have e : rdKey s = none := if_neg (fun h => by rcases h.2 with h | h <;> simp_all)
        rw [e]
        have h2a : (bt s 0 != 42) = true := by simp [h2]
        clear h1 e h2
        generalize bt s 0 = c at *
        go_enter Tryd.func52, Tryd.ntmps52
        go_wp2_with (first | (go_at_call 62; refine (hsm _).mono ?_; rintro e w' ⟨rfl, ⟨q, rfl⟩⟩) | (go_at_call 42; refine (fail_calls _ _).mono ?_; rintro e w' ⟨rfl, rfl⟩))
        exact ⟨rfl, rfl, (KB.refl _ _).drewN _⟩
  · obtain ⟨c1, c1b⟩ := empty_eq s h0
    have e : rdKey s = none := if_neg (fun h => h0 h.1)
    rw [e]
    go_enter Tryd.func52, Tryd.ntmps52
    go_wp2_with (first | (go_at_call 42; refine (fail_calls _ _).mono ?_; rintro e w' ⟨rfl, rfl⟩))
    exact ⟨rfl, rfl, KB.refl _ _⟩

end Go.Proofs.YtciigmlibnpeeaaDoor.Sf
