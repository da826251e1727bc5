/- What the reader asks of a byte. -/
import Derived.Test.YtciigmlibnpeeaaDoorProg
import Derived.Below
import Derived.Deep.Draws
import Derived.Deep.AppendLies
import Derived.Maps.AppendAt
import Derived.OwnWalk
import Derived.Laws.BytesArg
import Derived.Laws.MakeOwn
import Derived.Laws.OwnMore
import Derived.Deep.OwnRows
import Derived.Tactics
import Derived.Lib.ConvBytes
import Derived.Laws.Slices
import Derived.WalkKit
import Derived.KernelRfl
import Derived.RowKit3
import Derived.Deep.LoopGhost
import Derived.Deep.QuietTactic
import Derived.BigQuiet
import Derived.WideLaws
import Derived.Deep.DeepCutAuto
import Derived.Deep.CutBlock
import Derived.Deep.RegionHeld3
import Derived.Laws.Rows
import Derived.Lib.AppendStr
import Derived.ArgAppend
import Derived.Laws.IdiomCopy
import Derived.OrdersHeld
import Derived.Laws.BitsLemmas
import Derived.RowKit
import Derived.Test.YtciigmlibnpeeaaDoorShelf
import Derived.RangeFuncNested
import Derived.RangeFuncBound
import Derived.RangeFuncCalls
import Derived.RangeFuncLeaves
import Derived.RangeFuncBox
import Derived.Shelf.Abstract
import Derived.OwnWalkIn
import Derived.TacticsInMore
import Derived.LoopNIn
import Derived.LoopIn
import Derived.Maps.AppendAt
import Derived.Stop.RegionWithIn
import Derived.Maps.OwnOps
import Derived.Maps.OwnSet
import Derived.Deep.RegionHeld3
import Derived.Recover
import Derived.Defers
import Derived.Test.YtciigmlibnpeeaaDoorWWords
import Derived.Test.YtciigmlibnpeeaaDoorWLast
import Derived.Test.YtciigmlibnpeeaaDoorWTab
import Derived.Test.YtciigmlibnpeeaaDoorWFour
import Derived.Test.YtciigmlibnpeeaaDoorWQPut
import Derived.Test.YtciigmlibnpeeaaDoorWApart
import Derived.Test.YtciigmlibnpeeaaDoorWArr
import Derived.Test.YtciigmlibnpeeaaDoorWZeros
import Derived.Test.YtciigmlibnpeeaaDoorWFoot
import Derived.Test.YtciigmlibnpeeaaDoorWKept
import Derived.Test.YtciigmlibnpeeaaDoorWShare
import Derived.Test.YtciigmlibnpeeaaDoorWN
import Derived.Test.YtciigmlibnpeeaaDoorWFootNe
import Derived.Test.YtciigmlibnpeeaaDoorWAt
import Derived.Test.YtciigmlibnpeeaaDoorWEqStruct
import Derived.Test.YtciigmlibnpeeaaDoorWRepsOne
import Derived.Test.YtciigmlibnpeeaaDoorWInv
import Derived.Test.YtciigmlibnpeeaaDoorWInvWords
import Derived.Test.YtciigmlibnpeeaaDoorWGuard
import Derived.Test.YtciigmlibnpeeaaDoorWNEv
import Derived.Test.YtciigmlibnpeeaaDoorWMore
import Derived.Test.YtciigmlibnpeeaaDoorSf1
set_option linter.unusedVariables false
set_option linter.unusedSimpArgs false
namespace Go.Proofs.YtciigmlibnpeeaaDoor.Sf
open Go.RowKit Go.Proofs.YtciigmlibnpeeaaDoorW.PrintWords Go.Proofs.YtciigmlibnpeeaaDoorW.PrintLast Go.Proofs.YtciigmlibnpeeaaDoorW.PrintMore
attribute [local go_sem] max2_int min2_int max_two min_two max_three min_three max_four min_four   -- for this text's walks alone
/-- What the reader asks of a byte. -/
def dgP (c : Int) : Bool := decide (48 ≤ c ∧ c ≤ 57)
def smP (c : Int) : Bool := decide (97 ≤ c ∧ c ≤ 122)
def leP (c : Int) : Bool := smP (Go.bits .or .u8 c 32)
def wiP (c : Int) (s : ByteArray) : Bool := decide (0 ≤ Lib.indexByte s.data.toList c.toNat.toUInt8)
def tokP (c : Int) : Bool := leP c || dgP c || wiP c ⟨#[58, 47, 33, 35, 36, 37, 38, 39, 42, 43, 45, 46, 94, 95, 124, 126, 96]⟩
def baP (c : Int) : Bool := leP c || dgP c || wiP c ⟨#[43, 47, 61]⟩
def keP (c : Int) : Bool := smP c || dgP c || wiP c ⟨#[95, 45, 46, 42]⟩
def spP (c : Int) : Bool := c == 32
/-- A function of the program that answers so at each byte, and leaves all as it was. -/
def Asks (n : Nat) (p : Int → Bool) : Prop := ∀ (c : Int) (W : World), Calls Tryd.prog n #[.int .u8 c] W fun e w' => e = .returned (.bool (p c)) ∧ Drawn0 W w'
theorem asks_digit : Asks 43 dgP := by
  intro c W
  have e : dgP c = (decide (48 ≤ c) && decide (c ≤ 57)) := Bool.decide_and ..
  rw [e]
  by_cases h : 48 ≤ c
  · have h1 : decide (48 ≤ c) = true := decide_eq_true h
    clear h
    go_enter Tryd.func43, Tryd.ntmps43
    go_wp2
    go_ret
    exact ⟨by rw [h1]; rfl, Drawn0.refl _⟩
  · have h1 : decide (48 ≤ c) = false := decide_eq_false h
    clear h
    go_enter Tryd.func43, Tryd.ntmps43
    go_wp2
    go_ret
    exact ⟨by rw [h1]; rfl, Drawn0.refl _⟩
theorem asks_small : Asks 62 smP := by
  intro c W
  have e : smP c = (decide (97 ≤ c) && decide (c ≤ 122)) := Bool.decide_and ..
  rw [e]
  by_cases h : 97 ≤ c
  · have h1 : decide (97 ≤ c) = true := decide_eq_true h
    clear h
    go_enter Tryd.func62, Tryd.ntmps62
    go_wp2
    go_ret
    exact ⟨by rw [h1]; rfl, Drawn0.refl _⟩
  · have h1 : decide (97 ≤ c) = false := decide_eq_false h
    clear h
    go_enter Tryd.func62, Tryd.ntmps62
    go_wp2
    go_ret
    exact ⟨by rw [h1]; rfl, Drawn0.refl _⟩
theorem asks_letter : Asks 45 leP := by
  intro c W
  go_enter Tryd.func45, Tryd.ntmps45
  go_wp2_with (go_at_call 62; refine (asks_small _ _).mono ?_; rintro e w' ⟨rfl, ⟨n, rfl⟩⟩)
  go_ret
  exact ⟨rfl, ⟨n, rfl⟩⟩
theorem asks_within (c : Int) (s : ByteArray) (W : World) : Calls Tryd.prog 63 #[.int .u8 c, .string s] W fun e w' => e = .returned (.bool (wiP c s)) ∧ Drawn0 W w' := by
  go_enter Tryd.func63, Tryd.ntmps63
  go_wp2_with (go_at_call 70; refine (Tryd.strings_IndexByte s c _).mono ?_; rintro e w' ⟨rfl, rfl⟩)
  go_ret
  exact ⟨rfl, Drawn0.refl _⟩
theorem asks_space : Asks 51 spP := by
  intro c W
  go_enter Tryd.func51, Tryd.ntmps51
  go_wp2
  go_ret
  exact ⟨rfl, Drawn0.refl _⟩
set_option maxHeartbeats 2000000 in
theorem asks_tokens : Asks 47 tokP := by
  intro c W
  unfold tokP
  cases h1 : leP c
  · cases h2 : dgP c
    · simp only [Bool.false_or]
      go_enter Tryd.func47, Tryd.ntmps47
      go_wp2_with (first | (go_at_call 45; refine (asks_letter c _).mono ?_; rw [h1]; rintro e w' ⟨rfl, ⟨n, rfl⟩⟩) | (go_at_call 43; refine (asks_digit c _).mono ?_; rw [h2]; rintro e w' ⟨rfl, ⟨m, rfl⟩⟩) | (go_at_call 63; refine (asks_within c _ _).mono ?_; rintro e w' ⟨rfl, ⟨k, rfl⟩⟩))
      go_ret
      exact ⟨by simp, by repeat (first | exact Drawn0.refl _ | apply Drawn0.step)⟩
    · simp only [Bool.false_or, Bool.true_or]
      go_enter Tryd.func47, Tryd.ntmps47
      go_wp2_with (first | (go_at_call 45; refine (asks_letter c _).mono ?_; rw [h1]; rintro e w' ⟨rfl, ⟨n, rfl⟩⟩) | (go_at_call 43; refine (asks_digit c _).mono ?_; rw [h2]; rintro e w' ⟨rfl, ⟨m, rfl⟩⟩))
      go_ret
      exact ⟨by simp, by repeat (first | exact Drawn0.refl _ | apply Drawn0.step)⟩
  · simp only [Bool.true_or]
    go_enter Tryd.func47, Tryd.ntmps47
    go_wp2_with (first | (go_at_call 45; refine (asks_letter c _).mono ?_; rw [h1]; rintro e w' ⟨rfl, ⟨n, rfl⟩⟩))
    go_ret
    exact ⟨by simp, by repeat (first | exact Drawn0.refl _ | apply Drawn0.step)⟩
set_option maxHeartbeats 2000000 in
theorem asks_base : Asks 50 baP := by
  intro c W
  unfold baP
  cases h1 : leP c
  · cases h2 : dgP c
    · simp only [Bool.false_or]
      go_enter Tryd.func50, Tryd.ntmps50
      go_wp2_with (first | (go_at_call 45; refine (asks_letter c _).mono ?_; rw [h1]; rintro e w' ⟨rfl, ⟨n, rfl⟩⟩) | (go_at_call 43; refine (asks_digit c _).mono ?_; rw [h2]; rintro e w' ⟨rfl, ⟨m, rfl⟩⟩) | (go_at_call 63; refine (asks_within c _ _).mono ?_; rintro e w' ⟨rfl, ⟨k, rfl⟩⟩))
      go_ret
      exact ⟨by simp, by repeat (first | exact Drawn0.refl _ | apply Drawn0.step)⟩
    · simp only [Bool.false_or, Bool.true_or]
      go_enter Tryd.func50, Tryd.ntmps50
      go_wp2_with (first | (go_at_call 45; refine (asks_letter c _).mono ?_; rw [h1]; rintro e w' ⟨rfl, ⟨n, rfl⟩⟩) | (go_at_call 43; refine (asks_digit c _).mono ?_; rw [h2]; rintro e w' ⟨rfl, ⟨m, rfl⟩⟩))
      go_ret
      exact ⟨by simp, by repeat (first | exact Drawn0.refl _ | apply Drawn0.step)⟩
  · simp only [Bool.true_or]
    go_enter Tryd.func50, Tryd.ntmps50
    go_wp2_with (first | (go_at_call 45; refine (asks_letter c _).mono ?_; rw [h1]; rintro e w' ⟨rfl, ⟨n, rfl⟩⟩))
    go_ret
    exact ⟨by simp, by repeat (first | exact Drawn0.refl _ | apply Drawn0.step)⟩
set_option maxHeartbeats 2000000 in
theorem asks_key : Asks 64 keP := by
  intro c W
  unfold keP
  cases h1 : smP c
  · cases h2 : dgP c
    · simp only [Bool.false_or]
      go_enter Tryd.func64, Tryd.ntmps64
      go_wp2_with (first | (go_at_call 62; refine (asks_small c _).mono ?_; rw [h1]; rintro e w' ⟨rfl, ⟨n, rfl⟩⟩) | (go_at_call 43; refine (asks_digit c _).mono ?_; rw [h2]; rintro e w' ⟨rfl, ⟨m, rfl⟩⟩) | (go_at_call 63; refine (asks_within c _ _).mono ?_; rintro e w' ⟨rfl, ⟨k, rfl⟩⟩))
      go_ret
      exact ⟨by simp, by repeat (first | exact Drawn0.refl _ | apply Drawn0.step)⟩
    · simp only [Bool.false_or, Bool.true_or]
      go_enter Tryd.func64, Tryd.ntmps64
      go_wp2_with (first | (go_at_call 62; refine (asks_small c _).mono ?_; rw [h1]; rintro e w' ⟨rfl, ⟨n, rfl⟩⟩) | (go_at_call 43; refine (asks_digit c _).mono ?_; rw [h2]; rintro e w' ⟨rfl, ⟨m, rfl⟩⟩))
      go_ret
      exact ⟨by simp, by repeat (first | exact Drawn0.refl _ | apply Drawn0.step)⟩
  · simp only [Bool.true_or]
    go_enter Tryd.func64, Tryd.ntmps64
    go_wp2_with (first | (go_at_call 62; refine (asks_small c _).mono ?_; rw [h1]; rintro e w' ⟨rfl, ⟨n, rfl⟩⟩))
    go_ret
    exact ⟨by simp, by repeat (first | exact Drawn0.refl _ | apply Drawn0.step)⟩

end Go.Proofs.YtciigmlibnpeeaaDoor.Sf
