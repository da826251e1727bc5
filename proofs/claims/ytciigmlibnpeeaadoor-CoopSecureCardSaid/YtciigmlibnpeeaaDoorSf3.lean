/- What the reader takes while a byte is so. -/
import Derived.Test.YtciigmlibnpeeaaDoorProg
import Derived.Below
import Derived.Deep.Draws
import Derived.Deep.AppendLies
import Derived.Maps.AppendAt
import Derived.OwnWalk
import Derived.Laws.BytesArg
import Derived.Laws.MakeOwn
import Derived.Laws.OwnMore
import Derived.Deep.OwnRows
import Derived.Tactics
import Derived.Lib.ConvBytes
import Derived.Laws.Slices
import Derived.WalkKit
import Derived.KernelRfl
import Derived.RowKit3
import Derived.Deep.LoopGhost
import Derived.Deep.QuietTactic
import Derived.BigQuiet
import Derived.WideLaws
import Derived.Deep.DeepCutAuto
import Derived.Deep.CutBlock
import Derived.Deep.RegionHeld3
import Derived.Laws.Rows
import Derived.Lib.AppendStr
import Derived.ArgAppend
import Derived.Laws.IdiomCopy
import Derived.OrdersHeld
import Derived.Laws.BitsLemmas
import Derived.RowKit
import Derived.Test.YtciigmlibnpeeaaDoorShelf
import Derived.RangeFuncNested
import Derived.RangeFuncBound
import Derived.RangeFuncCalls
import Derived.RangeFuncLeaves
import Derived.RangeFuncBox
import Derived.Shelf.Abstract
import Derived.OwnWalkIn
import Derived.TacticsInMore
import Derived.LoopNIn
import Derived.LoopIn
import Derived.Maps.AppendAt
import Derived.Stop.RegionWithIn
import Derived.Maps.OwnOps
import Derived.Maps.OwnSet
import Derived.Deep.RegionHeld3
import Derived.Recover
import Derived.Defers
import Derived.Test.YtciigmlibnpeeaaDoorWWords
import Derived.Test.YtciigmlibnpeeaaDoorWLast
import Derived.Test.YtciigmlibnpeeaaDoorWTab
import Derived.Test.YtciigmlibnpeeaaDoorWFour
import Derived.Test.YtciigmlibnpeeaaDoorWQPut
import Derived.Test.YtciigmlibnpeeaaDoorWApart
import Derived.Test.YtciigmlibnpeeaaDoorWArr
import Derived.Test.YtciigmlibnpeeaaDoorWZeros
import Derived.Test.YtciigmlibnpeeaaDoorWFoot
import Derived.Test.YtciigmlibnpeeaaDoorWKept
import Derived.Test.YtciigmlibnpeeaaDoorWShare
import Derived.Test.YtciigmlibnpeeaaDoorWN
import Derived.Test.YtciigmlibnpeeaaDoorWFootNe
import Derived.Test.YtciigmlibnpeeaaDoorWAt
import Derived.Test.YtciigmlibnpeeaaDoorWEqStruct
import Derived.Test.YtciigmlibnpeeaaDoorWRepsOne
import Derived.Test.YtciigmlibnpeeaaDoorWInv
import Derived.Test.YtciigmlibnpeeaaDoorWInvWords
import Derived.Test.YtciigmlibnpeeaaDoorWGuard
import Derived.Test.YtciigmlibnpeeaaDoorWNEv
import Derived.Test.YtciigmlibnpeeaaDoorWMore
import Derived.Test.YtciigmlibnpeeaaDoorSf1
import Derived.Test.YtciigmlibnpeeaaDoorSf2
set_option linter.unusedVariables false
set_option linter.unusedSimpArgs false
namespace Go.Proofs.YtciigmlibnpeeaaDoor.Sf
open Go.RowKit Go.Proofs.YtciigmlibnpeeaaDoorW.PrintWords Go.Proofs.YtciigmlibnpeeaaDoorW.PrintLast Go.Proofs.YtciigmlibnpeeaaDoorW.PrintMore
attribute [local go_sem] max2_int min2_int max_two min_two max_three min_three max_four min_four   -- for this text's walks alone
/-- What the reader takes while a byte is so. -/
def spanB (p : Int → Bool) (s : ByteArray) : Nat := (s.data.toList.takeWhile (fun c => p c.toNat)).length
theorem span_le (p : Int → Bool) (s : ByteArray) : spanB p s ≤ s.size := by
  unfold spanB
  rw [Lib.size_eq]
  exact (List.takeWhile_sublist _).length_le
theorem takeWhile_len {α : Type} (q : α → Bool) : ∀ (l : List α) (n : Nat), n ≤ l.length → (∀ j (h : j < l.length), j < n → q l[j] = true) → (∀ h : n < l.length, q l[n] = false) → (l.takeWhile q).length = n
  | [], n, hn, _, _ => by simp at hn; simp [hn]
  | x :: l, 0, _, _, h2 => by
    have := h2 (by simp)
    simp only [List.getElem_cons_zero] at this
    rw [List.takeWhile_cons, this]; simp
  | x :: l, n + 1, hn, h1, h2 => by
    have hx : q x = true := by have := h1 0 (by simp) (by omega); simpa using this
    rw [List.takeWhile_cons, hx]
    simp only [if_true, List.length_cons]
    rw [takeWhile_len q l n (by simpa using hn) (fun j h hj => by have := h1 (j + 1) (by simpa using h) (by omega); simpa using this) (fun h => by have := h2 (by simpa using h); simpa using this)]
theorem bt_list (s : ByteArray) (j : Nat) (h : j < s.data.toList.length) : bt s j = (s.data.toList[j].toNat : Int) := by
  have := bt_at s j (by rw [← Lib.size_eq] at h; exact h)
  rw [← this]
  rfl
theorem span_eq (p : Int → Bool) (s : ByteArray) (n : Nat) (hn : n ≤ s.size) (h1 : ∀ j : Nat, j < n → p (bt s j) = true) (h2 : n < s.size → p (bt s n) = false) : spanB p s = n := by
  refine takeWhile_len _ _ n (by rw [← Lib.size_eq]; exact hn) (fun j h hj => ?_) (fun h => ?_)
  · have := h1 j hj; rw [bt_list s j h] at this; exact this
  · have := h2 (by rw [← Lib.size_eq] at h; exact h); rw [bt_list s n h] at this; exact this
def takB (p : Int → Bool) (s : ByteArray) : ByteArray := s.extract 0 (spanB p s)
def drpB (p : Int → Bool) (s : ByteArray) : ByteArray := s.extract (spanB p s) s.size
set_option maxHeartbeats 2000000 in
set_option maxRecDepth 100000 in
theorem while_calls (n : Nat) (p : Int → Bool) (ha : Asks n p) (eg : ∀ (args : Array Value) (w : World), (callFunc n args).run Tryd.prog w = .ok (.enter n args) w) (g : Nat) (s : ByteArray) (w : World) (hs : s.size ≤ 9223372036854775806) (hI : Rd w g s) :
    Calls Tryd.prog 46 #[.pointer (some ⟨g, 0, none⟩), .func (.func n) #[] #[]] w fun e w' => e = .returned (.string (takB p s)) ∧ Rd w' g (drpB p s) ∧ KB g w w' := by
  have hc := hI.cell
  have hf := hI.frozen
  have HI := Aside0.mk hI
  have HA := Aside0.mk ha
  clear hI ha
  go_enter Tryd.func46, Tryd.ntmps46
  go_wp2
  clear hc hf
  go_loopw [5] (fun v5 wr => ∃ k : Nat, k ≤ s.size ∧ v5 = .int .i64 k ∧ Aside0 (∀ j : Nat, j < k → p (bt s j) = true) ∧ Aside0 (Rd wr g s) ∧ Aside0 (KB g w wr)) (fun v5 _ => s.size - (intOf v5).toNat)
  case atStart => exact ⟨0, Nat.zero_le _, rfl, ⟨fun j hj => by omega⟩, HI, ⟨KB.refl _ _⟩⟩
  case round =>
    clear HI
    obtain ⟨k, hk, rfl, hJ, hR, hB⟩ := hrel
    have hc := hR.out.cell
    have hf := hR.out.frozen
    by_cases hlt : k < s.size
    · have hx : ∀ h : k < s.size, ((s[k]'h).toNat : Int) = bt s k := fun h => by have := bt_at s k (by simpa using h); simpa using this
      have hltd : decide ((k : Int) < (s.size : Int)) = true := decide_eq_true (by omega)
      have hcall := HA.out (bt s k) wr
      have hbt := Aside0.mk (show p (bt s k) = p (bt s k) from rfl)
      cases hpk : p (bt s k) with
      | true =>
        rw [hpk] at hcall
        have hJ2 : Aside0 (∀ j : Nat, j < k + 1 → p (bt s j) = true) := ⟨fun j hj => by
          by_cases h : j < k
          · exact hJ.out j h
          · obtain rfl : j = k := by omega
            exact hpk⟩
        clear hbt hpk hJ
        generalize bt s k = c at *
        go_wp2_with (first | (go_at_fn n; refine hcall.mono ?_; rintro e w' ⟨rfl, ⟨q, rfl⟩⟩))
        go_roundw
        case rel => exact ⟨k + 1, by omega, by go_num, hJ2, ⟨hR.out.drewN _⟩, ⟨hB.out.drewN _⟩⟩
        case measure => simp [intOf]; omega
      | false =>
        rw [hpk] at hcall
        have hJ2 := Aside0.mk (span_eq p s k hk hJ.out (fun _ => hpk))
        clear hbt hpk hJ
        generalize bt s k = c at *
        go_wp2_with (first | (go_at_fn n; refine hcall.mono ?_; rintro e w' ⟨rfl, ⟨q, rfl⟩⟩))
        go_ret
        exact ⟨by unfold takB; rw [hJ2.out]; rfl, by unfold drpB; rw [hJ2.out]; exact (hR.out.drewN _).set _, (hB.out.drewN _).set _ _⟩
    · obtain rfl : k = s.size := by omega
      have hJ2 := Aside0.mk (span_eq p s s.size (Nat.le_refl _) hJ.out (fun h => absurd h (by omega)))
      have hltd : decide ((s.size : Int) < (s.size : Int)) = false := decide_eq_false (by omega)
      clear hJ
      go_wp2
      go_ret
      exact ⟨by unfold takB; rw [hJ2.out]; simp, by unfold drpB; rw [hJ2.out]; simpa using hR.out.set ByteArray.empty, hB.out.set _ _⟩

end Go.Proofs.YtciigmlibnpeeaaDoor.Sf
