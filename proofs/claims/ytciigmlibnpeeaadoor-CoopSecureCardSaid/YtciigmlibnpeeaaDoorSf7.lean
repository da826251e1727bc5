/- The value that a text begins with. -/
import Derived.Test.YtciigmlibnpeeaaDoorProg
import Derived.Below
import Derived.Deep.Draws
import Derived.Deep.AppendLies
import Derived.Maps.AppendAt
import Derived.OwnWalk
import Derived.Laws.BytesArg
import Derived.Laws.MakeOwn
import Derived.Laws.OwnMore
import Derived.Deep.OwnRows
import Derived.Tactics
import Derived.Lib.ConvBytes
import Derived.Laws.Slices
import Derived.WalkKit
import Derived.KernelRfl
import Derived.RowKit3
import Derived.Deep.LoopGhost
import Derived.Deep.QuietTactic
import Derived.BigQuiet
import Derived.WideLaws
import Derived.Deep.DeepCutAuto
import Derived.Deep.CutBlock
import Derived.Deep.RegionHeld3
import Derived.Laws.Rows
import Derived.Lib.AppendStr
import Derived.ArgAppend
import Derived.Laws.IdiomCopy
import Derived.OrdersHeld
import Derived.Laws.BitsLemmas
import Derived.RowKit
import Derived.Test.YtciigmlibnpeeaaDoorShelf
import Derived.RangeFuncNested
import Derived.RangeFuncBound
import Derived.RangeFuncCalls
import Derived.RangeFuncLeaves
import Derived.RangeFuncBox
import Derived.Shelf.Abstract
import Derived.OwnWalkIn
import Derived.TacticsInMore
import Derived.LoopNIn
import Derived.LoopIn
import Derived.Maps.AppendAt
import Derived.Stop.RegionWithIn
import Derived.Maps.OwnOps
import Derived.Maps.OwnSet
import Derived.Deep.RegionHeld3
import Derived.Recover
import Derived.Defers
import Derived.Test.YtciigmlibnpeeaaDoorWWords
import Derived.Test.YtciigmlibnpeeaaDoorWLast
import Derived.Test.YtciigmlibnpeeaaDoorWTab
import Derived.Test.YtciigmlibnpeeaaDoorWFour
import Derived.Test.YtciigmlibnpeeaaDoorWQPut
import Derived.Test.YtciigmlibnpeeaaDoorWApart
import Derived.Test.YtciigmlibnpeeaaDoorWArr
import Derived.Test.YtciigmlibnpeeaaDoorWZeros
import Derived.Test.YtciigmlibnpeeaaDoorWFoot
import Derived.Test.YtciigmlibnpeeaaDoorWKept
import Derived.Test.YtciigmlibnpeeaaDoorWShare
import Derived.Test.YtciigmlibnpeeaaDoorWN
import Derived.Test.YtciigmlibnpeeaaDoorWFootNe
import Derived.Test.YtciigmlibnpeeaaDoorWAt
import Derived.Test.YtciigmlibnpeeaaDoorWEqStruct
import Derived.Test.YtciigmlibnpeeaaDoorWRepsOne
import Derived.Test.YtciigmlibnpeeaaDoorWInv
import Derived.Test.YtciigmlibnpeeaaDoorWInvWords
import Derived.Test.YtciigmlibnpeeaaDoorWGuard
import Derived.Test.YtciigmlibnpeeaaDoorWNEv
import Derived.Test.YtciigmlibnpeeaaDoorWMore
import Derived.Test.YtciigmlibnpeeaaDoorSf1
import Derived.Test.YtciigmlibnpeeaaDoorSf2
import Derived.Test.YtciigmlibnpeeaaDoorSf3
import Derived.Test.YtciigmlibnpeeaaDoorSf4
import Derived.Test.YtciigmlibnpeeaaDoorSf5
import Derived.Test.YtciigmlibnpeeaaDoorSf6
set_option linter.unusedVariables false
set_option linter.unusedSimpArgs false
namespace Go.Proofs.YtciigmlibnpeeaaDoor.Sf
open Go.RowKit Go.Proofs.YtciigmlibnpeeaaDoorW.PrintWords Go.Proofs.YtciigmlibnpeeaaDoorW.PrintLast Go.Proofs.YtciigmlibnpeeaaDoorW.PrintMore
attribute [local go_sem] max2_int min2_int max_two min_two max_three min_three max_four min_four   -- for this text's walks alone
/-- The value that a text begins with. -/
def rdBytes (t : ByteArray) : Option ((Int × Int × ByteArray) × ByteArray) := if atF (drpB baP t) 58 = true then some ((5, 0, takB baP t), tl (drpB baP t)) else none
def rdBool (t : ByteArray) : Option ((Int × Int × ByteArray) × ByteArray) := if atF t 49 = true then some ((6, 1, ⟨#[]⟩), tl t) else if atF t 48 = true then some ((6, 0, ⟨#[]⟩), tl t) else none
def rdValue (s : ByteArray) : Option ((Int × Int × ByteArray) × ByteArray) :=
  if 0 < s.size then
    if bt s 0 = 45 ∨ dgP (bt s 0) = true then rdNumber s
    else if leP (bt s 0) = true ∨ bt s 0 = 42 then some ((4, 0, takB tokP s), drpB tokP s)
    else if bt s 0 = 34 then rdQuoted (tl s)
    else if bt s 0 = 58 then rdBytes (tl s)
    else if bt s 0 = 63 then rdBool (tl s) else none
  else none
theorem PB.mk_new (W : World) (n i : Int) (t : ByteArray) : PB (W.alloc (.cells #[.string ⟨#[]⟩, .int .i64 n, .int .i64 i, .string t] 52)) W.heap.size ⟨#[]⟩ n i t := by have := blk_new W (.cells #[.string ⟨#[]⟩, .int .i64 n, .int .i64 i, .string t] 52); simpa [PB] using this
theorem gp {g : Nat} {W w' : World} {k i : Int} {tx t : ByteArray} {e : Ending} (h : Gives g W encP (some ((k, i, tx), t)) e w') : (e = .returned (.agg #[.string ⟨#[]⟩, .int .i64 k, .int .i64 i, .string tx]) ∧ Rd w' g t) ∧ KB g W w' := h
theorem while_tokens (g : Nat) (s : ByteArray) (w : World) (hs : s.size ≤ 9223372036854775806) (hI : Rd w g s) :
    Calls Tryd.prog 46 #[.pointer (some ⟨g, 0, none⟩), .func (.func 47) #[] #[]] w fun e w' => e = .returned (.string (takB tokP s)) ∧ Rd w' g (drpB tokP s) ∧ KB g w w' := while_calls 47 tokP asks_tokens (Go.Proofs.enters_of Tryd.func47 (by kernel_rfl) rfl) g s w hs hI
theorem while_base (g : Nat) (s : ByteArray) (w : World) (hs : s.size ≤ 9223372036854775806) (hI : Rd w g s) :
    Calls Tryd.prog 46 #[.pointer (some ⟨g, 0, none⟩), .func (.func 50) #[] #[]] w fun e w' => e = .returned (.string (takB baP s)) ∧ Rd w' g (drpB baP s) ∧ KB g w w' := while_calls 50 baP asks_base (Go.Proofs.enters_of Tryd.func50 (by kernel_rfl) rfl) g s w hs hI
theorem at_no (g : Nat) (s : ByteArray) (c : Int) (h : atF s c = false) (w : World) (hI : Rd w g s) :
    Calls Tryd.prog 48 #[.pointer (some ⟨g, 0, none⟩), .int .u8 c] w fun e w' => e = .returned (.bool false) ∧ Rd w' g s ∧ KB g w w' := by
  have := at_calls g s c w hI
  rwa [h, show atR s c = s from if_neg (by rw [h]; decide)] at this
theorem at_yes (g : Nat) (s : ByteArray) (c : Int) (h : atF s c = true) (w : World) (hI : Rd w g s) :
    Calls Tryd.prog 48 #[.pointer (some ⟨g, 0, none⟩), .int .u8 c] w fun e w' => e = .returned (.bool true) ∧ Rd w' g (tl s) ∧ KB g w w' := by
  have := at_calls g s c w hI
  rwa [h, show atR s c = tl s from if_pos h] at this
theorem atF_no (s : ByteArray) (c d : Int) (h : bt s 0 = d) (hne : d ≠ c) : atF s c = false := decide_eq_false (fun h' => hne (h ▸ h'.2))
theorem atF_ne (s : ByteArray) (c : Int) (h : ¬ bt s 0 = c) : atF s c = false := decide_eq_false (fun h' => h h'.2)
theorem atF_yes (s : ByteArray) (c : Int) (h0 : 0 < s.size) (h : bt s 0 = c) : atF s c = true := decide_eq_true ⟨h0, h⟩
set_option maxHeartbeats 8000000 in
set_option maxRecDepth 100000 in
theorem value_calls (g : Nat) (s : ByteArray) (w : World) (hs : s.size ≤ 140737488351232) (hI : Rd w g s) :
    Calls Tryd.prog 29 #[.pointer (some ⟨g, 0, none⟩)] w fun e w' => Gives g w encP (rdValue s) e w' := by
  have hI1 := Aside0.mk (hI.alloc (.cells #[.string ⟨#[]⟩, .int .i64 0, .int .i64 0, .string ⟨#[]⟩] 52))
  have hP1 := Aside0.mk (PB.new w)
  have hK1 := Aside0.mk ((KB.refl g w).alloc (.cells #[.string ⟨#[]⟩, .int .i64 0, .int .i64 0, .string ⟨#[]⟩] 52))
  have hne : w.heap.size ≠ g := by have := hI.lt; omega
  have hcI := hI1.out.cell
  have hfI := hI1.out.frozen
  clear hI
  have hzt : (tl s).size ≤ 140737488351232 := Nat.le_trans (tl_size s) hs
  generalize hW1 : w.alloc (.cells #[.string ⟨#[]⟩, .int .i64 0, .int .i64 0, .string ⟨#[]⟩] 52) = wa at *
  have hV : rdValue s = rdValue s := rfl
  conv at hV => rhs; unfold rdValue
  by_cases h0 : 0 < s.size
  · rw [if_pos h0] at hV
    obtain ⟨n1, n1b⟩ := nonempty_ne s h0
    have hx6 := hx_at s h0
    have q6 := eq_true h0
    have qi6 : (0 < (s.size : Int)) = True := eq_true (by omega)
    by_cases e45 : bt s 0 = 45
    · rw [if_pos (Or.inl e45)] at hV
      have b45 : (bt s 0 == 45) = true := by simp [e45]
      clear e45
      have hNc := fun W (h : Rd W g s) => number_calls g s W (Nat.le_trans hs (by decide)) h
      cases hN : rdNumber s with
      | none =>
        rw [hN] at hNc hV
        have hNu := Aside0.mk hNc
        have hG := Aside0.mk hV
        clear hNc hV hN
        generalize bt s 0 = c at *
        go_enter Tryd.func29, Tryd.ntmps29
        go_wp2_with (first | (go_at_call 44; refine (hNu.out _ (hI1.out)).mono ?_; rintro e w5 ⟨rfl, hB5⟩) | (go_at_call 43; refine (hdg _).mono ?_; rintro e w' ⟨rfl, ⟨q, rfl⟩⟩))
        exact ⟨rfl, Gives.dead hG.out ((hK1.out).trans hB5)⟩
      | some y =>
        obtain ⟨⟨k, i, tx⟩, rest⟩ := y
        rw [hN] at hNc hV
        have hNu := Aside0.mk hNc
        have hG := Aside0.mk hV
        clear hNc hV hN
        generalize bt s 0 = c at *
        go_enter Tryd.func29, Tryd.ntmps29
        go_wp2_with (first | (go_at_call 44; refine ((hNu.out _ (hI1.out)).mono (fun e w' h => gp h)).mono ?_; rintro e w5 ⟨⟨rfl, hR5⟩, hB5⟩; have hP5 := (hP1.out).kb hB5 hne; have hp0 := hP5.c0; have hp1 := hP5.c1; have hp2 := hP5.c2; have hp3 := hP5.c3; have hf0 := hP5.fr 0; have hf1 := hP5.fr 1; have hf2 := hP5.fr 2; have hf3 := hP5.fr 3) | (go_at_call 43; refine (hdg _).mono ?_; rintro e w' ⟨rfl, ⟨q, rfl⟩⟩))
        refine bodyPost_ret (results_cell_row rfl _ _ w.heap.size 52 #[.string ⟨#[]⟩, .int .i64 k, .int .i64 i, .string tx] (0, 0) _ rfl (hP5.put ⟨#[]⟩ k i tx) Tryd.underlying52 rfl (by kernel_rfl)) rfl ?_
        exact Gives.ok hG.out rfl (hR5.put (fun e => hne e.symm) _ _ _ _) (((hK1.out).trans hB5).put (Nat.le_refl _) _ _ _ _)
    · have b45 : (bt s 0 == 45) = false := by simp [e45]
      have hdg := fun W => asks_digit (bt s 0) W
      cases edg : dgP (bt s 0) with
      | true =>
        rw [if_pos (Or.inr edg)] at hV
        rw [edg] at hdg
        clear e45 edg
        have hNc := fun W (h : Rd W g s) => number_calls g s W (Nat.le_trans hs (by decide)) h
        cases hN : rdNumber s with
        | none =>
          rw [hN] at hNc hV
          have hNu := Aside0.mk hNc
          have hG := Aside0.mk hV
          clear hNc hV hN
          generalize bt s 0 = c at *
          go_enter Tryd.func29, Tryd.ntmps29
          go_wp2_with (first | (go_at_call 44; refine (hNu.out _ (hI1.out.drewN _)).mono ?_; rintro e w5 ⟨rfl, hB5⟩) | (go_at_call 43; refine (hdg _).mono ?_; rintro e w' ⟨rfl, ⟨q, rfl⟩⟩))
          exact ⟨rfl, Gives.dead hG.out ((hK1.out.drewN _).trans hB5)⟩
        | some y =>
          obtain ⟨⟨k, i, tx⟩, rest⟩ := y
          rw [hN] at hNc hV
          have hNu := Aside0.mk hNc
          have hG := Aside0.mk hV
          clear hNc hV hN
          generalize bt s 0 = c at *
          go_enter Tryd.func29, Tryd.ntmps29
          go_wp2_with (first | (go_at_call 44; refine ((hNu.out _ (hI1.out.drewN _)).mono (fun e w' h => gp h)).mono ?_; rintro e w5 ⟨⟨rfl, hR5⟩, hB5⟩; have hP5 := (hP1.out.drewN _).kb hB5 hne; have hp0 := hP5.c0; have hp1 := hP5.c1; have hp2 := hP5.c2; have hp3 := hP5.c3; have hf0 := hP5.fr 0; have hf1 := hP5.fr 1; have hf2 := hP5.fr 2; have hf3 := hP5.fr 3) | (go_at_call 43; refine (hdg _).mono ?_; rintro e w' ⟨rfl, ⟨q, rfl⟩⟩))
          refine bodyPost_ret (results_cell_row rfl _ _ w.heap.size 52 #[.string ⟨#[]⟩, .int .i64 k, .int .i64 i, .string tx] (0, 0) _ rfl (hP5.put ⟨#[]⟩ k i tx) Tryd.underlying52 rfl (by kernel_rfl)) rfl ?_
          exact Gives.ok hG.out rfl (hR5.put (fun e => hne e.symm) _ _ _ _) (((hK1.out.drewN _).trans hB5).put (Nat.le_refl _) _ _ _ _)
      | false =>
        rw [if_neg (fun h => h.elim e45 (fun h => by rw [edg] at h; exact absurd h (by decide)))] at hV
        rw [edg] at hdg
        have hle := fun W => asks_letter (bt s 0) W
        have hWt := Aside0.mk (fun W (h : Rd W g s) => while_tokens g s W (Nat.le_trans hs (by decide)) h)
        cases ele : leP (bt s 0) with
        | true =>
          rw [if_pos (Or.inl ele)] at hV
          rw [ele] at hle
          have hG := Aside0.mk hV
          clear hV e45 edg ele
          generalize bt s 0 = c at *
          go_enter Tryd.func29, Tryd.ntmps29
          go_wp2_with (first | (go_at_call 46; refine (hWt.out _ (hI1.out.drewN _)).mono ?_; rintro e w5 ⟨rfl, hR5, hB5⟩; have hP5 := (hP1.out.drewN _).kb hB5 hne; have hp0 := hP5.c0; have hp1 := hP5.c1; have hp2 := hP5.c2; have hp3 := hP5.c3; have hf0 := hP5.fr 0; have hf1 := hP5.fr 1; have hf2 := hP5.fr 2; have hf3 := hP5.fr 3) | (go_at_call 45; refine (hle _).mono ?_; rintro e w' ⟨rfl, ⟨q2, rfl⟩⟩) | (go_at_call 43; refine (hdg _).mono ?_; rintro e w' ⟨rfl, ⟨q, rfl⟩⟩))
          refine bodyPost_ret (results_cell_row rfl _ _ w.heap.size 52 #[.string ⟨#[]⟩, .int .i64 4, .int .i64 0, .string (takB tokP s)] (0, 0) _ rfl (hP5.put ⟨#[]⟩ 4 0 (takB tokP s)) Tryd.underlying52 rfl (by kernel_rfl)) rfl ?_
          exact Gives.ok hG.out rfl (hR5.put (fun e => hne e.symm) _ _ _ _) (((hK1.out.drewN _).trans hB5).put (Nat.le_refl _) _ _ _ _)
        | false =>
          rw [ele] at hle
          by_cases e42 : bt s 0 = 42
          · rw [if_pos (Or.inr e42)] at hV
            have b42 : (bt s 0 == 42) = true := by simp [e42]
            have hG := Aside0.mk hV
            clear hV e45 edg ele e42
            generalize bt s 0 = c at *
            go_enter Tryd.func29, Tryd.ntmps29
            go_wp2_with (first | (go_at_call 46; refine (hWt.out _ (hI1.out.drewN _)).mono ?_; rintro e w5 ⟨rfl, hR5, hB5⟩; have hP5 := (hP1.out.drewN _).kb hB5 hne; have hp0 := hP5.c0; have hp1 := hP5.c1; have hp2 := hP5.c2; have hp3 := hP5.c3; have hf0 := hP5.fr 0; have hf1 := hP5.fr 1; have hf2 := hP5.fr 2; have hf3 := hP5.fr 3) | (go_at_call 45; refine (hle _).mono ?_; rintro e w' ⟨rfl, ⟨q2, rfl⟩⟩) | (go_at_call 43; refine (hdg _).mono ?_; rintro e w' ⟨rfl, ⟨q, rfl⟩⟩))
            refine bodyPost_ret (results_cell_row rfl _ _ w.heap.size 52 #[.string ⟨#[]⟩, .int .i64 4, .int .i64 0, .string (takB tokP s)] (0, 0) _ rfl (hP5.put ⟨#[]⟩ 4 0 (takB tokP s)) Tryd.underlying52 rfl (by kernel_rfl)) rfl ?_
            exact Gives.ok hG.out rfl (hR5.put (fun e => hne e.symm) _ _ _ _) (((hK1.out.drewN _).trans hB5).put (Nat.le_refl _) _ _ _ _)
          · rw [if_neg (fun h => h.elim (fun h => by rw [ele] at h; exact absurd h (by decide)) e42)] at hV
            have b42 : (bt s 0 == 42) = false := by simp [e42]
            clear hWt
            by_cases e34 : bt s 0 = 34
            · rw [if_pos e34] at hV
              have hA34 := Aside0.mk (at_yes g s 34 (atF_yes s 34 h0 e34))
              have hQc := fun W (h : Rd W g (tl s)) => quoted_calls g (tl s) W hzt h
              cases hN : rdQuoted (tl s) with
              | none =>
                rw [hN] at hQc hV
                have hQu := Aside0.mk hQc
                have hG := Aside0.mk hV
                clear hQc hV hN e45 edg ele e42 e34
                generalize bt s 0 = c at *
                go_enter Tryd.func29, Tryd.ntmps29
                go_wp2_with (first | (go_at_call 49; refine (hQu.out _ hR5).mono ?_; rintro e w6 ⟨rfl, hB6⟩) | (go_at_call 48; refine (hA34.out _ (hI1.out.drewN _)).mono ?_; rintro e w5 ⟨rfl, hR5, hB5⟩) | (go_at_call 45; refine (hle _).mono ?_; rintro e w' ⟨rfl, ⟨q2, rfl⟩⟩) | (go_at_call 43; refine (hdg _).mono ?_; rintro e w' ⟨rfl, ⟨q, rfl⟩⟩))
                exact ⟨rfl, Gives.dead hG.out (((hK1.out.drewN _).trans hB5).trans hB6)⟩
              | some y =>
                obtain ⟨⟨k, i, tx⟩, rest⟩ := y
                rw [hN] at hQc hV
                have hQu := Aside0.mk hQc
                have hG := Aside0.mk hV
                clear hQc hV hN e45 edg ele e42 e34
                generalize bt s 0 = c at *
                go_enter Tryd.func29, Tryd.ntmps29
                go_wp2_with (first | (go_at_call 49; refine ((hQu.out _ hR5).mono (fun e w' h => gp h)).mono ?_; rintro e w6 ⟨⟨rfl, hR6⟩, hB6⟩; have hP6 := ((hP1.out.drewN _).kb hB5 hne).kb hB6 hne; have hp0 := hP6.c0; have hp1 := hP6.c1; have hp2 := hP6.c2; have hp3 := hP6.c3; have hf0 := hP6.fr 0; have hf1 := hP6.fr 1; have hf2 := hP6.fr 2; have hf3 := hP6.fr 3) | (go_at_call 48; refine (hA34.out _ (hI1.out.drewN _)).mono ?_; rintro e w5 ⟨rfl, hR5, hB5⟩) | (go_at_call 45; refine (hle _).mono ?_; rintro e w' ⟨rfl, ⟨q2, rfl⟩⟩) | (go_at_call 43; refine (hdg _).mono ?_; rintro e w' ⟨rfl, ⟨q, rfl⟩⟩))
                refine bodyPost_ret (results_cell_row rfl _ _ w.heap.size 52 #[.string ⟨#[]⟩, .int .i64 k, .int .i64 i, .string tx] (0, 0) _ rfl (hP6.put ⟨#[]⟩ k i tx) Tryd.underlying52 rfl (by kernel_rfl)) rfl ?_
                exact Gives.ok hG.out rfl (hR6.put (fun e => hne e.symm) _ _ _ _) ((((hK1.out.drewN _).trans hB5).trans hB6).put (Nat.le_refl _) _ _ _ _)
            · rw [if_neg e34] at hV
              have hA34 := Aside0.mk (at_no g s 34 (atF_ne s 34 e34))
              by_cases e58 : bt s 0 = 58
              · rw [if_pos e58] at hV
                have hA58 := Aside0.mk (at_yes g s 58 (atF_yes s 58 h0 e58))
                have hWb := Aside0.mk (fun W (h : Rd W g (tl s)) => while_base g (tl s) W (Nat.le_trans hzt (by decide)) h)
                unfold rdBytes at hV
                cases hE : atF (drpB baP (tl s)) 58 with
                | false =>
                  rw [if_neg (by rw [hE]; decide)] at hV
                  have hG := Aside0.mk hV
                  have hA3 := Aside0.mk (at_no g _ 58 hE)
                  clear hV e45 edg ele e42 e34 e58 hE
                  generalize bt s 0 = c at *
                  go_enter Tryd.func29, Tryd.ntmps29
                  go_wp2_with (first | (go_at_call 42; refine (fail_calls _ _).mono ?_; rintro e w' ⟨rfl, rfl⟩) | (go_at_call 48; refine (hA3.out _ (hR7.alloc _)).mono ?_; rintro e w8 ⟨rfl, hR8, hB8⟩) | (go_at_call 46; refine (hWb.out _ hR6).mono ?_; rintro e w7 ⟨rfl, hR7, hB7⟩) | (go_at_call 48; refine (hA58.out _ hR5).mono ?_; rintro e w6 ⟨rfl, hR6, hB6⟩) | (go_at_call 48; refine (hA34.out _ (hI1.out.drewN _)).mono ?_; rintro e w5 ⟨rfl, hR5, hB5⟩) | (go_at_call 45; refine (hle _).mono ?_; rintro e w' ⟨rfl, ⟨q2, rfl⟩⟩) | (go_at_call 43; refine (hdg _).mono ?_; rintro e w' ⟨rfl, ⟨q, rfl⟩⟩))
                  exact ⟨rfl, Gives.dead hG.out (((((((hK1.out.drewN _).trans hB5).trans hB6).trans hB7).alloc _).trans hB8))⟩
                | true =>
                  rw [if_pos hE] at hV
                  have hG := Aside0.mk hV
                  have hA3 := Aside0.mk (at_yes g _ 58 hE)
                  clear hV e45 edg ele e42 e34 e58 hE
                  generalize bt s 0 = c at *
                  go_enter Tryd.func29, Tryd.ntmps29
                  go_wp2_with (first | (go_at_call 48; refine (hA3.out _ (hR7.alloc _)).mono ?_; rintro e w8 ⟨rfl, hR8, hB8⟩; have hP8 := (((((hP1.out.drewN _).kb hB5 hne).kb hB6 hne).kb hB7 hne).alloc _).kb hB8 hne; have hQ8 := (PB.mk_new w7 5 0 (takB baP (tl s))).kb hB8 (fun e => absurd (hR7.lt) (by omega)); have hp0 := hP8.c0; have hp1 := hP8.c1; have hp2 := hP8.c2; have hp3 := hP8.c3; have hf0 := hP8.fr 0; have hf1 := hP8.fr 1; have hf2 := hP8.fr 2; have hf3 := hP8.fr 3; have hq0 := hQ8.c0; have hq1 := hQ8.c1; have hq2 := hQ8.c2; have hq3 := hQ8.c3) | (go_at_call 46; refine (hWb.out _ hR6).mono ?_; rintro e w7 ⟨rfl, hR7, hB7⟩) | (go_at_call 48; refine (hA58.out _ hR5).mono ?_; rintro e w6 ⟨rfl, hR6, hB6⟩) | (go_at_call 48; refine (hA34.out _ (hI1.out.drewN _)).mono ?_; rintro e w5 ⟨rfl, hR5, hB5⟩) | (go_at_call 45; refine (hle _).mono ?_; rintro e w' ⟨rfl, ⟨q2, rfl⟩⟩) | (go_at_call 43; refine (hdg _).mono ?_; rintro e w' ⟨rfl, ⟨q, rfl⟩⟩))
                  refine bodyPost_ret (results_cell_row rfl _ _ w.heap.size 52 #[.string ⟨#[]⟩, .int .i64 5, .int .i64 0, .string (takB baP (tl s))] (0, 0) _ rfl (hP8.put ⟨#[]⟩ 5 0 (takB baP (tl s))) Tryd.underlying52 rfl (by kernel_rfl)) rfl ?_
                  exact Gives.ok hG.out rfl (hR8.put (fun e => hne e.symm) _ _ _ _) ((((((((hK1.out.drewN _).trans hB5).trans hB6).trans hB7).alloc _).trans hB8)).put (Nat.le_refl _) _ _ _ _)
              · rw [if_neg e58] at hV
                have hA58 := Aside0.mk (at_no g s 58 (atF_ne s 58 e58))
                by_cases e63 : bt s 0 = 63
                · rw [if_pos e63] at hV
                  have hA63 := Aside0.mk (at_yes g s 63 (atF_yes s 63 h0 e63))
                  unfold rdBool at hV
                  cases hE : atF (tl s) 49 with
                  | true =>
                    rw [if_pos hE] at hV
                    have hG := Aside0.mk hV
                    have hA3 := Aside0.mk (at_yes g _ 49 hE)
                    clear hV e45 edg ele e42 e34 e58 e63 hE
                    generalize bt s 0 = c at *
                    go_enter Tryd.func29, Tryd.ntmps29
                    go_wp2_with (first | (go_at_call 48; refine (hA3.out _ hR7).mono ?_; rintro e w8 ⟨rfl, hR8, hB8⟩; have hP8 := (((((hP1.out.drewN _).kb hB5 hne).kb hB6 hne).kb hB7 hne).kb hB8 hne); have hp0 := hP8.c0; have hp1 := hP8.c1; have hp2 := hP8.c2; have hp3 := hP8.c3; have hf0 := hP8.fr 0; have hf1 := hP8.fr 1; have hf2 := hP8.fr 2; have hf3 := hP8.fr 3) | (go_at_call 48; refine (hA63.out _ hR6).mono ?_; rintro e w7 ⟨rfl, hR7, hB7⟩) | (go_at_call 48; refine (hA58.out _ hR5).mono ?_; rintro e w6 ⟨rfl, hR6, hB6⟩) | (go_at_call 48; refine (hA34.out _ (hI1.out.drewN _)).mono ?_; rintro e w5 ⟨rfl, hR5, hB5⟩) | (go_at_call 45; refine (hle _).mono ?_; rintro e w' ⟨rfl, ⟨q2, rfl⟩⟩) | (go_at_call 43; refine (hdg _).mono ?_; rintro e w' ⟨rfl, ⟨q, rfl⟩⟩))
                    refine bodyPost_ret (results_cell_row rfl _ _ w.heap.size 52 #[.string ⟨#[]⟩, .int .i64 6, .int .i64 1, .string ⟨#[]⟩] (0, 0) _ rfl (hP8.put ⟨#[]⟩ 6 1 ⟨#[]⟩) Tryd.underlying52 rfl (by kernel_rfl)) rfl ?_
                    exact Gives.ok hG.out rfl (hR8.put (fun e => hne e.symm) _ _ _ _) ((((((hK1.out.drewN _).trans hB5).trans hB6).trans hB7).trans hB8).put (Nat.le_refl _) _ _ _ _)
                  | false =>
                    rw [if_neg (by rw [hE]; decide)] at hV
                    have hA3 := Aside0.mk (at_no g _ 49 hE)
                    cases hF : atF (tl s) 48 with
                    | true =>
                      rw [if_pos hF] at hV
                      have hG := Aside0.mk hV
                      have hA4 := Aside0.mk (at_yes g _ 48 hF)
                      clear hV e45 edg ele e42 e34 e58 e63 hE hF
                      generalize bt s 0 = c at *
                      go_enter Tryd.func29, Tryd.ntmps29
                      go_wp2_with (first | (go_at_call 48; refine (hA4.out _ hR8).mono ?_; rintro e w9 ⟨rfl, hR9, hB9⟩; have hP9 := ((((((hP1.out.drewN _).kb hB5 hne).kb hB6 hne).kb hB7 hne).kb hB8 hne).kb hB9 hne); have hp0 := hP9.c0; have hp1 := hP9.c1; have hp2 := hP9.c2; have hp3 := hP9.c3; have hf0 := hP9.fr 0; have hf1 := hP9.fr 1; have hf2 := hP9.fr 2; have hf3 := hP9.fr 3) | (go_at_call 48; refine (hA3.out _ hR7).mono ?_; rintro e w8 ⟨rfl, hR8, hB8⟩) | (go_at_call 48; refine (hA63.out _ hR6).mono ?_; rintro e w7 ⟨rfl, hR7, hB7⟩) | (go_at_call 48; refine (hA58.out _ hR5).mono ?_; rintro e w6 ⟨rfl, hR6, hB6⟩) | (go_at_call 48; refine (hA34.out _ (hI1.out.drewN _)).mono ?_; rintro e w5 ⟨rfl, hR5, hB5⟩) | (go_at_call 45; refine (hle _).mono ?_; rintro e w' ⟨rfl, ⟨q2, rfl⟩⟩) | (go_at_call 43; refine (hdg _).mono ?_; rintro e w' ⟨rfl, ⟨q, rfl⟩⟩))
                      refine bodyPost_ret (results_cell_row rfl _ _ w.heap.size 52 #[.string ⟨#[]⟩, .int .i64 6, .int .i64 0, .string ⟨#[]⟩] (0, 0) _ rfl (hP9.put ⟨#[]⟩ 6 0 ⟨#[]⟩) Tryd.underlying52 rfl (by kernel_rfl)) rfl ?_
                      exact Gives.ok hG.out rfl (hR9.put (fun e => hne e.symm) _ _ _ _) (((((((hK1.out.drewN _).trans hB5).trans hB6).trans hB7).trans hB8).trans hB9).put (Nat.le_refl _) _ _ _ _)
                    | false =>
                      rw [if_neg (by rw [hF]; decide)] at hV
                      have hG := Aside0.mk hV
                      have hA4 := Aside0.mk (at_no g _ 48 hF)
                      clear hV e45 edg ele e42 e34 e58 e63 hE hF
                      generalize bt s 0 = c at *
                      go_enter Tryd.func29, Tryd.ntmps29
                      go_wp2_with (first | (go_at_call 42; refine (fail_calls _ _).mono ?_; rintro e w' ⟨rfl, rfl⟩) | (go_at_call 48; refine (hA4.out _ hR8).mono ?_; rintro e w9 ⟨rfl, hR9, hB9⟩) | (go_at_call 48; refine (hA3.out _ hR7).mono ?_; rintro e w8 ⟨rfl, hR8, hB8⟩) | (go_at_call 48; refine (hA63.out _ hR6).mono ?_; rintro e w7 ⟨rfl, hR7, hB7⟩) | (go_at_call 48; refine (hA58.out _ hR5).mono ?_; rintro e w6 ⟨rfl, hR6, hB6⟩) | (go_at_call 48; refine (hA34.out _ (hI1.out.drewN _)).mono ?_; rintro e w5 ⟨rfl, hR5, hB5⟩) | (go_at_call 45; refine (hle _).mono ?_; rintro e w' ⟨rfl, ⟨q2, rfl⟩⟩) | (go_at_call 43; refine (hdg _).mono ?_; rintro e w' ⟨rfl, ⟨q, rfl⟩⟩))
                      exact ⟨rfl, Gives.dead hG.out ((((((hK1.out.drewN _).trans hB5).trans hB6).trans hB7).trans hB8).trans hB9)⟩
                · rw [if_neg e63] at hV
                  have hG := Aside0.mk hV
                  have hA63 := Aside0.mk (at_no g s 63 (atF_ne s 63 e63))
                  clear hV e45 edg ele e42 e34 e58 e63
                  generalize bt s 0 = c at *
                  go_enter Tryd.func29, Tryd.ntmps29
                  go_wp2_with (first | (go_at_call 42; refine (fail_calls _ _).mono ?_; rintro e w' ⟨rfl, rfl⟩) | (go_at_call 48; refine (hA63.out _ hR6).mono ?_; rintro e w7 ⟨rfl, hR7, hB7⟩) | (go_at_call 48; refine (hA58.out _ hR5).mono ?_; rintro e w6 ⟨rfl, hR6, hB6⟩) | (go_at_call 48; refine (hA34.out _ (hI1.out.drewN _)).mono ?_; rintro e w5 ⟨rfl, hR5, hB5⟩) | (go_at_call 45; refine (hle _).mono ?_; rintro e w' ⟨rfl, ⟨q2, rfl⟩⟩) | (go_at_call 43; refine (hdg _).mono ?_; rintro e w' ⟨rfl, ⟨q, rfl⟩⟩))
                  exact ⟨rfl, Gives.dead hG.out ((((hK1.out.drewN _).trans hB5).trans hB6).trans hB7)⟩
  · rw [if_neg h0] at hV
    have hG := Aside0.mk hV
    have n1 := (empty_eq s h0).1
    have n1b := (empty_eq s h0).2
    clear hV
    go_enter Tryd.func29, Tryd.ntmps29
    go_wp2_with (first | (go_at_call 42; refine (fail_calls _ _).mono ?_; rintro e w' ⟨rfl, rfl⟩))
    exact ⟨rfl, Gives.dead hG.out hK1.out⟩

end Go.Proofs.YtciigmlibnpeeaaDoor.Sf
