/- A text in quotes, read byte by byte. -/
import Derived.Test.YtciigmlibnpeeaaDoorProg
import Derived.Below
import Derived.Deep.Draws
import Derived.Deep.AppendLies
import Derived.Maps.AppendAt
import Derived.OwnWalk
import Derived.Laws.BytesArg
import Derived.Laws.MakeOwn
import Derived.Laws.OwnMore
import Derived.Deep.OwnRows
import Derived.Tactics
import Derived.Lib.ConvBytes
import Derived.Laws.Slices
import Derived.WalkKit
import Derived.KernelRfl
import Derived.RowKit3
import Derived.Deep.LoopGhost
import Derived.Deep.QuietTactic
import Derived.BigQuiet
import Derived.WideLaws
import Derived.Deep.DeepCutAuto
import Derived.Deep.CutBlock
import Derived.Deep.RegionHeld3
import Derived.Laws.Rows
import Derived.Lib.AppendStr
import Derived.ArgAppend
import Derived.Laws.IdiomCopy
import Derived.OrdersHeld
import Derived.Laws.BitsLemmas
import Derived.RowKit
import Derived.Test.YtciigmlibnpeeaaDoorShelf
import Derived.RangeFuncNested
import Derived.RangeFuncBound
import Derived.RangeFuncCalls
import Derived.RangeFuncLeaves
import Derived.RangeFuncBox
import Derived.Shelf.Abstract
import Derived.OwnWalkIn
import Derived.TacticsInMore
import Derived.LoopNIn
import Derived.LoopIn
import Derived.Maps.AppendAt
import Derived.Stop.RegionWithIn
import Derived.Maps.OwnOps
import Derived.Maps.OwnSet
import Derived.Deep.RegionHeld3
import Derived.Recover
import Derived.Defers
import Derived.Test.YtciigmlibnpeeaaDoorWWords
import Derived.Test.YtciigmlibnpeeaaDoorWLast
import Derived.Test.YtciigmlibnpeeaaDoorWTab
import Derived.Test.YtciigmlibnpeeaaDoorWFour
import Derived.Test.YtciigmlibnpeeaaDoorWQPut
import Derived.Test.YtciigmlibnpeeaaDoorWApart
import Derived.Test.YtciigmlibnpeeaaDoorWArr
import Derived.Test.YtciigmlibnpeeaaDoorWZeros
import Derived.Test.YtciigmlibnpeeaaDoorWFoot
import Derived.Test.YtciigmlibnpeeaaDoorWKept
import Derived.Test.YtciigmlibnpeeaaDoorWShare
import Derived.Test.YtciigmlibnpeeaaDoorWN
import Derived.Test.YtciigmlibnpeeaaDoorWFootNe
import Derived.Test.YtciigmlibnpeeaaDoorWAt
import Derived.Test.YtciigmlibnpeeaaDoorWEqStruct
import Derived.Test.YtciigmlibnpeeaaDoorWRepsOne
import Derived.Test.YtciigmlibnpeeaaDoorWInv
import Derived.Test.YtciigmlibnpeeaaDoorWInvWords
import Derived.Test.YtciigmlibnpeeaaDoorWGuard
import Derived.Test.YtciigmlibnpeeaaDoorWNEv
import Derived.Test.YtciigmlibnpeeaaDoorWMore
import Derived.Test.YtciigmlibnpeeaaDoorSf1
import Derived.Test.YtciigmlibnpeeaaDoorSf2
import Derived.Test.YtciigmlibnpeeaaDoorSf3
import Derived.Test.YtciigmlibnpeeaaDoorSf4
import Derived.Test.YtciigmlibnpeeaaDoorSf5
set_option linter.unusedVariables false
set_option linter.unusedSimpArgs false
namespace Go.Proofs.YtciigmlibnpeeaaDoor.Sf
open Go.RowKit Go.Proofs.YtciigmlibnpeeaaDoorW.PrintWords Go.Proofs.YtciigmlibnpeeaaDoorW.PrintLast Go.Proofs.YtciigmlibnpeeaaDoorW.PrintMore
attribute [local go_sem] max2_int min2_int max_two min_two max_three min_three max_four min_four   -- for this text's walks alone
/-- A text in quotes, read byte by byte. -/
def qF : Nat → ByteArray → List Int → Option (ByteArray × ByteArray)
  | 0, _, _ => none
  | d + 1, s, xs => if 0 < s.size then (if bt s 0 = 34 then some (strOfNums xs, tl s)
      else if bt s 0 < 32 ∨ 126 < bt s 0 ∨ (bt s 0 = 92 ∧ ¬ (0 < (tl s).size ∧ wiP (bt (tl s) 0) ⟨#[34, 92]⟩ = true)) then none
      else if bt s 0 = 92 then qF d (tl (tl s)) (xs ++ [bt (tl s) 0]) else qF d (tl s) (xs ++ [bt s 0])) else none
def mkQ (p : ByteArray × ByteArray) : (Int × Int × ByteArray) × ByteArray := ((3, 0, p.1), p.2)
def rdQuoted (s : ByteArray) : Option ((Int × Int × ByteArray) × ByteArray) := (qF (s.size + 1) s []).map mkQ
theorem tl_lt (s : ByteArray) (h : 0 < s.size) : (tl s).size + 1 = s.size := by unfold tl; rw [ByteArray.size_extract]; omega
theorem KB.belowB {g B : Nat} {w w1 w2 : World} (h : KB g w w1) (k : Below B w1 w2) (hB : w.heap.size ≤ B) : KB g w w2 :=
  ⟨k.os.trans h.os, k.tape.trans h.tape, k.output.trans h.output, Nat.le_trans h.size k.size, fun i hi hg => (k.block i (Nat.lt_of_lt_of_le hi hB)).trans (h.block i hi hg)⟩
theorem hx_at (t : ByteArray) (h0 : 0 < t.size) : ∀ h : 0 < t.size, ((t[0]'h).toNat : Int) = bt t 0 := bt_at t 0
set_option maxHeartbeats 4000000 in
set_option maxRecDepth 100000 in
theorem quoted_calls (g : Nat) (s : ByteArray) (w : World) (hs : s.size ≤ 140737488351232) (hI : Rd w g s) :
    Calls Tryd.prog 49 #[.pointer (some ⟨g, 0, none⟩)] w fun e w' => Gives g w encP (rdQuoted s) e w' := by
  have hI1 := Aside0.mk (hI.alloc (.cells #[.string ⟨#[]⟩, .int .i64 0, .int .i64 0, .string ⟨#[]⟩] 52))
  have hP1 := Aside0.mk (PB.new w)
  have hK1 := Aside0.mk ((KB.refl g w).alloc (.cells #[.string ⟨#[]⟩, .int .i64 0, .int .i64 0, .string ⟨#[]⟩] 52))
  have hne : w.heap.size ≠ g := by have := hI.lt; omega
  clear hI
  go_enter Tryd.func49, Tryd.ntmps49
  go_wp2
  go_loopg [3, 4] (s.size + 1) (fun gf v3 v4 wx => ∃ (t : ByteArray) (xs : List Int), Aside0 (Kd.R (Kd.int .u8) 5 wx (w.heap.size + 1) (fun _ => True) v3 xs) ∧ Aside0 (Rd wx g t) ∧ Aside0 (PB wx w.heap.size ⟨#[]⟩ 0 0 ⟨#[]⟩) ∧ Aside0 (KB g w wx) ∧ Aside0 (rdQuoted s = (qF gf t xs).map mkQ) ∧ t.size < gf ∧ xs.length + t.size ≤ s.size)
  case atStart => exact ⟨s, [], ⟨Kd.R_nil _ _ _ _ _⟩, hI1, hP1, hK1, ⟨rfl⟩, by omega, by simp⟩
  case round =>
    clear hI1 hP1 hK1
    obtain ⟨t, xs, HR, HD, HP, HK, HQ, hlt, hln⟩ := hrel
    obtain ⟨g', rfl⟩ : ∃ g', gk = g' + 1 := ⟨gk - 1, by omega⟩
    have hc := HD.out.cell
    have hf := HD.out.frozen
    have hS : w.heap.size + 1 ≤ wr.heap.size := by have := blk_lt HP.out; omega
    have hq : rdQuoted s = (qF (g' + 1) t xs).map mkQ := HQ.out
    clear HQ
    rw [qF] at hq
    by_cases h0 : 0 < t.size
    · rw [if_pos h0] at hq
      have htl := tl_lt t h0
      have n1 := (nonempty_ne t h0).1
      have n1b := (nonempty_ne t h0).2
      have hx6 := hx_at t h0
      have q6 := eq_true h0
      have qi6 : (0 < (t.size : Int)) = True := eq_true (by omega)
      have q7 : (1 ≤ (t.size : Int)) = True := eq_true (by omega)
      have q7b : (1 ≤ t.size) = True := eq_true (by omega)
      have HR2 := Aside0.mk (Kd.R_set HR.out HD.out (by decide) 0 (.string (t.extract 1 t.size)))
      have HD2 := Aside0.mk (show Rd (wr.setCell ⟨g, 0, none⟩ (.string (t.extract 1 t.size))) g (tl t) from HD.out.set (tl t))
      have HP2 := Aside0.mk (HP.out.far (p := ⟨g, 0, none⟩) hne (.string (t.extract 1 t.size)))
      have HK2 := Aside0.mk (HK.out.set 0 (.string (t.extract 1 t.size)))
      have hS2 : w.heap.size + 1 ≤ (wr.setCell ⟨g, 0, none⟩ (.string (t.extract 1 t.size))).heap.size := by simpa [World.setCell] using hS
      have hqq := hq
      clear hq
      have hcc : bt t 0 = bt t 0 := rfl
      by_cases e34 : bt t 0 = 34
      · rw [if_pos e34] at hqq
        have b34 : (bt t 0 == 34) = true := by simp [e34]
        have HG : Aside0 (rdQuoted s = some ((3, 0, strOfNums xs), tl t)) := ⟨hqq⟩
        clear hqq e34 hcc
        obtain ⟨A3, c3, hv3⟩ := Kd.R_slice HR.out
        subst hv3
        have hcv : (convert 42 9 (.slice A3 xs.length c3)).run Tryd.prog (wr.setCell ⟨g, 0, none⟩ (.string (t.extract 1 t.size))) = .ok (.string (strOfNums xs)) (wr.setCell ⟨g, 0, none⟩ (.string (t.extract 1 t.size))) := Kd.C_string Tryd.underlying42 Tryd.underlying5 Tryd.underlying9 (Kd.R_reads' HR2.out).2.2
        generalize bt t 0 = c at *
        have hp0 := HP2.out.c0
        have hp1 := HP2.out.c1
        have hp2 := HP2.out.c2
        have hp3 := HP2.out.c3
        have hf0 := HP2.out.fr 0
        have hf1 := HP2.out.fr 1
        have hf2 := HP2.out.fr 2
        have hf3 := HP2.out.fr 3
        go_wp2
        refine bodyPost_ret (results_cell_row rfl _ _ w.heap.size 52 #[.string ⟨#[]⟩, .int .i64 3, .int .i64 0, .string (strOfNums xs)] (0, 0) _ rfl (HP2.out.put ⟨#[]⟩ 3 0 (strOfNums xs)) Tryd.underlying52 rfl (by kernel_rfl)) rfl ?_
        exact Gives.ok HG.out rfl (HD2.out.put (fun e => hne e.symm) _ _ _ _) (HK2.out.put (Nat.le_refl _) _ _ _ _)
      · rw [if_neg e34] at hqq
        have b34 : (bt t 0 == 34) = false := by simp [e34]
        obtain ⟨t1, ht1⟩ : ∃ t1, tl t = t1 := ⟨_, rfl⟩
        have ht1' : t.extract 1 t.size = t1 := ht1
        rw [ht1] at hqq htl HD2
        rw [ht1'] at HR2 HD2 HP2 HK2 hS2
        clear e34 hcc
        by_cases e1 : bt t 0 < 32
        · rw [if_pos (Or.inl e1)] at hqq
          have HG : Aside0 (rdQuoted s = none) := ⟨hqq⟩
          have d1 : decide (bt t 0 < 32) = true := decide_eq_true e1
          clear hqq e1
          generalize bt t 0 = c at *
          go_wp2_with (first | (go_at_call 42; refine (fail_calls _ _).mono ?_; rintro e w' ⟨rfl, rfl⟩))
          exact ⟨rfl, Gives.dead HG.out HK2.out⟩
        · have d1 : decide (bt t 0 < 32) = false := decide_eq_false e1
          by_cases e2 : 126 < bt t 0
          · rw [if_pos (Or.inr (Or.inl e2))] at hqq
            have HG : Aside0 (rdQuoted s = none) := ⟨hqq⟩
            have d2 : decide (126 < bt t 0) = true := decide_eq_true e2
            clear hqq e1 e2
            generalize bt t 0 = c at *
            go_wp2_with (first | (go_at_call 42; refine (fail_calls _ _).mono ?_; rintro e w' ⟨rfl, rfl⟩))
            exact ⟨rfl, Gives.dead HG.out HK2.out⟩
          · have d2 : decide (126 < bt t 0) = false := decide_eq_false e2
            by_cases e3 : bt t 0 = 92
            · have d3 : (bt t 0 == 92) = true := by simp [e3]
              by_cases e4 : 0 < t1.size
              · have n2 := (nonempty_ne t1 e4).1
                have hx7 := hx_at t1 e4
                have q8 := eq_true e4
                have qi8 : (0 < (t1.size : Int)) = True := eq_true (by omega)
                have q9 : (1 ≤ (t1.size : Int)) = True := eq_true (by omega)
                have q9b : (1 ≤ t1.size) = True := eq_true (by omega)
                have htl2 := tl_lt t1 e4
                cases e5 : wiP (bt t1 0) ⟨#[34, 92]⟩ with
                | false =>
                  rw [if_pos (Or.inr (Or.inr ⟨e3, fun h => by rw [e5] at h; exact absurd h.2 (by decide)⟩))] at hqq
                  have HG : Aside0 (rdQuoted s = none) := ⟨hqq⟩
                  have hwi := fun W => asks_within (bt t1 0) ⟨#[34, 92]⟩ W
                  rw [e5] at hwi
                  clear hqq e1 e2 e3 e5
                  generalize bt t 0 = c at *
                  generalize bt t1 0 = c1 at *
                  go_wp2_with (first | (go_at_call 63; refine (hwi _).mono ?_; rintro e w' ⟨rfl, ⟨q, rfl⟩⟩) | (go_at_call 42; refine (fail_calls _ _).mono ?_; rintro e w' ⟨rfl, rfl⟩))
                  exact ⟨rfl, Gives.dead HG.out (HK2.out.drewN _)⟩
                | true =>
                  rw [if_neg (fun h => h.elim e1 (fun h => h.elim e2 (fun h => h.2 ⟨e4, e5⟩))), if_pos e3] at hqq
                  have hwi := fun W => asks_within (bt t1 0) ⟨#[34, 92]⟩ W
                  rw [e5] at hwi
                  obtain ⟨t2, ht2⟩ : ∃ t2, tl t1 = t2 := ⟨_, rfl⟩
                  have ht2' : t1.extract 1 t1.size = t2 := ht2
                  rw [ht2] at hqq htl2
                  have HG := Aside0.mk hqq
                  clear hqq e1 e2 e3 e5
                  generalize bt t 0 = c at *
                  generalize bt t1 0 = c1 at *
                  go_upto_region 12 with (first | (go_at_call 63; refine (hwi _).mono ?_; rintro e w' ⟨rfl, ⟨q, rfl⟩⟩))
                  have HRq := Aside0.mk (Kd.R_set (Kd.R_drewN HR2.out q) (HD2.out.drewN q) (by decide) 0 (.string t2))
                  have HDq := Aside0.mk ((HD2.out.drewN q).set t2)
                  have HPq := Aside0.mk ((HP2.out.drewN q).far (p := ⟨g, 0, none⟩) hne (.string t2))
                  have HKq := Aside0.mk ((HK2.out.drewN q).set 0 (.string t2))
                  have hSq : w.heap.size + 1 ≤ (((wr.setCell ⟨g, 0, none⟩ (.string t1)).drewN q).setCell ⟨g, 0, none⟩ (.string t2)).heap.size := by simpa [World.setCell] using hS
                  clear HR2 HD2 HP2 HK2 hS2 HR HD HP HK hc hf
                  generalize ((wr.setCell ⟨g, 0, none⟩ (.string t1)).drewN q).setCell ⟨g, 0, none⟩ (.string t2) = w9 at *
                  go_wp2_with (first | ((with_reducible refine gate_builtin (b := .append) (xs := #[.tmp 74, .tmp 76]) rfl ?_); at_builtin; refine Kd.R_append (Kd.int .u8) (w0 := w9) (w.heap.size + 1) rfl (.tmp 74) (.tmp 76) 42 5 (.int .u8 0) 1 rfl Tryd.underlying42 (by kernel_rfl) rfl (by decide) (by omega) u3 xs c1 [.int .u8 c1] (fun _ => True) (fun _ => False) rfl rfl ?aP (fun _ hk => hk.elim) ?aF ?aO ?aB ?aS ?aL ?_; (case aP => exact rfl); (case aF => exact (fun _ _ => trivial)); (case aO => exact HRq.out); (case aB => exact Below.refl _ _); (case aS => exact hSq); (case aL => omega); intro v1 w1 ho1 hb1 hg1 hat1; have hR1 : Rd w1 g _ := blk_grown HDq.out hg1 (Kd.R_ne HRq.out HDq.out (by decide)); have hP1 : PB w1 w.heap.size ⟨#[]⟩ 0 0 ⟨#[]⟩ := blk_grown HPq.out hg1 (Kd.R_ne HRq.out HPq.out (by decide)); have hK1 := HKq.out.belowB hb1 (by omega); have HO1 := Aside0.mk ho1; have HR1 := Aside0.mk hR1; have HP1 := Aside0.mk hP1; have HK1 := Aside0.mk hK1; clear ho1 hb1 hg1 hat1 hR1 hP1 hK1))
                  go_roundg g'
                  case measure => omega
                  case rel => exact ⟨t2, xs ++ [c1], HO1, HR1, HP1, HK1, HG, by omega, by simp only [List.length_append, List.length_cons, List.length_nil]; omega⟩
              · rw [if_pos (Or.inr (Or.inr ⟨e3, fun h => e4 h.1⟩))] at hqq
                have HG : Aside0 (rdQuoted s = none) := ⟨hqq⟩
                have n2 := (empty_eq t1 e4).1
                clear hqq e1 e2 e3
                generalize bt t 0 = c at *
                go_wp2_with (first | (go_at_call 42; refine (fail_calls _ _).mono ?_; rintro e w' ⟨rfl, rfl⟩))
                exact ⟨rfl, Gives.dead HG.out HK2.out⟩
            · have d3 : (bt t 0 == 92) = false := by simp [e3]
              rw [if_neg (fun h => h.elim e1 (fun h => h.elim e2 (fun h => e3 h.1))), if_neg e3] at hqq
              have HG := Aside0.mk hqq
              clear hqq e1 e2 e3
              generalize bt t 0 = c at *
              go_upto_region 12 with (fail)
              have HRq := HR2
              have HDq := HD2
              have HPq := HP2
              have HKq := HK2
              have hSq := hS2
              clear HR2 HD2 HP2 HK2 hS2 HR HD HP HK hc hf
              generalize wr.setCell ⟨g, 0, none⟩ (.string t1) = w9 at *
              go_wp2_with (first | ((with_reducible refine gate_builtin (b := .append) (xs := #[.tmp 74, .tmp 76]) rfl ?_); at_builtin; refine Kd.R_append (Kd.int .u8) (w0 := w9) (w.heap.size + 1) rfl (.tmp 74) (.tmp 76) 42 5 (.int .u8 0) 1 rfl Tryd.underlying42 (by kernel_rfl) rfl (by decide) (by omega) u3 xs c [.int .u8 c] (fun _ => True) (fun _ => False) rfl rfl ?aP (fun _ hk => hk.elim) ?aF ?aO ?aB ?aS ?aL ?_; (case aP => exact rfl); (case aF => exact (fun _ _ => trivial)); (case aO => exact HRq.out); (case aB => exact Below.refl _ _); (case aS => exact hSq); (case aL => omega); intro v1 w1 ho1 hb1 hg1 hat1; have hR1 : Rd w1 g _ := blk_grown HDq.out hg1 (Kd.R_ne HRq.out HDq.out (by decide)); have hP1 : PB w1 w.heap.size ⟨#[]⟩ 0 0 ⟨#[]⟩ := blk_grown HPq.out hg1 (Kd.R_ne HRq.out HPq.out (by decide)); have hK1 := HKq.out.belowB hb1 (by omega); have HO1 := Aside0.mk ho1; have HR1 := Aside0.mk hR1; have HP1 := Aside0.mk hP1; have HK1 := Aside0.mk hK1; clear ho1 hb1 hg1 hat1 hR1 hP1 hK1))
              go_roundg g'
              case measure => omega
              case rel => exact ⟨t1, xs ++ [c], HO1, HR1, HP1, HK1, HG, by omega, by simp only [List.length_append, List.length_cons, List.length_nil]; omega⟩
    · rw [if_neg h0] at hq
      have HG : Aside0 (rdQuoted s = none) := ⟨hq⟩
      have n1 := (empty_eq t h0).1
      have n1b := (empty_eq t h0).2
      clear hq
      go_wp2_with (first | (go_at_call 42; refine (fail_calls _ _).mono ?_; rintro e w' ⟨rfl, rfl⟩))
      exact ⟨rfl, Gives.dead HG.out HK.out⟩

end Go.Proofs.YtciigmlibnpeeaaDoor.Sf
