-- Laid by this seat's own driver (wip/tools/drive.py) out of the translation.
import Derived.Test.YtciigmlibnpeeaaDoorQx0
import Derived.Test.YtciigmlibnpeeaaDoorQx1
import Derived.Test.YtciigmlibnpeeaaDoorQx2
import Derived.Test.YtciigmlibnpeeaaDoorQx5
namespace Go.Proofs.YtciigmlibnpeeaaDoor.Q
open Go.RowKit Go.Proofs.YtciigmlibnpeeaaDoorW.PrintWords Go.Proofs.YtciigmlibnpeeaaDoorW.PrintLast Go.Proofs.YtciigmlibnpeeaaDoorW.PrintMore
attribute [local go_sem] max2_int min2_int max_two min_two max_three min_three max_four min_four   -- for this text's walks alone
set_option linter.unusedVariables false
set_option linter.unusedSimpArgs false

attribute [local go_sem high] eqA26 eqA29
/-! ### coop_Isolates: function 13 -/
def coop_Isolates.f (a0 : Int) : Option (Bool) := if a0 = 1 then (some true) else (some (a0 == 2))
set_option maxHeartbeats 8000000 in
set_option maxRecDepth 100000 in
theorem coop_Isolates.calls (a0 : Int) (r : Bool) (w : World) (h : coop_Isolates.f a0 = some r) :
    Calls Tryd.prog 13 #[.int .i64 a0] w fun e w' => e = .returned (.bool r) ∧ Drawn0 w w' := by
  have H : (if a0 = 1 then (some true) else (some (a0 == 2))) = some r := h
  clear h
  by_cases c2 : a0 = 1
  · rw [if_pos c2] at H
    have c2b0 : (a0 == 1) = true := beq_iff_eq.mpr c2
    have c2b1 : (a0 != 1) = false := bne_eq_false_iff_eq.mpr c2
    clear c2
    obtain rfl := Option.some.inj H
    go_enter Tryd.func13, Tryd.ntmps13
    go_wp2
    go_ret
    exact ⟨by first | rfl | (simp; done) | (simp [*]; done) | (simp [q_ne_nil]; done), by repeat (first | exact Drawn0.refl _ | apply Drawn0.step)⟩
  · rw [if_neg c2] at H
    have c2b0 : (a0 == 1) = false := beq_eq_false_iff_ne.mpr c2
    have c2b1 : (a0 != 1) = true := bne_iff_ne.mpr c2
    obtain rfl := Option.some.inj H
    go_enter Tryd.func13, Tryd.ntmps13
    go_wp2
    go_ret
    exact ⟨by first | rfl | (simp; done) | (simp [*]; done) | (simp [q_ne_nil]; done), by repeat (first | exact Drawn0.refl _ | apply Drawn0.step)⟩

/-! ### glacislaw08_Few: function 8 -/
def glacislaw08_Few.l0 : Nat → List (S33) → Int → Option (Bool)
  | 0, _, _ => none
  | k + 1, x0, x3 => if x3 < (x0.length : Int) then (if 0 ≤ x3 then (if (((rd_T33 x0 x3).f0).size : Int) > 200 then (some false) else (if (((rd_T33 x0 x3).f1).size : Int) > 4000 then (some false) else (glacislaw08_Few.l0 k x0 (wrap64 (x3 + 1))))) else (none)) else (some true)
def glacislaw08_Few.f (k : Nat) (l0 : List (S33)) : Option (Bool) := if (l0.length : Int) > 100 then (some false) else (glacislaw08_Few.l0 k l0 0)
theorem glacislaw08_Few.mono_l : ∀ k, (∀ y0 y1, LeO (glacislaw08_Few.l0 k y0 y1) (glacislaw08_Few.l0 (k + 1) y0 y1))
  | 0 => fun _ _ r h => by simp [glacislaw08_Few.l0] at h
  | k + 1 => by
    have ih0 := glacislaw08_Few.mono_l k
    · intro y0 y1
      unfold glacislaw08_Few.l0
      repeat' first
      | (with_reducible exact ih0 _ _)
      | (with_reducible exact LeO.refl _)
      | (with_reducible exact LeO.none _)
      | (with_reducible refine LeO.ite ?_ ?_)
      | (with_reducible refine LeO.bind ?_ (fun _ => ?_))
      | exact ih0 _ _
      | exact LeO.none _
      | refine LeO.ite ?_ ?_
      | refine LeO.bind ?_ (fun _ => ?_)
theorem glacislaw08_Few.mono : ∀ a0 k, LeO (glacislaw08_Few.f k a0) (glacislaw08_Few.f (k + 1) a0) := by
  intro a0 k
  have ih0 := glacislaw08_Few.mono_l k
  unfold glacislaw08_Few.f
  repeat' first
      | (with_reducible exact ih0 _ _)
      | (with_reducible exact LeO.refl _)
      | (with_reducible exact LeO.none _)
      | (with_reducible refine LeO.ite ?_ ?_)
      | (with_reducible refine LeO.bind ?_ (fun _ => ?_))
      | exact ih0 _ _
      | exact LeO.none _
      | refine LeO.ite ?_ ?_
      | refine LeO.bind ?_ (fun _ => ?_)
set_option maxHeartbeats 8000000 in
set_option maxRecDepth 100000 in
theorem glacislaw08_Few.calls (k : Nat) (A0 : Option Addr) (c0 : Nat) (l0 : List (S33)) (r : Bool) (w : World) (hr0 : Kd.C k33 w A0 l0.length l0) (hc0 : l0.length ≤ c0) (h : glacislaw08_Few.f k l0 = some r) :
    Calls Tryd.prog 8 #[.slice A0 l0.length c0] w fun e w' => e = .returned (.bool r) ∧ Drawn0 w w' := by
  have HR0 := Aside0.mk hr0
  have HC0 := Aside0.mk hc0
  clear hr0 hc0
  have H : (if (l0.length : Int) > 100 then (some false) else (glacislaw08_Few.l0 k l0 0)) = some r := h
  clear h
  by_cases c2 : (l0.length : Int) > 100
  · rw [if_pos c2] at H
    have c2b0 : decide (100 < (l0.length : Int)) = true := decide_eq_true c2
    have c2b1 : decide (100 < l0.length) = true := decide_eq_true (by omega)
    clear c2
    obtain rfl := Option.some.inj H
    go_enter Tryd.func8, Tryd.ntmps8
    go_wp2
    go_ret
    exact ⟨by first | rfl | (simp; done) | (simp [*]; done) | (simp [q_ne_nil]; done), by repeat (first | exact Drawn0.refl _ | apply Drawn0.step)⟩
  · rw [if_neg c2] at H
    have c2b0 : decide (100 < (l0.length : Int)) = false := decide_eq_false c2
    have c2b1 : decide (100 < l0.length) = false := decide_eq_false (by omega)
    clear c2
    have H' := Aside0.mk H
    clear H
    go_enter Tryd.func8, Tryd.ntmps8
    go_wp2
    go_loopg [3] k (fun kq v3 w' => ∃ (x3_1 : Int), v3 = .int .i64 x3_1 ∧ Aside0 (glacislaw08_Few.l0 kq l0 x3_1 = some r) ∧ Aside0 (kq ≤ k) ∧ Drawn0 w w')
    case atStart => exact ⟨(0), (by first | rfl | (simp; done) | (simp [*]; done) | (simp [q_ne_nil]; done)), H', ⟨Nat.le_refl _⟩, by repeat (first | exact Drawn0.refl _ | apply Drawn0.step)⟩
    case round =>
      clear H'
      try clear c2
      try clear c2b0
      try clear c2b1
      try clear p2
      obtain ⟨x3_1, rfl, HA, HK1, ⟨m1, rfl⟩⟩ := hrel
      cases gk with
      | zero => exact absurd HA.out (by simp [glacislaw08_Few.l0])
      | succ k1 =>
        have H := HA.out
        clear HA
        simp only [glacislaw08_Few.l0] at H
        by_cases c3 : x3_1 < (l0.length : Int)
        · rw [if_pos c3] at H
          have c3b0 : decide (x3_1 < (l0.length : Int)) = true := decide_eq_true c3
          clear c3
          by_cases c4 : 0 ≤ x3_1
          · rw [if_pos c4] at H
            have c4b0 : decide (0 ≤ x3_1) = true := decide_eq_true c4
            clear c4
            by_cases c5 : (((rd_T33 l0 x3_1).f0).size : Int) > 200
            · rw [if_pos c5] at H
              have c5b0 : decide (200 < (((rd_T33 l0 x3_1).f0).size : Int)) = true := decide_eq_true c5
              have c5b1 : decide (200 < ((rd_T33 l0 x3_1).f0).size) = true := decide_eq_true (by omega)
              clear c5
              obtain rfl := Option.some.inj H
              have p155 : 0 ≤ (x3_1 : Int) := of_decide_eq_true (by first | (with_reducible assumption) | assumption)
              have q155 : x3_1 < (l0.length : Int) := of_decide_eq_true (by first | (with_reducible assumption) | assumption)
              obtain ⟨ad155, e155, hx155_0, hx155_1⟩ := at_T33 HR0.out x3_1 p155 q155
              cases e155
              replace p155 := eq_true p155
              replace q155 := eq_true q155
              go_wp2
              go_ret
              exact ⟨by first | rfl | (simp; done) | (simp [*]; done) | (simp [q_ne_nil]; done), by repeat (first | exact Drawn0.refl _ | apply Drawn0.step)⟩
            · rw [if_neg c5] at H
              have c5b0 : decide (200 < (((rd_T33 l0 x3_1).f0).size : Int)) = false := decide_eq_false c5
              have c5b1 : decide (200 < ((rd_T33 l0 x3_1).f0).size) = false := decide_eq_false (by omega)
              clear c5
              by_cases c6 : (((rd_T33 l0 x3_1).f1).size : Int) > 4000
              · rw [if_pos c6] at H
                have c6b0 : decide (4000 < (((rd_T33 l0 x3_1).f1).size : Int)) = true := decide_eq_true c6
                have c6b1 : decide (4000 < ((rd_T33 l0 x3_1).f1).size) = true := decide_eq_true (by omega)
                clear c6
                obtain rfl := Option.some.inj H
                have p155 : 0 ≤ (x3_1 : Int) := of_decide_eq_true (by first | (with_reducible assumption) | assumption)
                have q155 : x3_1 < (l0.length : Int) := of_decide_eq_true (by first | (with_reducible assumption) | assumption)
                obtain ⟨ad155, e155, hx155_0, hx155_1⟩ := at_T33 HR0.out x3_1 p155 q155
                cases e155
                replace p155 := eq_true p155
                replace q155 := eq_true q155
                have p156 : 0 ≤ (x3_1 : Int) := of_decide_eq_true (by first | (with_reducible assumption) | assumption)
                have q156 : x3_1 < (l0.length : Int) := of_decide_eq_true (by first | (with_reducible assumption) | assumption)
                obtain ⟨ad156, e156, hx156_0, hx156_1⟩ := at_T33 HR0.out x3_1 p156 q156
                obtain rfl : ad155 = ad156 := (by injection e156)
                replace p156 := eq_true p156
                replace q156 := eq_true q156
                go_wp2
                go_ret
                exact ⟨by first | rfl | (simp; done) | (simp [*]; done) | (simp [q_ne_nil]; done), by repeat (first | exact Drawn0.refl _ | apply Drawn0.step)⟩
              · rw [if_neg c6] at H
                have c6b0 : decide (4000 < (((rd_T33 l0 x3_1).f1).size : Int)) = false := decide_eq_false c6
                have c6b1 : decide (4000 < ((rd_T33 l0 x3_1).f1).size) = false := decide_eq_false (by omega)
                clear c6
                have H' := Aside0.mk H
                clear H
                have p155 : 0 ≤ (x3_1 : Int) := of_decide_eq_true (by first | (with_reducible assumption) | assumption)
                have q155 : x3_1 < (l0.length : Int) := of_decide_eq_true (by first | (with_reducible assumption) | assumption)
                obtain ⟨ad155, e155, hx155_0, hx155_1⟩ := at_T33 HR0.out x3_1 p155 q155
                cases e155
                replace p155 := eq_true p155
                replace q155 := eq_true q155
                have p156 : 0 ≤ (x3_1 : Int) := of_decide_eq_true (by first | (with_reducible assumption) | assumption)
                have q156 : x3_1 < (l0.length : Int) := of_decide_eq_true (by first | (with_reducible assumption) | assumption)
                obtain ⟨ad156, e156, hx156_0, hx156_1⟩ := at_T33 HR0.out x3_1 p156 q156
                obtain rfl : ad155 = ad156 := (by injection e156)
                replace p156 := eq_true p156
                replace q156 := eq_true q156
                go_wp2
                go_roundg k1
                case measure => have := HK1.out; omega
                case rel => exact ⟨(wrap64 (x3_1 + 1)), (by first | rfl | (simp; done) | (simp [*]; done) | (simp [q_ne_nil]; done)), H', ⟨by have := HK1.out; omega⟩, by repeat (first | exact Drawn0.refl _ | apply Drawn0.step)⟩
          · rw [if_neg c4] at H
            exact absurd H (by simp)
        · rw [if_neg c3] at H
          have c3b0 : decide (x3_1 < (l0.length : Int)) = false := decide_eq_false c3
          clear c3
          obtain rfl := Option.some.inj H
          go_wp2
          go_ret
          exact ⟨by first | rfl | (simp; done) | (simp [*]; done) | (simp [q_ne_nil]; done), by repeat (first | exact Drawn0.refl _ | apply Drawn0.step)⟩
end Go.Proofs.YtciigmlibnpeeaaDoor.Q
