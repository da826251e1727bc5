-- Laid by this seat's own driver (wip/tools/drive.py) out of the translation.
import Derived.Test.YtabjpoapnbkljaaDoorQx0
import Derived.Test.YtabjpoapnbkljaaDoorQx3
namespace Go.Proofs.YtabjpoapnbkljaaDoor.Q
open Go.RowKit Go.Proofs.YtabjpoapnbkljaaDoorW.PrintWords Go.Proofs.YtabjpoapnbkljaaDoorW.PrintLast Go.Proofs.YtabjpoapnbkljaaDoorW.PrintMore
attribute [local go_sem] max2_int min2_int max_two min_two max_three min_three max_four min_four   -- for this text's walks alone
set_option linter.unusedVariables false
set_option linter.unusedSimpArgs false

/-! ### urlp_scheme: function 26 -/
def urlp_scheme.l0 : Nat → ByteArray → Int → Int → Option (Bool)
  | 0, _, _, _ => none
  | k + 1, x0, x7, x8 => if x8 < x7 then (if 0 ≤ x8 then (if x8 < (x0.size : Int) then (if (bt x0 x8) ≥ 97 then (if ((bt x0 x8) ≤ 122) then (urlp_scheme.l0 k x0 x7 (wrap64 (x8 + 1))) else (if x8 = 0 then (some false) else (if (bt x0 x8) < 48 then ((strings_IndexByte.f (⟨#[43, 45, 46]⟩ : ByteArray) (bt x0 x8)).bind fun t131 => (if t131 < 0 then (some false) else (urlp_scheme.l0 k x0 x7 (wrap64 (x8 + 1))))) else (if (bt x0 x8) > 57 then ((strings_IndexByte.f (⟨#[43, 45, 46]⟩ : ByteArray) (bt x0 x8)).bind fun t132 => (if t132 < 0 then (some false) else (urlp_scheme.l0 k x0 x7 (wrap64 (x8 + 1))))) else (urlp_scheme.l0 k x0 x7 (wrap64 (x8 + 1))))))) else (if x8 = 0 then (some false) else (if (bt x0 x8) < 48 then ((strings_IndexByte.f (⟨#[43, 45, 46]⟩ : ByteArray) (bt x0 x8)).bind fun t133 => (if t133 < 0 then (some false) else (urlp_scheme.l0 k x0 x7 (wrap64 (x8 + 1))))) else (if (bt x0 x8) > 57 then ((strings_IndexByte.f (⟨#[43, 45, 46]⟩ : ByteArray) (bt x0 x8)).bind fun t134 => (if t134 < 0 then (some false) else (urlp_scheme.l0 k x0 x7 (wrap64 (x8 + 1))))) else (urlp_scheme.l0 k x0 x7 (wrap64 (x8 + 1))))))) else (none)) else (none)) else (some (x0.toList != ([] : List UInt8)))
def urlp_scheme.f (k : Nat) (a0 : ByteArray) : Option (Bool) := urlp_scheme.l0 k a0 (a0.size : Int) 0
theorem urlp_scheme.mono_l : ∀ k, (∀ y0 y1 y2, LeO (urlp_scheme.l0 k y0 y1 y2) (urlp_scheme.l0 (k + 1) y0 y1 y2))
  | 0 => fun _ _ _ r h => by simp [urlp_scheme.l0] at h
  | k + 1 => by
    have ih0 := urlp_scheme.mono_l k
    · intro y0 y1 y2
      unfold urlp_scheme.l0
      repeat' first
      | (with_reducible exact ih0 _ _ _)
      | (with_reducible exact LeO.refl _)
      | (with_reducible exact LeO.none _)
      | (with_reducible refine LeO.ite ?_ ?_)
      | (with_reducible refine LeO.bind ?_ (fun _ => ?_))
      | exact ih0 _ _ _
      | exact LeO.none _
      | refine LeO.ite ?_ ?_
      | refine LeO.bind ?_ (fun _ => ?_)
theorem urlp_scheme.mono : ∀ a0 k, LeO (urlp_scheme.f k a0) (urlp_scheme.f (k + 1) a0) := by
  intro a0 k
  have ih0 := urlp_scheme.mono_l k
  unfold urlp_scheme.f
  repeat' first
      | (with_reducible exact ih0 _ _ _)
      | (with_reducible exact LeO.refl _)
      | (with_reducible exact LeO.none _)
      | (with_reducible refine LeO.ite ?_ ?_)
      | (with_reducible refine LeO.bind ?_ (fun _ => ?_))
      | exact ih0 _ _ _
      | exact LeO.none _
      | refine LeO.ite ?_ ?_
      | refine LeO.bind ?_ (fun _ => ?_)
set_option maxHeartbeats 8000000 in
set_option maxRecDepth 100000 in
theorem urlp_scheme.calls (k : Nat) (a0 : ByteArray) (r : Bool) (w : World) (h : urlp_scheme.f k a0 = some r) :
    Calls Tryd.prog 26 #[.string a0] w fun e w' => e = .returned (.bool r) ∧ Drawn0 w w' := by
  have H : (urlp_scheme.l0 k a0 (a0.size : Int) 0) = some r := h
  clear h
  have H' := Aside0.mk H
  clear H
  go_enter Tryd.func26, Tryd.ntmps26
  go_wp2
  go_loopg [8] k (fun kq v8 w' => ∃ (x8_1 : Int), v8 = .int .i64 x8_1 ∧ Aside0 (urlp_scheme.l0 kq a0 (a0.size : Int) x8_1 = some r) ∧ Aside0 (kq ≤ k) ∧ Drawn0 w w')
  case atStart => exact ⟨(0), (by first | rfl | (simp; done) | (simp [*]; done) | (simp [q_ne_nil]; done)), H', ⟨Nat.le_refl _⟩, by repeat (first | exact Drawn0.refl _ | apply Drawn0.step)⟩
  case round =>
    clear H'
    obtain ⟨x8_1, rfl, HA, HK1, ⟨m1, rfl⟩⟩ := hrel
    cases gk with
    | zero => exact absurd HA.out (by simp [urlp_scheme.l0])
    | succ k1 =>
      have H := HA.out
      clear HA
      simp only [urlp_scheme.l0] at H
      by_cases c2 : x8_1 < (a0.size : Int)
      · rw [if_pos c2] at H
        have c2b0 : decide (x8_1 < (a0.size : Int)) = true := decide_eq_true c2
        clear c2
        by_cases c3 : 0 ≤ x8_1
        · rw [if_pos c3] at H
          have c3b0 : decide (0 ≤ x8_1) = true := decide_eq_true c3
          clear c3
          by_cases c4 : x8_1 < (a0.size : Int)
          · rw [if_pos c4] at H
            have c4b0 : decide (x8_1 < (a0.size : Int)) = true := decide_eq_true c4
            clear c4
            by_cases c6 : (bt a0 x8_1) ≥ 97
            · rw [if_pos c6] at H
              have c6b0 : decide (97 ≤ (bt a0 x8_1)) = true := decide_eq_true c6
              clear c6
              by_cases c7 : ((bt a0 x8_1) ≤ 122)
              · rw [if_pos c7] at H
                have c7b0 : decide ((bt a0 x8_1) ≤ 122) = true := decide_eq_true c7
                clear c7
                have H' := Aside0.mk H
                clear H
                have p5 : 0 ≤ (x8_1 : Int) := of_decide_eq_true (by first | (with_reducible assumption) | assumption)
                have q5 : x8_1 < (a0.size : Int) := of_decide_eq_true (by first | (with_reducible assumption) | assumption)
                have hx5 := bt_at a0 x8_1
                replace p5 := eq_true p5
                replace q5 := eq_true q5
                go_wp2
                go_roundg k1
                case measure => have := HK1.out; omega
                case rel => exact ⟨(wrap64 (x8_1 + 1)), (by first | rfl | (simp; done) | (simp [*]; done) | (simp [q_ne_nil]; done)), H', ⟨by have := HK1.out; omega⟩, by repeat (first | exact Drawn0.refl _ | apply Drawn0.step)⟩
              · rw [if_neg c7] at H
                have c7b0 : decide ((bt a0 x8_1) ≤ 122) = false := decide_eq_false c7
                clear c7
                by_cases c8 : x8_1 = 0
                · rw [if_pos c8] at H
                  have c8b0 : (x8_1 == 0) = true := beq_iff_eq.mpr c8
                  have c8b1 : (x8_1 != 0) = false := bne_eq_false_iff_eq.mpr c8
                  clear c8
                  obtain rfl := Option.some.inj H
                  have p5 : 0 ≤ (x8_1 : Int) := of_decide_eq_true (by first | (with_reducible assumption) | assumption)
                  have q5 : x8_1 < (a0.size : Int) := of_decide_eq_true (by first | (with_reducible assumption) | assumption)
                  have hx5 := bt_at a0 x8_1
                  replace p5 := eq_true p5
                  replace q5 := eq_true q5
                  go_wp2
                  go_ret
                  exact ⟨by first | rfl | (simp; done) | (simp [*]; done) | (simp [q_ne_nil]; done), by repeat (first | exact Drawn0.refl _ | apply Drawn0.step)⟩
                · rw [if_neg c8] at H
                  have c8b0 : (x8_1 == 0) = false := beq_eq_false_iff_ne.mpr c8
                  have c8b1 : (x8_1 != 0) = true := bne_iff_ne.mpr c8
                  by_cases c9 : (bt a0 x8_1) < 48
                  · rw [if_pos c9] at H
                    have c9b0 : decide ((bt a0 x8_1) < 48) = true := decide_eq_true c9
                    clear c9
                    replace H := Option.bind_eq_some_iff.mp H
                    obtain ⟨t131, A100, H⟩ := H
                    replace H : (if t131 < 0 then (some false) else (urlp_scheme.l0 k1 a0 (a0.size : Int) (wrap64 (x8_1 + 1)))) = some r := H
                    have A10 := Aside0.mk A100
                    clear A100
                    by_cases c11 : t131 < 0
                    · rw [if_pos c11] at H
                      have c11b0 : decide (t131 < 0) = true := decide_eq_true c11
                      clear c11
                      obtain rfl := Option.some.inj H
                      have p5 : 0 ≤ (x8_1 : Int) := of_decide_eq_true (by first | (with_reducible assumption) | assumption)
                      have q5 : x8_1 < (a0.size : Int) := of_decide_eq_true (by first | (with_reducible assumption) | assumption)
                      have hx5 := bt_at a0 x8_1
                      replace p5 := eq_true p5
                      replace q5 := eq_true q5
                      go_wp2_with (first | (go_at_call 33; (with_reducible refine (strings_IndexByte.calls (⟨#[43, 45, 46]⟩ : ByteArray) (bt a0 x8_1) t131 _ A10.out).mono ?_); rintro e w' ⟨rfl, ⟨nd, rfl⟩⟩))
                      go_ret
                      exact ⟨by first | rfl | (simp; done) | (simp [*]; done) | (simp [q_ne_nil]; done), by repeat (first | exact Drawn0.refl _ | apply Drawn0.step)⟩
                    · rw [if_neg c11] at H
                      have c11b0 : decide (t131 < 0) = false := decide_eq_false c11
                      clear c11
                      have H' := Aside0.mk H
                      clear H
                      have p5 : 0 ≤ (x8_1 : Int) := of_decide_eq_true (by first | (with_reducible assumption) | assumption)
                      have q5 : x8_1 < (a0.size : Int) := of_decide_eq_true (by first | (with_reducible assumption) | assumption)
                      have hx5 := bt_at a0 x8_1
                      replace p5 := eq_true p5
                      replace q5 := eq_true q5
                      go_wp2_with (first | (go_at_call 33; (with_reducible refine (strings_IndexByte.calls (⟨#[43, 45, 46]⟩ : ByteArray) (bt a0 x8_1) t131 _ A10.out).mono ?_); rintro e w' ⟨rfl, ⟨nd, rfl⟩⟩))
                      go_roundg k1
                      case measure => have := HK1.out; omega
                      case rel => exact ⟨(wrap64 (x8_1 + 1)), (by first | rfl | (simp; done) | (simp [*]; done) | (simp [q_ne_nil]; done)), H', ⟨by have := HK1.out; omega⟩, by repeat (first | exact Drawn0.refl _ | apply Drawn0.step)⟩
                  · rw [if_neg c9] at H
                    have c9b0 : decide ((bt a0 x8_1) < 48) = false := decide_eq_false c9
                    clear c9
                    by_cases c12 : (bt a0 x8_1) > 57
                    · rw [if_pos c12] at H
                      have c12b0 : decide (57 < (bt a0 x8_1)) = true := decide_eq_true c12
                      clear c12
                      replace H := Option.bind_eq_some_iff.mp H
                      obtain ⟨t132, A130, H⟩ := H
                      replace H : (if t132 < 0 then (some false) else (urlp_scheme.l0 k1 a0 (a0.size : Int) (wrap64 (x8_1 + 1)))) = some r := H
                      have A13 := Aside0.mk A130
                      clear A130
                      by_cases c14 : t132 < 0
                      · rw [if_pos c14] at H
                        have c14b0 : decide (t132 < 0) = true := decide_eq_true c14
                        clear c14
                        obtain rfl := Option.some.inj H
                        have p5 : 0 ≤ (x8_1 : Int) := of_decide_eq_true (by first | (with_reducible assumption) | assumption)
                        have q5 : x8_1 < (a0.size : Int) := of_decide_eq_true (by first | (with_reducible assumption) | assumption)
                        have hx5 := bt_at a0 x8_1
                        replace p5 := eq_true p5
                        replace q5 := eq_true q5
                        go_wp2_with (first | (go_at_call 33; (with_reducible refine (strings_IndexByte.calls (⟨#[43, 45, 46]⟩ : ByteArray) (bt a0 x8_1) t132 _ A13.out).mono ?_); rintro e w' ⟨rfl, ⟨nd, rfl⟩⟩))
                        go_ret
                        exact ⟨by first | rfl | (simp; done) | (simp [*]; done) | (simp [q_ne_nil]; done), by repeat (first | exact Drawn0.refl _ | apply Drawn0.step)⟩
                      · rw [if_neg c14] at H
                        have c14b0 : decide (t132 < 0) = false := decide_eq_false c14
                        clear c14
                        have H' := Aside0.mk H
                        clear H
                        have p5 : 0 ≤ (x8_1 : Int) := of_decide_eq_true (by first | (with_reducible assumption) | assumption)
                        have q5 : x8_1 < (a0.size : Int) := of_decide_eq_true (by first | (with_reducible assumption) | assumption)
                        have hx5 := bt_at a0 x8_1
                        replace p5 := eq_true p5
                        replace q5 := eq_true q5
                        go_wp2_with (first | (go_at_call 33; (with_reducible refine (strings_IndexByte.calls (⟨#[43, 45, 46]⟩ : ByteArray) (bt a0 x8_1) t132 _ A13.out).mono ?_); rintro e w' ⟨rfl, ⟨nd, rfl⟩⟩))
                        go_roundg k1
                        case measure => have := HK1.out; omega
                        case rel => exact ⟨(wrap64 (x8_1 + 1)), (by first | rfl | (simp; done) | (simp [*]; done) | (simp [q_ne_nil]; done)), H', ⟨by have := HK1.out; omega⟩, by repeat (first | exact Drawn0.refl _ | apply Drawn0.step)⟩
                    · rw [if_neg c12] at H
                      have c12b0 : decide (57 < (bt a0 x8_1)) = false := decide_eq_false c12
                      clear c12
                      have H' := Aside0.mk H
                      clear H
                      have p5 : 0 ≤ (x8_1 : Int) := of_decide_eq_true (by first | (with_reducible assumption) | assumption)
                      have q5 : x8_1 < (a0.size : Int) := of_decide_eq_true (by first | (with_reducible assumption) | assumption)
                      have hx5 := bt_at a0 x8_1
                      replace p5 := eq_true p5
                      replace q5 := eq_true q5
                      go_wp2
                      go_roundg k1
                      case measure => have := HK1.out; omega
                      case rel => exact ⟨(wrap64 (x8_1 + 1)), (by first | rfl | (simp; done) | (simp [*]; done) | (simp [q_ne_nil]; done)), H', ⟨by have := HK1.out; omega⟩, by repeat (first | exact Drawn0.refl _ | apply Drawn0.step)⟩
            · rw [if_neg c6] at H
              have c6b0 : decide (97 ≤ (bt a0 x8_1)) = false := decide_eq_false c6
              clear c6
              by_cases c15 : x8_1 = 0
              · rw [if_pos c15] at H
                have c15b0 : (x8_1 == 0) = true := beq_iff_eq.mpr c15
                have c15b1 : (x8_1 != 0) = false := bne_eq_false_iff_eq.mpr c15
                clear c15
                obtain rfl := Option.some.inj H
                have p5 : 0 ≤ (x8_1 : Int) := of_decide_eq_true (by first | (with_reducible assumption) | assumption)
                have q5 : x8_1 < (a0.size : Int) := of_decide_eq_true (by first | (with_reducible assumption) | assumption)
                have hx5 := bt_at a0 x8_1
                replace p5 := eq_true p5
                replace q5 := eq_true q5
                go_wp2
                go_ret
                exact ⟨by first | rfl | (simp; done) | (simp [*]; done) | (simp [q_ne_nil]; done), by repeat (first | exact Drawn0.refl _ | apply Drawn0.step)⟩
              · rw [if_neg c15] at H
                have c15b0 : (x8_1 == 0) = false := beq_eq_false_iff_ne.mpr c15
                have c15b1 : (x8_1 != 0) = true := bne_iff_ne.mpr c15
                by_cases c16 : (bt a0 x8_1) < 48
                · rw [if_pos c16] at H
                  have c16b0 : decide ((bt a0 x8_1) < 48) = true := decide_eq_true c16
                  clear c16
                  replace H := Option.bind_eq_some_iff.mp H
                  obtain ⟨t133, A170, H⟩ := H
                  replace H : (if t133 < 0 then (some false) else (urlp_scheme.l0 k1 a0 (a0.size : Int) (wrap64 (x8_1 + 1)))) = some r := H
                  have A17 := Aside0.mk A170
                  clear A170
                  by_cases c18 : t133 < 0
                  · rw [if_pos c18] at H
                    have c18b0 : decide (t133 < 0) = true := decide_eq_true c18
                    clear c18
                    obtain rfl := Option.some.inj H
                    have p5 : 0 ≤ (x8_1 : Int) := of_decide_eq_true (by first | (with_reducible assumption) | assumption)
                    have q5 : x8_1 < (a0.size : Int) := of_decide_eq_true (by first | (with_reducible assumption) | assumption)
                    have hx5 := bt_at a0 x8_1
                    replace p5 := eq_true p5
                    replace q5 := eq_true q5
                    go_wp2_with (first | (go_at_call 33; (with_reducible refine (strings_IndexByte.calls (⟨#[43, 45, 46]⟩ : ByteArray) (bt a0 x8_1) t133 _ A17.out).mono ?_); rintro e w' ⟨rfl, ⟨nd, rfl⟩⟩))
                    go_ret
                    exact ⟨by first | rfl | (simp; done) | (simp [*]; done) | (simp [q_ne_nil]; done), by repeat (first | exact Drawn0.refl _ | apply Drawn0.step)⟩
                  · rw [if_neg c18] at H
                    have c18b0 : decide (t133 < 0) = false := decide_eq_false c18
                    clear c18
                    have H' := Aside0.mk H
                    clear H
                    have p5 : 0 ≤ (x8_1 : Int) := of_decide_eq_true (by first | (with_reducible assumption) | assumption)
                    have q5 : x8_1 < (a0.size : Int) := of_decide_eq_true (by first | (with_reducible assumption) | assumption)
                    have hx5 := bt_at a0 x8_1
                    replace p5 := eq_true p5
                    replace q5 := eq_true q5
                    go_wp2_with (first | (go_at_call 33; (with_reducible refine (strings_IndexByte.calls (⟨#[43, 45, 46]⟩ : ByteArray) (bt a0 x8_1) t133 _ A17.out).mono ?_); rintro e w' ⟨rfl, ⟨nd, rfl⟩⟩))
                    go_roundg k1
                    case measure => have := HK1.out; omega
                    case rel => exact ⟨(wrap64 (x8_1 + 1)), (by first | rfl | (simp; done) | (simp [*]; done) | (simp [q_ne_nil]; done)), H', ⟨by have := HK1.out; omega⟩, by repeat (first | exact Drawn0.refl _ | apply Drawn0.step)⟩
                · rw [if_neg c16] at H
                  have c16b0 : decide ((bt a0 x8_1) < 48) = false := decide_eq_false c16
                  clear c16
                  by_cases c19 : (bt a0 x8_1) > 57
                  · rw [if_pos c19] at H
                    have c19b0 : decide (57 < (bt a0 x8_1)) = true := decide_eq_true c19
                    clear c19
                    replace H := Option.bind_eq_some_iff.mp H
                    obtain ⟨t134, A200, H⟩ := H
                    replace H : (if t134 < 0 then (some false) else (urlp_scheme.l0 k1 a0 (a0.size : Int) (wrap64 (x8_1 + 1)))) = some r := H
                    have A20 := Aside0.mk A200
                    clear A200
                    by_cases c21 : t134 < 0
                    · rw [if_pos c21] at H
                      have c21b0 : decide (t134 < 0) = true := decide_eq_true c21
                      clear c21
                      obtain rfl := Option.some.inj H
                      have p5 : 0 ≤ (x8_1 : Int) := of_decide_eq_true (by first | (with_reducible assumption) | assumption)
                      have q5 : x8_1 < (a0.size : Int) := of_decide_eq_true (by first | (with_reducible assumption) | assumption)
                      have hx5 := bt_at a0 x8_1
                      replace p5 := eq_true p5
                      replace q5 := eq_true q5
                      go_wp2_with (first | (go_at_call 33; (with_reducible refine (strings_IndexByte.calls (⟨#[43, 45, 46]⟩ : ByteArray) (bt a0 x8_1) t134 _ A20.out).mono ?_); rintro e w' ⟨rfl, ⟨nd, rfl⟩⟩))
                      go_ret
                      exact ⟨by first | rfl | (simp; done) | (simp [*]; done) | (simp [q_ne_nil]; done), by repeat (first | exact Drawn0.refl _ | apply Drawn0.step)⟩
                    · rw [if_neg c21] at H
                      have c21b0 : decide (t134 < 0) = false := decide_eq_false c21
                      clear c21
                      have H' := Aside0.mk H
                      clear H
                      have p5 : 0 ≤ (x8_1 : Int) := of_decide_eq_true (by first | (with_reducible assumption) | assumption)
                      have q5 : x8_1 < (a0.size : Int) := of_decide_eq_true (by first | (with_reducible assumption) | assumption)
                      have hx5 := bt_at a0 x8_1
                      replace p5 := eq_true p5
                      replace q5 := eq_true q5
                      go_wp2_with (first | (go_at_call 33; (with_reducible refine (strings_IndexByte.calls (⟨#[43, 45, 46]⟩ : ByteArray) (bt a0 x8_1) t134 _ A20.out).mono ?_); rintro e w' ⟨rfl, ⟨nd, rfl⟩⟩))
                      go_roundg k1
                      case measure => have := HK1.out; omega
                      case rel => exact ⟨(wrap64 (x8_1 + 1)), (by first | rfl | (simp; done) | (simp [*]; done) | (simp [q_ne_nil]; done)), H', ⟨by have := HK1.out; omega⟩, by repeat (first | exact Drawn0.refl _ | apply Drawn0.step)⟩
                  · rw [if_neg c19] at H
                    have c19b0 : decide (57 < (bt a0 x8_1)) = false := decide_eq_false c19
                    clear c19
                    have H' := Aside0.mk H
                    clear H
                    have p5 : 0 ≤ (x8_1 : Int) := of_decide_eq_true (by first | (with_reducible assumption) | assumption)
                    have q5 : x8_1 < (a0.size : Int) := of_decide_eq_true (by first | (with_reducible assumption) | assumption)
                    have hx5 := bt_at a0 x8_1
                    replace p5 := eq_true p5
                    replace q5 := eq_true q5
                    go_wp2
                    go_roundg k1
                    case measure => have := HK1.out; omega
                    case rel => exact ⟨(wrap64 (x8_1 + 1)), (by first | rfl | (simp; done) | (simp [*]; done) | (simp [q_ne_nil]; done)), H', ⟨by have := HK1.out; omega⟩, by repeat (first | exact Drawn0.refl _ | apply Drawn0.step)⟩
          · rw [if_neg c4] at H
            exact absurd H (by simp)
        · rw [if_neg c3] at H
          exact absurd H (by simp)
      · rw [if_neg c2] at H
        have c2b0 : decide (x8_1 < (a0.size : Int)) = false := decide_eq_false c2
        clear c2
        obtain rfl := Option.some.inj H
        go_wp2
        go_ret
        exact ⟨by first | rfl | (simp; done) | (simp [*]; done) | (simp [q_ne_nil]; done), by repeat (first | exact Drawn0.refl _ | apply Drawn0.step)⟩

/-! ### stringslite_HasPrefix: function 38 -/
def stringslite_HasPrefix.f (a0 : ByteArray) (a1 : ByteArray) : Option (Bool) := if (a0.size : Int) ≥ (a1.size : Int) then (if 0 ≤ (a1.size : Int) then (if (a1.size : Int) ≤ (a0.size : Int) then (some ((a0.extract 0 ((a1.size : Int) : Int).toNat).toList == a1.toList)) else (none)) else (none)) else (some false)
set_option maxHeartbeats 8000000 in
set_option maxRecDepth 100000 in
theorem stringslite_HasPrefix.calls (a0 : ByteArray) (a1 : ByteArray) (r : Bool) (w : World) (h : stringslite_HasPrefix.f a0 a1 = some r) :
    Calls Tryd.prog 38 #[.string a0, .string a1] w fun e w' => e = .returned (.bool r) ∧ Drawn0 w w' := by
  have H : (if (a0.size : Int) ≥ (a1.size : Int) then (if 0 ≤ (a1.size : Int) then (if (a1.size : Int) ≤ (a0.size : Int) then (some ((a0.extract 0 ((a1.size : Int) : Int).toNat).toList == a1.toList)) else (none)) else (none)) else (some false)) = some r := h
  clear h
  by_cases c3 : (a0.size : Int) ≥ (a1.size : Int)
  · rw [if_pos c3] at H
    have c3b0 : decide ((a1.size : Int) ≤ (a0.size : Int)) = true := decide_eq_true c3
    have c3b1 : decide (a1.size ≤ a0.size) = true := decide_eq_true (Int.ofNat_le.mp c3)
    clear c3
    by_cases c4 : 0 ≤ (a1.size : Int)
    · rw [if_pos c4] at H
      have c4b0 := eq_true c4
      have c4b1 : decide (0 ≤ (a1.size : Int)) = true := decide_eq_true c4
      clear c4
      by_cases c5 : (a1.size : Int) ≤ (a0.size : Int)
      · rw [if_pos c5] at H
        have c5b0 := eq_true c5
        have c5b1 : decide ((a1.size : Int) ≤ (a0.size : Int)) = true := decide_eq_true c5
        clear c5
        obtain rfl := Option.some.inj H
        go_enter Tryd.func38, Tryd.ntmps38
        go_wp2
        go_ret
        exact ⟨by first | rfl | (simp; done) | (simp [*]; done) | (simp [q_ne_nil]; done), by repeat (first | exact Drawn0.refl _ | apply Drawn0.step)⟩
      · rw [if_neg c5] at H
        exact absurd H (by simp)
    · rw [if_neg c4] at H
      exact absurd H (by simp)
  · rw [if_neg c3] at H
    have c3b0 : decide ((a1.size : Int) ≤ (a0.size : Int)) = false := decide_eq_false c3
    have c3b1 : decide (a1.size ≤ a0.size) = false := decide_eq_false (fun h => c3 (Int.ofNat_le.mpr h))
    clear c3
    obtain rfl := Option.some.inj H
    go_enter Tryd.func38, Tryd.ntmps38
    go_wp2
    go_ret
    exact ⟨by first | rfl | (simp; done) | (simp [*]; done) | (simp [q_ne_nil]; done), by repeat (first | exact Drawn0.refl _ | apply Drawn0.step)⟩

/-! ### stringslite_CutPrefix: function 41 -/
def stringslite_CutPrefix.f (a0 : ByteArray) (a1 : ByteArray) : Option (ByteArray × Bool) := (stringslite_HasPrefix.f a0 a1).bind fun t135 => (if t135 = true then (if 0 ≤ (a1.size : Int) then (if (a1.size : Int) ≤ (a0.size : Int) then (some (a0.extract ((a1.size : Int) : Int).toNat a0.size, true)) else (none)) else (none)) else (some (a0, false)))
set_option maxHeartbeats 8000000 in
set_option maxRecDepth 100000 in
theorem stringslite_CutPrefix.calls (a0 : ByteArray) (a1 : ByteArray) (r1 : ByteArray) (r2 : Bool) (w : World) (h : stringslite_CutPrefix.f a0 a1 = some (r1, r2)) :
    Calls Tryd.prog 41 #[.string a0, .string a1] w fun e w' => e = .returned (.tuple #[.string r1, .bool r2]) ∧ Drawn0 w w' := by
  have H : ((stringslite_HasPrefix.f a0 a1).bind fun t135 => (if t135 = true then (if 0 ≤ (a1.size : Int) then (if (a1.size : Int) ≤ (a0.size : Int) then (some (a0.extract ((a1.size : Int) : Int).toNat a0.size, true)) else (none)) else (none)) else (some (a0, false)))) = some (r1, r2) := h
  clear h
  replace H := Option.bind_eq_some_iff.mp H
  obtain ⟨t135, A30, H⟩ := H
  replace H : (if t135 = true then (if 0 ≤ (a1.size : Int) then (if (a1.size : Int) ≤ (a0.size : Int) then (some (a0.extract ((a1.size : Int) : Int).toNat a0.size, true)) else (none)) else (none)) else (some (a0, false))) = some (r1, r2) := H
  have A3 := Aside0.mk A30
  clear A30
  by_cases c4 : t135 = true
  · subst c4
    have H1 : (if 0 ≤ (a1.size : Int) then (if (a1.size : Int) ≤ (a0.size : Int) then (some (a0.extract ((a1.size : Int) : Int).toNat a0.size, true)) else (none)) else (none)) = some (r1, r2) := by rw [if_pos rfl] at H; exact H
    clear H
    have H := H1
    clear H1
    by_cases c5 : 0 ≤ (a1.size : Int)
    · rw [if_pos c5] at H
      have c5b0 := eq_true c5
      have c5b1 : decide (0 ≤ (a1.size : Int)) = true := decide_eq_true c5
      clear c5
      by_cases c6 : (a1.size : Int) ≤ (a0.size : Int)
      · rw [if_pos c6] at H
        have c6b0 := eq_true c6
        have c6b1 : decide ((a1.size : Int) ≤ (a0.size : Int)) = true := decide_eq_true c6
        clear c6
        simp only [Option.some.injEq, Prod.mk.injEq] at H
        obtain ⟨rfl, rfl⟩ := H
        go_enter Tryd.func41, Tryd.ntmps41
        go_wp2_with (first | ((with_reducible refine gate_callee (f := 38) rfl ?_); refine goesL_ (some 8) rfl rfl Tryd.func38 (by kernel_rfl) rfl #[.string a0, .string a1] rfl (by (try simp only [List.map_toArray, List.map_cons, List.map_nil]); first | done | rfl | (simp only [List.length_drop, List.length_take]; rfl)) ?_; (with_reducible refine (stringslite_HasPrefix.calls a0 a1 true _ A3.out).mono ?_); rintro e w' ⟨rfl, ⟨nd, rfl⟩⟩; refine ⟨_, rfl, ?_⟩))
        go_ret2
        exact ⟨by first | rfl | (simp; done) | (simp [*]; done) | (simp [q_ne_nil]; done), by repeat (first | exact Drawn0.refl _ | apply Drawn0.step)⟩
      · rw [if_neg c6] at H
        exact absurd H (by simp)
    · rw [if_neg c5] at H
      exact absurd H (by simp)
  · replace c4 := Bool.eq_false_iff.mpr c4
    subst c4
    have H1 : (some (a0, false)) = some (r1, r2) := by rw [if_neg (show ¬ (false = true) by decide)] at H; exact H
    clear H
    have H := H1
    clear H1
    simp only [Option.some.injEq, Prod.mk.injEq] at H
    obtain ⟨rfl, rfl⟩ := H
    go_enter Tryd.func41, Tryd.ntmps41
    go_wp2_with (first | ((with_reducible refine gate_callee (f := 38) rfl ?_); refine goesL_ (some 8) rfl rfl Tryd.func38 (by kernel_rfl) rfl #[.string a0, .string a1] rfl (by (try simp only [List.map_toArray, List.map_cons, List.map_nil]); first | done | rfl | (simp only [List.length_drop, List.length_take]; rfl)) ?_; (with_reducible refine (stringslite_HasPrefix.calls a0 a1 false _ A3.out).mono ?_); rintro e w' ⟨rfl, ⟨nd, rfl⟩⟩; refine ⟨_, rfl, ?_⟩))
    go_ret2
    exact ⟨by first | rfl | (simp; done) | (simp [*]; done) | (simp [q_ne_nil]; done), by repeat (first | exact Drawn0.refl _ | apply Drawn0.step)⟩

/-! ### strings_CutPrefix: function 34 -/
def strings_CutPrefix.f (a0 : ByteArray) (a1 : ByteArray) : Option (ByteArray × Bool) := (stringslite_CutPrefix.f a0 a1).bind fun bt136 => (some (bt136.1, bt136.2))
set_option maxHeartbeats 8000000 in
set_option maxRecDepth 100000 in
theorem strings_CutPrefix.calls (a0 : ByteArray) (a1 : ByteArray) (r1 : ByteArray) (r2 : Bool) (w : World) (h : strings_CutPrefix.f a0 a1 = some (r1, r2)) :
    Calls Tryd.prog 34 #[.string a0, .string a1] w fun e w' => e = .returned (.tuple #[.string r1, .bool r2]) ∧ Drawn0 w w' := by
  have H : ((stringslite_CutPrefix.f a0 a1).bind fun bt136 => (some (bt136.1, bt136.2))) = some (r1, r2) := h
  clear h
  replace H := Option.bind_eq_some_iff.mp H
  obtain ⟨⟨t136, t137⟩, A30, H⟩ := H
  replace H : (some (t136, t137)) = some (r1, r2) := H
  have A3 := Aside0.mk A30
  clear A30
  simp only [Option.some.injEq, Prod.mk.injEq] at H
  obtain ⟨rfl, rfl⟩ := H
  go_enter Tryd.func34, Tryd.ntmps34
  go_wp2_with (first | ((with_reducible refine gate_callee (f := 41) rfl ?_); refine goesL_ (some 8) rfl rfl Tryd.func41 (by kernel_rfl) rfl #[.string a0, .string a1] rfl (by (try simp only [List.map_toArray, List.map_cons, List.map_nil]); first | done | rfl | (simp only [List.length_drop, List.length_take]; rfl)) ?_; (with_reducible refine (stringslite_CutPrefix.calls a0 a1 t136 t137 _ A3.out).mono ?_); rintro e w' ⟨rfl, ⟨nd, rfl⟩⟩; refine ⟨_, rfl, ?_⟩))
  go_ret2
  exact ⟨by first | rfl | (simp; done) | (simp [*]; done) | (simp [q_ne_nil]; done), by repeat (first | exact Drawn0.refl _ | apply Drawn0.step)⟩

/-! ### host_fits: function 43 -/
/-- Are all bytes of a text so? -/
def allB (p : Int → Bool) (s : ByteArray) : Bool := (List.range s.size).all fun i => p (bt s i)
theorem allB_at {p : Int → Bool} {s : ByteArray} (h : allB p s = true) (i : Nat) (hi : i < s.size) : p (bt s i) = true := List.all_eq_true.1 h i (List.mem_range.2 hi)
theorem allB_bad {p : Int → Bool} {s : ByteArray} {i : Nat} (hi : i < s.size) (h : p (bt s i) = false) : allB p s = false := by
  unfold allB
  rw [List.all_eq_false]
  exact ⟨i, List.mem_range.2 hi, by simp [h]⟩
theorem allB_of {p : Int → Bool} {s : ByteArray} (h : ∀ i : Nat, i < s.size → p (bt s i) = true) : allB p s = true := List.all_eq_true.2 fun i hi => h i (List.mem_range.1 hi)
set_option maxHeartbeats 1000000 in
set_option maxRecDepth 100000 in
theorem fits_calls (g : Nat) (p : Int → Bool) (s : ByteArray) (w : World) (hsz : s.size ≤ 281474976710656)
    (eg : ∀ (args : Array Value) (w : World), (callFunc g args).run Tryd.prog w = .ok (.enter g args) w)
    (hp : ∀ (W : World) (c : Int), 0 ≤ c → c ≤ 255 → Calls Tryd.prog g #[.int .u8 c] W fun e w' => e = .returned (.bool (p c)) ∧ Drawn0 W w') :
    Calls Tryd.prog 43 #[.string s, .func (.func g) #[] #[]] w fun e w' => e = .returned (.bool (allB p s)) ∧ Drawn0 w w' := by
  have HP := Aside0.mk hp
  clear hp
  go_enter Tryd.func43, Tryd.ntmps43
  go_wp2
  go_loopw [8] (fun v8 wr => ∃ k : Nat, k ≤ s.size ∧ v8 = .int .i64 k ∧ (∀ i : Nat, i < k → p (bt s i) = true) ∧ Drawn0 w wr) (fun v8 _ => s.size - (intOf v8).toNat)
  case atStart => exact ⟨0, Nat.zero_le _, rfl, fun i hi => by omega, Drawn0.refl _⟩
  case round =>
    obtain ⟨k, hk, rfl, hall, hd⟩ := hrel
    have HA := Aside0.mk hall
    have HD := Aside0.mk hd
    clear hall hd
    by_cases hlt : k < s.size
    · have hx : ∀ h : k < s.size, ((s[k]'h).toNat : Int) = bt s k := fun h => by have := bt_at s k (by simpa using h); simpa using this
      obtain ⟨hb0, hb1⟩ := bt_range s k
      have hcall := HP.out wr (bt s k) hb0 hb1
      clear HP
      cases hpk : p (bt s k) with
      | true =>
        have HK := Aside0.mk (show ∀ i : Nat, i < k + 1 → p (bt s i) = true from fun i hi => by
          by_cases e : i = k
          · subst e; exact hpk
          · exact HA.out i (by omega))
        rw [hpk] at hcall
        clear hpk
        generalize bt s k = c at *
        have HC := Aside0.mk hcall
        clear hcall
        go_wp2_with (first | (go_at_fn g; refine HC.out.mono ?_; rintro e w1 ⟨rfl, ⟨q, rfl⟩⟩))
        go_roundw
        case rel => exact ⟨k + 1, by omega, by go_num, HK.out, HD.out.step q⟩
        case measure => simp [intOf]; omega
      | false =>
        have HB := Aside0.mk (allB_bad hlt hpk)
        rw [hpk] at hcall
        clear hpk
        generalize bt s k = c at *
        have HC := Aside0.mk hcall
        clear hcall
        go_wp2_with (first | (go_at_fn g; refine HC.out.mono ?_; rintro e w1 ⟨rfl, ⟨q, rfl⟩⟩))
        go_ret
        exact ⟨by rw [HB.out]; rfl, HD.out.step q⟩
    · obtain rfl : k = s.size := by omega
      have HT := Aside0.mk (allB_of HA.out)
      go_wp2
      go_ret
      exact ⟨by rw [HT.out]; rfl, HD.out⟩


/-! ### octet_cut: function 61 -/
/-- The parts that are shut after i bytes, and where the next one begins. -/
def cutSt (p : Int → Bool) (s : ByteArray) : Nat → List ByteArray × Nat
  | 0 => ([], 0)
  | i + 1 => if p (bt s i) = true then ((cutSt p s i).1 ++ [s.extract (cutSt p s i).2 i], i + 1) else cutSt p s i
theorem cutSt_le (p : Int → Bool) (s : ByteArray) (i : Nat) : (cutSt p s i).2 ≤ i := by
  induction i with
  | zero => exact Nat.le_refl _
  | succ i ih => unfold cutSt; split <;> (try simp) <;> omega
theorem cutSt_len (p : Int → Bool) (s : ByteArray) (i : Nat) : (cutSt p s i).1.length ≤ i := by
  induction i with
  | zero => exact Nat.le_refl _
  | succ i ih => unfold cutSt; split <;> (try simp) <;> omega
def keepPart (empty : Bool) (x : ByteArray) : Bool := empty || !x.toList.isEmpty
def keepParts (empty : Bool) (l : List ByteArray) : List ByteArray := l.filter (keepPart empty)
theorem keepParts_snoc (empty : Bool) (l : List ByteArray) (x : ByteArray) : keepParts empty (l ++ [x]) = keepParts empty l ++ (if keepPart empty x = true then [x] else []) := by
  unfold keepParts
  rw [List.filter_append]
  by_cases h : keepPart empty x = true <;> simp [h]
theorem keepParts_len (empty : Bool) (l : List ByteArray) : (keepParts empty l).length ≤ l.length := List.length_filter_le _ _
def cutOf (p : Int → Bool) (empty : Bool) (s : ByteArray) : List ByteArray := keepParts empty ((cutSt p s s.size).1 ++ [s.extract (cutSt p s s.size).2 s.size])
/-- What the gathering closure's variables are like: the box of 'empty', the box of 'out', and the row that 'out' holds. -/
structure CutAt (w W : World) (be bo : Nat) (empty : Bool) (xs : List ByteArray) : Prop where
  below : Below w.heap.size w W
  ge : w.heap.size ≤ bo
  ebox : W.heap[be]? = some (.cells #[.bool empty] 4 (0, 0))
  obox : ∃ v : Value, W.heap[bo]? = some (.cells #[v] 73 (0, 0)) ∧ Kd.R Kd.string 9 W w.heap.size (fun _ => True) v xs
theorem CutAt.drewN {w W : World} {be bo : Nat} {empty : Bool} {xs : List ByteArray} (h : CutAt w W be bo empty xs) (n : Nat) : CutAt w (W.drewN n) be bo empty xs := by
  obtain ⟨h1, h2, h3, v, h4, h5⟩ := h
  exact ⟨pw_below_drewN h1 n, h2, h3, v, h4, Kd.R_drewN h5 n⟩
set_option maxHeartbeats 1000000 in
set_option maxRecDepth 100000 in
theorem put_keeps (w W : World) (be bo : Nat) (empty : Bool) (xs : List ByteArray) (p : ByteArray) (h : CutAt w W be bo empty xs) (hl : xs.length < 8796093022207) (hk : keepPart empty p = true) :
    Calls Tryd.prog 68 #[.string p, .pointer (some ⟨be, 0, none⟩), .pointer (some ⟨bo, 0, none⟩)] W fun e w' => e = .returned (.tuple #[]) ∧ CutAt w w' be bo empty (xs ++ [p]) := by
  obtain ⟨hB, hge, he, v, ho, hr⟩ := h
  have hec := blk_cell he 0
  have hoc := blk_cell ho 0
  have hofr := blk_frozen ho 0
  simp only [List.getElem?_toArray, List.getElem?_cons_zero] at hec hoc
  have hne := blk_ne he ho (by decide)
  have HE := Aside0.mk he
  have HO := Aside0.mk ho
  have HR := Aside0.mk hr
  have HB := Aside0.mk hB
  clear he ho hr hB
  cases empty with
  | true =>
    clear hk
    go_enter Tryd.func68, Tryd.ntmps68
    go_wp2_with (first | ((with_reducible refine gate_builtin (b := .append) (xs := #[.tmp 9, .tmp 11]) rfl ?_); at_builtin; refine Kd.R_append Kd.string (w0 := w) w.heap.size rfl (.tmp 9) (.tmp 11) 73 9 (.string ⟨#[]⟩) 16 rfl Tryd.underlying73 info9 rfl (by decide) (by omega) v xs p [.string p] (fun _ => True) (fun _ => False) rfl rfl ?aP (fun _ hk => hk.elim) ?aF ?aO ?aB ?aS ?aL ?_; (case aP => exact rfl); (case aB => exact HB.out); (case aF => exact (fun _ _ => trivial)); (case aO => exact HR.out); (case aS => exact HB.out.size); (case aL => omega); intro v1 w1 ho1 hb1 hg1 hat1; obtain ⟨A1, c1, hv1⟩ := Kd.R_slice ho1; generalize (xs ++ [p]).length = n1 at hv1; subst hv1; have hq := blk_grown HO.out hg1 (Kd.R_ne HR.out HO.out (by decide)); have hqe := blk_grown HE.out hg1 (Kd.R_ne HR.out HE.out (by decide)); have hqc := blk_cell hq 0; have hqf := blk_frozen hq 0; simp only [List.getElem?_toArray, List.getElem?_cons_zero] at hqc; have HO1 := Aside0.mk ho1; have HB1 := Aside0.mk hb1; have HQ := Aside0.mk hq; have HQE := Aside0.mk hqe; clear ho1 hb1 hg1 hat1 hq hqe))
    go_end0
    exact ⟨rfl, HB1.out.setCell hge _, hge, blk_far HQE.out hne _, .slice A1 n1 c1, blk_put HQ.out 0 _ rfl, Kd.R_set HO1.out HQ.out (by decide) 0 _⟩
  | false =>
    have hp : p.toList.isEmpty = false := by simpa [keepPart] using hk
    have hp2 : ¬ p.toList = [] := by intro e; rw [e] at hp; cases hp
    clear hk
    go_enter Tryd.func68, Tryd.ntmps68
    go_wp2_with (first | ((with_reducible refine gate_builtin (b := .append) (xs := #[.tmp 9, .tmp 11]) rfl ?_); at_builtin; refine Kd.R_append Kd.string (w0 := w) w.heap.size rfl (.tmp 9) (.tmp 11) 73 9 (.string ⟨#[]⟩) 16 rfl Tryd.underlying73 info9 rfl (by decide) (by omega) v xs p [.string p] (fun _ => True) (fun _ => False) rfl rfl ?aP (fun _ hk => hk.elim) ?aF ?aO ?aB ?aS ?aL ?_; (case aP => exact rfl); (case aB => exact HB.out); (case aF => exact (fun _ _ => trivial)); (case aO => exact HR.out); (case aS => exact HB.out.size); (case aL => omega); intro v1 w1 ho1 hb1 hg1 hat1; obtain ⟨A1, c1, hv1⟩ := Kd.R_slice ho1; generalize (xs ++ [p]).length = n1 at hv1; subst hv1; have hq := blk_grown HO.out hg1 (Kd.R_ne HR.out HO.out (by decide)); have hqe := blk_grown HE.out hg1 (Kd.R_ne HR.out HE.out (by decide)); have hqc := blk_cell hq 0; have hqf := blk_frozen hq 0; simp only [List.getElem?_toArray, List.getElem?_cons_zero] at hqc; have HO1 := Aside0.mk ho1; have HB1 := Aside0.mk hb1; have HQ := Aside0.mk hq; have HQE := Aside0.mk hqe; clear ho1 hb1 hg1 hat1 hq hqe))
    go_end0
    exact ⟨rfl, HB1.out.setCell hge _, hge, blk_far HQE.out hne _, .slice A1 n1 c1, blk_put HQ.out 0 _ rfl, Kd.R_set HO1.out HQ.out (by decide) 0 _⟩
set_option maxHeartbeats 1000000 in
set_option maxRecDepth 100000 in
theorem put_drops (w W : World) (be bo : Nat) (xs : List ByteArray) (p : ByteArray) (h : CutAt w W be bo false xs) (hk : keepPart false p = false) :
    Calls Tryd.prog 68 #[.string p, .pointer (some ⟨be, 0, none⟩), .pointer (some ⟨bo, 0, none⟩)] W fun e w' => e = .returned (.tuple #[]) ∧ w' = W := by
  obtain ⟨hB, hge, he, v, ho, hr⟩ := h
  have hec := blk_cell he 0
  simp only [List.getElem?_toArray, List.getElem?_cons_zero] at hec
  clear he ho hr hB
  have hp : p.toList = [] := by simpa [keepPart] using hk
  clear hk
  go_enter Tryd.func68, Tryd.ntmps68
  go_wp2
  go_end0
  exact ⟨rfl, rfl⟩
theorem put_calls (w W : World) (be bo : Nat) (empty : Bool) (xs : List ByteArray) (p : ByteArray) (h : CutAt w W be bo empty xs) (hl : xs.length < 8796093022207) :
    Calls Tryd.prog 68 #[.string p, .pointer (some ⟨be, 0, none⟩), .pointer (some ⟨bo, 0, none⟩)] W fun e w' => e = .returned (.tuple #[]) ∧ CutAt w w' be bo empty (xs ++ (if keepPart empty p = true then [p] else [])) := by
  by_cases hk : keepPart empty p = true
  · rw [if_pos hk]; exact put_keeps w W be bo empty xs p h hl hk
  · rw [if_neg hk, List.append_nil]
    cases empty with
    | true => exact absurd (by simp [keepPart]) hk
    | false => exact (put_drops w W be bo xs p h (by simpa using hk)).mono fun e w' ⟨h1, h2⟩ => ⟨h1, by subst h2; exact h⟩
set_option maxHeartbeats 2000000 in
set_option maxRecDepth 100000 in
theorem cut_calls (g : Nat) (lb : Array Value) (p : Int → Bool) (empty : Bool) (a0 : ByteArray) (w : World) (hsz : a0.size ≤ 8796093022200)
    (eg : ∀ (args : Array Value) (w : World), (callFunc g args).run Tryd.prog w = .ok (.enter g args) w)
    (hp : ∀ (W : World) (c : Int), 0 ≤ c → c ≤ 255 → Below w.heap.size w W → Calls Tryd.prog g (#[.int .u8 c] ++ lb) W fun e w' => e = .returned (.bool (p c)) ∧ ∃ q, w' = W.drewN q) :
    Calls Tryd.prog 61 #[.string a0, .func (.func g) #[] lb, .bool empty] w fun e w' => ∃ v0_ : Value, e = .returned v0_ ∧ Kd.R Kd.string 9 w' w.heap.size (fun _ => True) v0_ (cutOf p empty a0) ∧ Below w.heap.size w w' := by
  have hmf : ∀ (fn : Fn) (first cap : Array Value) (w : World), (Instr.makeFunc fn first cap).run Tryd.prog w = .ok (.func fn first cap) w := fun _ _ _ _ => rfl
  have HP := Aside0.mk hp
  clear hp
  have h0 : CutAt w ((w.alloc (.cells #[.bool empty] 4)).alloc (.cells #[.slice none 0 0] 73)) w.heap.size (w.heap.size + 1) empty (keepParts empty (cutSt p a0 0).1) := by
    refine ⟨((Below.refl _ _).alloc (Nat.le_refl _) _).alloc (by simp) _, by omega, blk_alloc (blk_new _ _) _, .slice none 0 0, ?_, Kd.R_nil _ _ _ _ _⟩
    have := blk_new (w.alloc (.cells #[.bool empty] 4)) (.cells #[.slice none 0 0] 73)
    simpa using this
  have H0 := Aside0.mk h0
  clear h0
  go_enter Tryd.func61, Tryd.ntmps61
  go_wp2
  go_loopw [9, 10, 14] (fun v9 v10 v14 wr => ∃ k : Nat, k ≤ a0.size ∧ v14 = .int .i64 k ∧ v9 = .int .i64 (cutSt p a0 k).2 ∧ CutAt w wr w.heap.size (w.heap.size + 1) empty (keepParts empty (cutSt p a0 k).1)) (fun _ _ v14 _ => a0.size - (intOf v14).toNat)
  case atStart => exact ⟨0, Nat.zero_le _, rfl, rfl, H0.out⟩
  case round =>
    clear H0
    obtain ⟨k, hk, rfl, rfl, hC⟩ := hrel
    by_cases hlt : k < a0.size
    · have hx : ∀ h : k < a0.size, ((a0[k]'h).toNat : Int) = bt a0 k := fun h => by have := bt_at a0 k (by simpa using h); simpa using this
      obtain ⟨hb0, hb1⟩ := bt_range a0 k
      have hfr := cutSt_le p a0 k
      have hln := keepParts_len empty (cutSt p a0 k).1
      have hln2 := cutSt_len p a0 k
      have hS : cutSt p a0 (k + 1) = if p (bt a0 k) = true then ((cutSt p a0 k).1 ++ [a0.extract (cutSt p a0 k).2 k], k + 1) else cutSt p a0 k := rfl
      have hcall := HP.out wr (bt a0 k) hb0 hb1 hC.below
      clear HP
      generalize bt a0 k = c at *
      cases hpk : p c with
      | true =>
        rw [hpk] at hcall hS
        rw [if_pos rfl] at hS
        have HS := Aside0.mk hS
        clear hS hpk
        generalize hxs : (cutSt p a0 k).1 = ps at *
        generalize hfm : (cutSt p a0 k).2 = fr at *
        clear hxs hfm
        have hput := fun n => put_calls w (wr.drewN n) _ _ empty (keepParts empty ps) (a0.extract fr k) (hC.drewN n) (by omega)
        have HCA := Aside0.mk hcall
        have HPU := Aside0.mk hput
        clear hcall hput hC
        go_wp2_with (first | (go_at_fn g; refine HCA.out.mono ?_; rintro e w' ⟨rfl, q, rfl⟩) | (go_at_call 68; refine (HPU.out _).mono ?_; rintro e w' ⟨rfl, hC2⟩))
        go_roundw
        case rel => exact ⟨k + 1, by omega, by go_num, by rw [HS.out]; go_num, by rw [HS.out, keepParts_snoc]; exact hC2⟩
        case measure => simp [intOf]; omega
      | false =>
        rw [hpk] at hcall hS
        rw [if_neg (by decide)] at hS
        have HS := Aside0.mk hS
        clear hS hpk
        have HCA := Aside0.mk hcall
        have HC := Aside0.mk hC
        clear hcall hC
        go_wp2_with (first | (go_at_fn g; refine HCA.out.mono ?_; rintro e w' ⟨rfl, q, rfl⟩))
        go_roundw
        case rel => exact ⟨k + 1, by omega, by go_num, by rw [HS.out], by rw [HS.out]; exact HC.out.drewN q⟩
        case measure => simp [intOf]; omega
    · obtain rfl : k = a0.size := by omega
      have hfr := cutSt_le p a0 a0.size
      have hln := keepParts_len empty (cutSt p a0 a0.size).1
      have hln2 := cutSt_len p a0 a0.size
      have hput := put_calls w wr _ _ empty (keepParts empty (cutSt p a0 a0.size).1) (a0.extract (cutSt p a0 a0.size).2 a0.size) hC (by omega)
      rw [← keepParts_snoc] at hput
      have HPU := Aside0.mk hput
      clear hput hC HP
      go_wp2_with (first | (go_at_call 68; refine HPU.out.mono ?_; rintro e w' ⟨rfl, ⟨hB2, _, _, v2, ho2, hr2⟩⟩; have hoc2 := blk_cell ho2 0; simp only [List.getElem?_toArray, List.getElem?_cons_zero] at hoc2; have HR2 := Aside0.mk hr2; have HB2 := Aside0.mk hB2; clear ho2 hr2 hB2))
      go_ret
      exact ⟨_, rfl, HR2.out, HB2.out⟩


/-! ### octet_Split: function 54 -/
def octet_Split.f (a0 : ByteArray) (a1 : Int) : Option (List ByteArray) := if a0.size ≤ 8796093022200 then some (cutOf (fun c => c == a1) true a0) else none
set_option maxHeartbeats 1000000 in
theorem split_is (a1 : Int) (g : Nat) (W : World) (c : Int) (hg : W.heap[g]? = some (.cells #[.int .u8 a1] 5 (0, 0))) :
    Calls Tryd.prog 62 #[.int .u8 c, .pointer (some ⟨g, 0, none⟩)] W fun e w' => e = .returned (.bool (c == a1)) ∧ ∃ q, w' = W.drewN q := by
  have hc := blk_cell hg 0
  simp only [List.getElem?_toArray, List.getElem?_cons_zero] at hc
  clear hg
  go_enter Tryd.func62, Tryd.ntmps62
  go_wp2
  go_ret
  exact ⟨rfl, 0, rfl⟩
set_option maxHeartbeats 1000000 in
theorem octet_Split.calls (a0 : ByteArray) (a1 : Int) (r : List ByteArray) (w : World) (h : octet_Split.f a0 a1 = some r) :
    Calls Tryd.prog 54 #[.string a0, .int .u8 a1] w fun e w' => ∃ v0_ : Value, e = .returned v0_ ∧ Kd.R Kd.string 9 w' w.heap.size (fun _ => True) v0_ r ∧ Below w.heap.size w w' := by
  unfold octet_Split.f at h
  split at h
  · rename_i hsz
    obtain rfl := Option.some.inj h
    clear h
    have hmf : ∀ (fn : Fn) (first cap : Array Value) (w : World), (Instr.makeFunc fn first cap).run Tryd.prog w = .ok (.func fn first cap) w := fun _ _ _ _ => rfl
    have hcut := cut_calls 62 #[.pointer (some ⟨w.heap.size, 0, none⟩)] (fun c => c == a1) true a0 (w.alloc (.cells #[.int .u8 a1] 5)) hsz (enters_of Tryd.func62 (by kernel_rfl) rfl)
      (fun W c _ _ hB => split_is a1 w.heap.size W c (blk_below (blk_new w _) hB))
    have HC := Aside0.mk hcut
    clear hcut
    go_enter Tryd.func54, Tryd.ntmps54
    go_wp2_with (first | (go_at_call 61; refine HC.out.mono ?_; rintro e w' ⟨v, rfl, hr, hB⟩; have HR := Aside0.mk hr; have HB := Aside0.mk hB; clear hr hB))
    go_ret
    exact ⟨_, rfl, Kd.R_lower HR.out (by simp), ((Below.refl _ _).alloc (Nat.le_refl _) _).trans (HB.out.mono (by simp))⟩
  · cases h


/-! ### host_labels: function 42 -/
/-- What a round keeps: all cells from n0 on. -/
def KpAb (n0 : Nat) (W W' : World) : Prop := W.heap.size ≤ W'.heap.size ∧ ∀ (k : Nat) (o : Obj), n0 ≤ k → W.heap[k]? = some o → o.isCells = true → W'.heap[k]? = some o
theorem KpAb.refl (n0 : Nat) (W : World) : KpAb n0 W W := ⟨Nat.le_refl _, fun _ _ _ h _ => h⟩
theorem KpAb.trans {n0 : Nat} {A B C : World} (h : KpAb n0 A B) (k : KpAb n0 B C) : KpAb n0 A C := ⟨Nat.le_trans h.1 k.1, fun i o hi ho hc => k.2 i o hi (h.2 i o hi ho hc) hc⟩
theorem KpAb.putObj {n0 : Nat} (W : World) (l : Nat) (o o' : Obj) (h : W.heap[l]? = some o) (hc : o.isCells = false) : KpAb n0 W (W.putObj l o') := by
  refine ⟨by simp, fun k o2 _ hk hc2 => ?_⟩
  have hne : k ≠ l := by rintro rfl; rw [h] at hk; injection hk with hk; subst hk; rw [hc] at hc2; cases hc2
  exact (World.putObj_heap_other hne).trans hk
theorem KpAb.below {n0 : Nat} {A B : World} (h : Below A.heap.size A B) : KpAb n0 A B := ⟨h.size, fun k o _ ho _ => (h.block k (blk_lt ho)).trans ho⟩
theorem KpAb.setCell {n0 : Nat} (W : World) {b : Nat} (hb : b < n0) (i : Nat) (v : Value) : KpAb n0 W (W.setCell ⟨b, i, none⟩ v) :=
  ⟨by simp, fun k o hk ho _ => (Below.heap_setCell W ⟨b, i, none⟩ v k (by show k ≠ b; omega)).trans ho⟩
theorem KpAb.cell {n0 : Nat} {A B : World} (h : KpAb n0 A B) {p : Addr} {v : Value} (hp : n0 ≤ p.block) (hc : A.cell? p = some v) : B.cell? p = some v := by
  obtain ⟨o, ho, hoc⟩ := cells_of_cell hc
  exact (World.cell?_of_block ((h.2 _ o hp ho hoc).trans ho.symm)).trans hc
/-- Between two labels. -/
def LRel {α : Type} (ys : List α) (n0 : Nat) (W : World) (J : List α → World → Prop) (v : Value) (wr : World) : Prop :=
  ∃ k : Nat, k ≤ ys.length ∧ v = .int .i64 k ∧ KpAb n0 W wr ∧ J (ys.take k) wr
attribute [local go_sem] Oper.semAt_some in
set_option maxRecDepth 100000 in
set_option maxHeartbeats 2000000 in
theorem labels1_in {α : Type} (enc : α → Array Value) (n : Nat) (hn : 1 ≤ n) (l n0 BS : Nat) (s : ByteArray) (hs : s.size ≤ 8796093022200) (ls : List ByteArray) (hls : cutOf (fun c => c == 46) true s = ls)
    (ys : List α) (hlen : ys.length = ls.length) (henc : ∀ (k : Nat) (h : k < ys.length), enc (ys[k]'h) = #[.int .i64 k, .string (ls.getD k ⟨#[]⟩)]) (J Jx : List α → World → Prop)
    (W : World) (hW : n0 ≤ W.heap.size) (hJ : AbidesFrom W.heap.size J)
    (hY : ∀ pre x W1, J pre W1 → pre.length < ys.length → YieldAt Fence.wide (n - 1) Tryd.prog l (enc x) W1 fun e W' =>
      (e = .returned (.bool true) ∧ J (pre ++ [x]) W' ∧ KpAb n0 W1 W') ∨ (e = .returned (.bool false) ∧ Jx (pre ++ [x]) W'))
    (hcS : W.cell? ⟨BS, 0, none⟩ = some (.string s)) (h0 : J [] W) :
    CallsIn Fence.wide n Tryd.prog 53 #[.func (.yield l) #[] #[], .pointer (some ⟨BS, 0, none⟩)] W fun e W' => (∃ v, e = .returned v) ∧
      ((∃ zs, zs = ys ∧ J zs W') ∨ (∃ pre, pre <+: ys ∧ Jx pre W')) := by
  have hsp := octet_Split.calls s 46 ls W (by unfold octet_Split.f; rw [if_pos hs, hls])
  have hsz : ls.length ≤ 8796093022201 := by
    rw [← hls]
    unfold cutOf
    have h1 := keepParts_len true ((cutSt (fun c => c == 46) s s.size).1 ++ [s.extract (cutSt (fun c => c == 46) s s.size).2 s.size])
    have h2 := cutSt_len (fun c => c == 46) s s.size
    simp only [List.length_append, List.length_singleton] at h1
    omega
  clear hls
  refine callsIn_of_wp Tryd.func53 rfl trivial ?_ rfl
  simp only [Tryd.ntmps53, List.size_toArray, List.length_cons, List.length_nil, Nat.reduceAdd, Nat.reduceSub, Array.replicate_succ, Array.replicate_zero, List.push_toArray, List.append_toArray, List.nil_append, List.cons_append]
  have fw1 : Fence.wide.fn 54 := trivial
  have HSP := Aside0.mk hsp
  have HJ := Aside0.mk hJ
  have HY := Aside0.mk hY
  have H0 := Aside0.mk h0
  have HE := Aside0.mk henc
  have HLEN := Aside0.mk hlen
  clear hsp hJ hY h0 henc hlen
  gi_wp2_with (first | (gi_at_call 54; refine (callsIn_wide.2 HSP.out).mono ?_; rintro e w1 ⟨v0, rfl, hR1, hb1⟩; obtain ⟨A1, c1, hv1, hc1, hC1⟩ := Kd.R_reads hR1; subst hv1; have HR1 := Aside0.mk hR1; have HB1 := Aside0.mk hb1; have HC1 := Aside0.mk hC1; clear hR1 hb1 hC1))
  have hkj := HJ.out _ _ _ none H0.out (grown_of_below HB1.out none) (by simp)
  have HKJ := Aside0.mk hkj
  clear hkj H0
  gi_loopw [8] (fun v8 wr => LRel ys n0 w1 J v8 wr) (fun v8 _ => ls.length - (intOf v8).toNat)
  case atStart => exact ⟨0, Nat.zero_le _, rfl, KpAb.refl _ _, by simpa using HKJ.out⟩
  case round =>
    clear HKJ
    obtain ⟨k, hk, rfl, hK, hJs⟩ := hrel
    have hle := HLEN.out
    rw [hle] at hk
    have HK := Aside0.mk hK
    have HJs := Aside0.mk hJs
    clear hK hJs
    by_cases hlt : k < ls.length
    · obtain ⟨ad, c, hA, _, hKc, hc⟩ := Kd.C_get HC1.out (⟨#[]⟩ : ByteArray) (k : Int) (by omega) (by omega)
      subst hA
      simp only [Int.toNat_natCast] at hKc hc
      obtain rfl : c = [.string (ls.getD k ⟨#[]⟩)] := hKc
      have hx := hc 0 _ rfl
      replace hx : w1.cell? (ad.add k) = some (.string (ls.getD k ⟨#[]⟩)) := by simpa [show (Kd.string).sz = 1 from rfl] using hx
      have hbase : n0 ≤ (ad.add k).block := by
        obtain ⟨g, cap, hg, hgb, _⟩ := Kd.R_form HR1.out (by omega)
        injection hg with hg
        injection hg with hg
        subst hg
        show n0 ≤ (Addr.add _ _).block
        have : (Addr.add ⟨g, 0, none⟩ k).block = g := by unfold Addr.add; split <;> rfl
        omega
      have hy : wr.cell? (ad.add k) = some (.string (ls.getD k ⟨#[]⟩)) := HK.out.cell hbase hx
      obtain ⟨fn, tmps, assign, body, hyy, hRd⟩ := HY.out (ys.take k) (ys[k]'(by omega)) wr HJs.out (by rw [List.length_take]; omega)
      have htk : ys.take (k + 1) = ys.take k ++ [ys[k]'(by omega)] := List.take_succ_eq_append_getElem (by omega)
      have hpre : ys.take (k + 1) <+: ys := List.take_prefix _ _
      rw [HE.out k (by omega)] at hyy
      rw [← htk] at hRd
      have HRD := Aside0.mk hRd
      have HPRE := Aside0.mk hpre
      clear hRd htk hpre hc hx hbase
      generalize ls.getD k ⟨#[]⟩ = p at *
      gi_wp2
      refine HRD.out.mono ?_
      rintro e W4 (⟨rfl, hJ4, hk4⟩ | ⟨rfl, hJ4⟩)
      · have HJ4 := Aside0.mk hJ4
        have HK4 := Aside0.mk hk4
        clear hJ4 hk4
        gi_wp2
        go_roundw
        case rel => exact ⟨k + 1, by omega, by go_num, HK.out.trans HK4.out, HJ4.out⟩
        case measure => simp [intOf]; omega
      · have HJ4 := Aside0.mk hJ4
        clear hJ4
        gi_wp2
        refine bodyPost_ret (results_none rfl _ _ _) rfl ?_
        exact ⟨⟨_, rfl⟩, .inr ⟨_, HPRE.out, HJ4.out⟩⟩
    · obtain rfl : k = ls.length := by omega
      gi_wp2
      go_end0
      exact ⟨⟨_, rfl⟩, .inl ⟨_, by rw [← hle, List.take_length], HJs.out⟩⟩
set_option maxHeartbeats 1000000 in
theorem labels_any (s : ByteArray) (w : World) :
    Calls Tryd.prog 42 #[.string s] w fun e w' => e = .returned (.func (.func 53) #[] #[.pointer (some ⟨w.heap.size, 0, none⟩)]) ∧ w' = w.alloc (.cells #[.string s] 9) := by
  have hmf : ∀ (fn : Fn) (first cap : Array Value) (w : World), (Instr.makeFunc fn first cap).run Tryd.prog w = .ok (.func fn first cap) w := fun _ _ _ _ => rfl
  go_enter Tryd.func42, Tryd.ntmps42
  go_wp2
  go_ret
  exact ⟨rfl, rfl⟩
theorem labels_stops {α : Type} (enc : α → Array Value) (n : Nat) (hn : 1 ≤ n) (W : World) (BS : Nat) (s : ByteArray) (hs : s.size ≤ 8796093022200) (ls : List ByteArray) (hls : cutOf (fun c => c == 46) true s = ls)
    (ys : List α) (hlen : ys.length = ls.length) (henc : ∀ (k : Nat) (h : k < ys.length), enc (ys[k]'h) = #[.int .i64 k, .string (ls.getD k ⟨#[]⟩)])
    (hBS : Boxed W BS 9 (.string s)) :
    SeqStopsK Fence.wide n Tryd.prog 53 #[.pointer (some ⟨BS, 0, none⟩)] enc (KpAb W.heap.size) (fun zs => zs = ys) (fun pre => pre <+: ys) ys.length W := by
  intro l J Jx W1 hW1 hJ _ hY h0
  exact labels1_in enc n hn l W.heap.size BS s hs ls hls ys hlen henc J Jx W1 hW1.size hJ hY ((hW1.cell (p := ⟨BS, 0, none⟩) hBS.lt).trans hBS.cell) h0


/-! ### host_digit: function 45 -/
def host_digit.f (a0 : Int) : Option (Bool) := if a0 ≥ 48 then (some (decide (a0 ≤ 57))) else (some false)
set_option maxHeartbeats 8000000 in
set_option maxRecDepth 100000 in
theorem host_digit.calls (a0 : Int) (r : Bool) (w : World) (h : host_digit.f a0 = some r) :
    Calls Tryd.prog 45 #[.int .u8 a0] w fun e w' => e = .returned (.bool r) ∧ Drawn0 w w' := by
  have H : (if a0 ≥ 48 then (some (decide (a0 ≤ 57))) else (some false)) = some r := h
  clear h
  by_cases c2 : a0 ≥ 48
  · rw [if_pos c2] at H
    have c2b0 : decide (48 ≤ a0) = true := decide_eq_true c2
    clear c2
    obtain rfl := Option.some.inj H
    go_enter Tryd.func45, Tryd.ntmps45
    go_wp2
    go_ret
    exact ⟨by first | rfl | (simp; done) | (simp [*]; done) | (simp [q_ne_nil]; done), by repeat (first | exact Drawn0.refl _ | apply Drawn0.step)⟩
  · rw [if_neg c2] at H
    have c2b0 : decide (48 ≤ a0) = false := decide_eq_false c2
    clear c2
    obtain rfl := Option.some.inj H
    go_enter Tryd.func45, Tryd.ntmps45
    go_wp2
    go_ret
    exact ⟨by first | rfl | (simp; done) | (simp [*]; done) | (simp [q_ne_nil]; done), by repeat (first | exact Drawn0.refl _ | apply Drawn0.step)⟩

end Go.Proofs.YtabjpoapnbkljaaDoor.Q
