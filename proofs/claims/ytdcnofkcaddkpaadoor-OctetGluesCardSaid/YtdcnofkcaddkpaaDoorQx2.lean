-- Laid by this seat's own driver (wip/tools/drive.py) out of the translation.
import Derived.Test.YtdcnofkcaddkpaaDoorQx0
import Derived.Test.YtdcnofkcaddkpaaDoorQx1
namespace Go.Proofs.YtdcnofkcaddkpaaDoor.Q
open Go.RowKit Go.Proofs.YtdcnofkcaddkpaaDoorW.PrintWords Go.Proofs.YtdcnofkcaddkpaaDoorW.PrintLast Go.Proofs.YtdcnofkcaddkpaaDoorW.PrintMore
attribute [local go_sem] max2_int min2_int max_two min_two max_three min_three max_four min_four   -- for this text's walks alone
set_option linter.unusedVariables false
set_option linter.unusedSimpArgs false

/-! ### octet_tchar: function 35 -/
def octet_tchar.f (a0 : Int) : Option (Bool) := if (Go.bits .or .u8 a0 32) ≥ 97 then (if (Go.bits .or .u8 a0 32) ≤ 122 then (if a0 ≥ 65 then (if a0 ≤ 122 then (some true) else (if a0 ≥ 48 then (if a0 ≤ 57 then (some true) else ((strings_IndexByte.f (⟨#[33, 35, 36, 37, 38, 39, 42, 43, 45, 46, 94, 95, 124, 126, 96]⟩ : ByteArray) a0).bind fun t103 => (some (decide (t103 ≥ 0))))) else ((strings_IndexByte.f (⟨#[33, 35, 36, 37, 38, 39, 42, 43, 45, 46, 94, 95, 124, 126, 96]⟩ : ByteArray) a0).bind fun t104 => (some (decide (t104 ≥ 0)))))) else (if a0 ≥ 48 then (if a0 ≤ 57 then (some true) else ((strings_IndexByte.f (⟨#[33, 35, 36, 37, 38, 39, 42, 43, 45, 46, 94, 95, 124, 126, 96]⟩ : ByteArray) a0).bind fun t105 => (some (decide (t105 ≥ 0))))) else ((strings_IndexByte.f (⟨#[33, 35, 36, 37, 38, 39, 42, 43, 45, 46, 94, 95, 124, 126, 96]⟩ : ByteArray) a0).bind fun t106 => (some (decide (t106 ≥ 0)))))) else (if a0 ≥ 48 then (if a0 ≤ 57 then (some true) else ((strings_IndexByte.f (⟨#[33, 35, 36, 37, 38, 39, 42, 43, 45, 46, 94, 95, 124, 126, 96]⟩ : ByteArray) a0).bind fun t107 => (some (decide (t107 ≥ 0))))) else ((strings_IndexByte.f (⟨#[33, 35, 36, 37, 38, 39, 42, 43, 45, 46, 94, 95, 124, 126, 96]⟩ : ByteArray) a0).bind fun t108 => (some (decide (t108 ≥ 0)))))) else (if a0 ≥ 48 then (if a0 ≤ 57 then (some true) else ((strings_IndexByte.f (⟨#[33, 35, 36, 37, 38, 39, 42, 43, 45, 46, 94, 95, 124, 126, 96]⟩ : ByteArray) a0).bind fun t109 => (some (decide (t109 ≥ 0))))) else ((strings_IndexByte.f (⟨#[33, 35, 36, 37, 38, 39, 42, 43, 45, 46, 94, 95, 124, 126, 96]⟩ : ByteArray) a0).bind fun t110 => (some (decide (t110 ≥ 0)))))
set_option maxHeartbeats 8000000 in
set_option maxRecDepth 100000 in
theorem octet_tchar.calls (a0 : Int) (r : Bool) (w : World) (h : octet_tchar.f a0 = some r) :
    Calls Tryd.prog 35 #[.int .u8 a0] w fun e w' => e = .returned (.bool r) ∧ Drawn0 w w' := by
  have H : (if (Go.bits .or .u8 a0 32) ≥ 97 then (if (Go.bits .or .u8 a0 32) ≤ 122 then (if a0 ≥ 65 then (if a0 ≤ 122 then (some true) else (if a0 ≥ 48 then (if a0 ≤ 57 then (some true) else ((strings_IndexByte.f (⟨#[33, 35, 36, 37, 38, 39, 42, 43, 45, 46, 94, 95, 124, 126, 96]⟩ : ByteArray) a0).bind fun t103 => (some (decide (t103 ≥ 0))))) else ((strings_IndexByte.f (⟨#[33, 35, 36, 37, 38, 39, 42, 43, 45, 46, 94, 95, 124, 126, 96]⟩ : ByteArray) a0).bind fun t104 => (some (decide (t104 ≥ 0)))))) else (if a0 ≥ 48 then (if a0 ≤ 57 then (some true) else ((strings_IndexByte.f (⟨#[33, 35, 36, 37, 38, 39, 42, 43, 45, 46, 94, 95, 124, 126, 96]⟩ : ByteArray) a0).bind fun t105 => (some (decide (t105 ≥ 0))))) else ((strings_IndexByte.f (⟨#[33, 35, 36, 37, 38, 39, 42, 43, 45, 46, 94, 95, 124, 126, 96]⟩ : ByteArray) a0).bind fun t106 => (some (decide (t106 ≥ 0)))))) else (if a0 ≥ 48 then (if a0 ≤ 57 then (some true) else ((strings_IndexByte.f (⟨#[33, 35, 36, 37, 38, 39, 42, 43, 45, 46, 94, 95, 124, 126, 96]⟩ : ByteArray) a0).bind fun t107 => (some (decide (t107 ≥ 0))))) else ((strings_IndexByte.f (⟨#[33, 35, 36, 37, 38, 39, 42, 43, 45, 46, 94, 95, 124, 126, 96]⟩ : ByteArray) a0).bind fun t108 => (some (decide (t108 ≥ 0)))))) else (if a0 ≥ 48 then (if a0 ≤ 57 then (some true) else ((strings_IndexByte.f (⟨#[33, 35, 36, 37, 38, 39, 42, 43, 45, 46, 94, 95, 124, 126, 96]⟩ : ByteArray) a0).bind fun t109 => (some (decide (t109 ≥ 0))))) else ((strings_IndexByte.f (⟨#[33, 35, 36, 37, 38, 39, 42, 43, 45, 46, 94, 95, 124, 126, 96]⟩ : ByteArray) a0).bind fun t110 => (some (decide (t110 ≥ 0)))))) = some r := h
  clear h
  by_cases c2 : (Go.bits .or .u8 a0 32) ≥ 97
  · rw [if_pos c2] at H
    have c2b0 : decide (97 ≤ (Go.bits .or .u8 a0 32)) = true := decide_eq_true c2
    clear c2
    by_cases c3 : (Go.bits .or .u8 a0 32) ≤ 122
    · rw [if_pos c3] at H
      have c3b0 : decide ((Go.bits .or .u8 a0 32) ≤ 122) = true := decide_eq_true c3
      clear c3
      by_cases c4 : a0 ≥ 65
      · rw [if_pos c4] at H
        have c4b0 : decide (65 ≤ a0) = true := decide_eq_true c4
        clear c4
        by_cases c5 : a0 ≤ 122
        · rw [if_pos c5] at H
          have c5b0 : decide (a0 ≤ 122) = true := decide_eq_true c5
          clear c5
          obtain rfl := Option.some.inj H
          go_enter Tryd.func35, Tryd.ntmps35
          go_wp2
          go_ret
          exact ⟨by first | rfl | (simp; done) | (simp [*]; done) | (simp [q_ne_nil]; done), by repeat (first | exact Drawn0.refl _ | apply Drawn0.step)⟩
        · rw [if_neg c5] at H
          have c5b0 : decide (a0 ≤ 122) = false := decide_eq_false c5
          clear c5
          by_cases c6 : a0 ≥ 48
          · rw [if_pos c6] at H
            have c6b0 : decide (48 ≤ a0) = true := decide_eq_true c6
            clear c6
            by_cases c7 : a0 ≤ 57
            · rw [if_pos c7] at H
              have c7b0 : decide (a0 ≤ 57) = true := decide_eq_true c7
              clear c7
              obtain rfl := Option.some.inj H
              go_enter Tryd.func35, Tryd.ntmps35
              go_wp2
              go_ret
              exact ⟨by first | rfl | (simp; done) | (simp [*]; done) | (simp [q_ne_nil]; done), by repeat (first | exact Drawn0.refl _ | apply Drawn0.step)⟩
            · rw [if_neg c7] at H
              have c7b0 : decide (a0 ≤ 57) = false := decide_eq_false c7
              clear c7
              replace H := Option.bind_eq_some_iff.mp H
              obtain ⟨t103, A80, H⟩ := H
              replace H : (some (decide (t103 ≥ 0))) = some r := H
              have A8 := Aside0.mk A80
              clear A80
              obtain rfl := Option.some.inj H
              go_enter Tryd.func35, Tryd.ntmps35
              go_wp2_with (first | (go_at_call 33; (with_reducible refine (strings_IndexByte.calls (⟨#[33, 35, 36, 37, 38, 39, 42, 43, 45, 46, 94, 95, 124, 126, 96]⟩ : ByteArray) a0 t103 _ A8.out).mono ?_); rintro e w' ⟨rfl, ⟨nd, rfl⟩⟩))
              go_ret
              exact ⟨by first | rfl | (simp; done) | (simp [*]; done) | (simp [q_ne_nil]; done), by repeat (first | exact Drawn0.refl _ | apply Drawn0.step)⟩
          · rw [if_neg c6] at H
            have c6b0 : decide (48 ≤ a0) = false := decide_eq_false c6
            clear c6
            replace H := Option.bind_eq_some_iff.mp H
            obtain ⟨t104, A90, H⟩ := H
            replace H : (some (decide (t104 ≥ 0))) = some r := H
            have A9 := Aside0.mk A90
            clear A90
            obtain rfl := Option.some.inj H
            go_enter Tryd.func35, Tryd.ntmps35
            go_wp2_with (first | (go_at_call 33; (with_reducible refine (strings_IndexByte.calls (⟨#[33, 35, 36, 37, 38, 39, 42, 43, 45, 46, 94, 95, 124, 126, 96]⟩ : ByteArray) a0 t104 _ A9.out).mono ?_); rintro e w' ⟨rfl, ⟨nd, rfl⟩⟩))
            go_ret
            exact ⟨by first | rfl | (simp; done) | (simp [*]; done) | (simp [q_ne_nil]; done), by repeat (first | exact Drawn0.refl _ | apply Drawn0.step)⟩
      · rw [if_neg c4] at H
        have c4b0 : decide (65 ≤ a0) = false := decide_eq_false c4
        clear c4
        by_cases c10 : a0 ≥ 48
        · rw [if_pos c10] at H
          have c10b0 : decide (48 ≤ a0) = true := decide_eq_true c10
          clear c10
          by_cases c11 : a0 ≤ 57
          · rw [if_pos c11] at H
            have c11b0 : decide (a0 ≤ 57) = true := decide_eq_true c11
            clear c11
            obtain rfl := Option.some.inj H
            go_enter Tryd.func35, Tryd.ntmps35
            go_wp2
            go_ret
            exact ⟨by first | rfl | (simp; done) | (simp [*]; done) | (simp [q_ne_nil]; done), by repeat (first | exact Drawn0.refl _ | apply Drawn0.step)⟩
          · rw [if_neg c11] at H
            have c11b0 : decide (a0 ≤ 57) = false := decide_eq_false c11
            clear c11
            replace H := Option.bind_eq_some_iff.mp H
            obtain ⟨t105, A120, H⟩ := H
            replace H : (some (decide (t105 ≥ 0))) = some r := H
            have A12 := Aside0.mk A120
            clear A120
            obtain rfl := Option.some.inj H
            go_enter Tryd.func35, Tryd.ntmps35
            go_wp2_with (first | (go_at_call 33; (with_reducible refine (strings_IndexByte.calls (⟨#[33, 35, 36, 37, 38, 39, 42, 43, 45, 46, 94, 95, 124, 126, 96]⟩ : ByteArray) a0 t105 _ A12.out).mono ?_); rintro e w' ⟨rfl, ⟨nd, rfl⟩⟩))
            go_ret
            exact ⟨by first | rfl | (simp; done) | (simp [*]; done) | (simp [q_ne_nil]; done), by repeat (first | exact Drawn0.refl _ | apply Drawn0.step)⟩
        · rw [if_neg c10] at H
          have c10b0 : decide (48 ≤ a0) = false := decide_eq_false c10
          clear c10
          replace H := Option.bind_eq_some_iff.mp H
          obtain ⟨t106, A130, H⟩ := H
          replace H : (some (decide (t106 ≥ 0))) = some r := H
          have A13 := Aside0.mk A130
          clear A130
          obtain rfl := Option.some.inj H
          go_enter Tryd.func35, Tryd.ntmps35
          go_wp2_with (first | (go_at_call 33; (with_reducible refine (strings_IndexByte.calls (⟨#[33, 35, 36, 37, 38, 39, 42, 43, 45, 46, 94, 95, 124, 126, 96]⟩ : ByteArray) a0 t106 _ A13.out).mono ?_); rintro e w' ⟨rfl, ⟨nd, rfl⟩⟩))
          go_ret
          exact ⟨by first | rfl | (simp; done) | (simp [*]; done) | (simp [q_ne_nil]; done), by repeat (first | exact Drawn0.refl _ | apply Drawn0.step)⟩
    · rw [if_neg c3] at H
      have c3b0 : decide ((Go.bits .or .u8 a0 32) ≤ 122) = false := decide_eq_false c3
      clear c3
      by_cases c14 : a0 ≥ 48
      · rw [if_pos c14] at H
        have c14b0 : decide (48 ≤ a0) = true := decide_eq_true c14
        clear c14
        by_cases c15 : a0 ≤ 57
        · rw [if_pos c15] at H
          have c15b0 : decide (a0 ≤ 57) = true := decide_eq_true c15
          clear c15
          obtain rfl := Option.some.inj H
          go_enter Tryd.func35, Tryd.ntmps35
          go_wp2
          go_ret
          exact ⟨by first | rfl | (simp; done) | (simp [*]; done) | (simp [q_ne_nil]; done), by repeat (first | exact Drawn0.refl _ | apply Drawn0.step)⟩
        · rw [if_neg c15] at H
          have c15b0 : decide (a0 ≤ 57) = false := decide_eq_false c15
          clear c15
          replace H := Option.bind_eq_some_iff.mp H
          obtain ⟨t107, A160, H⟩ := H
          replace H : (some (decide (t107 ≥ 0))) = some r := H
          have A16 := Aside0.mk A160
          clear A160
          obtain rfl := Option.some.inj H
          go_enter Tryd.func35, Tryd.ntmps35
          go_wp2_with (first | (go_at_call 33; (with_reducible refine (strings_IndexByte.calls (⟨#[33, 35, 36, 37, 38, 39, 42, 43, 45, 46, 94, 95, 124, 126, 96]⟩ : ByteArray) a0 t107 _ A16.out).mono ?_); rintro e w' ⟨rfl, ⟨nd, rfl⟩⟩))
          go_ret
          exact ⟨by first | rfl | (simp; done) | (simp [*]; done) | (simp [q_ne_nil]; done), by repeat (first | exact Drawn0.refl _ | apply Drawn0.step)⟩
      · rw [if_neg c14] at H
        have c14b0 : decide (48 ≤ a0) = false := decide_eq_false c14
        clear c14
        replace H := Option.bind_eq_some_iff.mp H
        obtain ⟨t108, A170, H⟩ := H
        replace H : (some (decide (t108 ≥ 0))) = some r := H
        have A17 := Aside0.mk A170
        clear A170
        obtain rfl := Option.some.inj H
        go_enter Tryd.func35, Tryd.ntmps35
        go_wp2_with (first | (go_at_call 33; (with_reducible refine (strings_IndexByte.calls (⟨#[33, 35, 36, 37, 38, 39, 42, 43, 45, 46, 94, 95, 124, 126, 96]⟩ : ByteArray) a0 t108 _ A17.out).mono ?_); rintro e w' ⟨rfl, ⟨nd, rfl⟩⟩))
        go_ret
        exact ⟨by first | rfl | (simp; done) | (simp [*]; done) | (simp [q_ne_nil]; done), by repeat (first | exact Drawn0.refl _ | apply Drawn0.step)⟩
  · rw [if_neg c2] at H
    have c2b0 : decide (97 ≤ (Go.bits .or .u8 a0 32)) = false := decide_eq_false c2
    clear c2
    by_cases c18 : a0 ≥ 48
    · rw [if_pos c18] at H
      have c18b0 : decide (48 ≤ a0) = true := decide_eq_true c18
      clear c18
      by_cases c19 : a0 ≤ 57
      · rw [if_pos c19] at H
        have c19b0 : decide (a0 ≤ 57) = true := decide_eq_true c19
        clear c19
        obtain rfl := Option.some.inj H
        go_enter Tryd.func35, Tryd.ntmps35
        go_wp2
        go_ret
        exact ⟨by first | rfl | (simp; done) | (simp [*]; done) | (simp [q_ne_nil]; done), by repeat (first | exact Drawn0.refl _ | apply Drawn0.step)⟩
      · rw [if_neg c19] at H
        have c19b0 : decide (a0 ≤ 57) = false := decide_eq_false c19
        clear c19
        replace H := Option.bind_eq_some_iff.mp H
        obtain ⟨t109, A200, H⟩ := H
        replace H : (some (decide (t109 ≥ 0))) = some r := H
        have A20 := Aside0.mk A200
        clear A200
        obtain rfl := Option.some.inj H
        go_enter Tryd.func35, Tryd.ntmps35
        go_wp2_with (first | (go_at_call 33; (with_reducible refine (strings_IndexByte.calls (⟨#[33, 35, 36, 37, 38, 39, 42, 43, 45, 46, 94, 95, 124, 126, 96]⟩ : ByteArray) a0 t109 _ A20.out).mono ?_); rintro e w' ⟨rfl, ⟨nd, rfl⟩⟩))
        go_ret
        exact ⟨by first | rfl | (simp; done) | (simp [*]; done) | (simp [q_ne_nil]; done), by repeat (first | exact Drawn0.refl _ | apply Drawn0.step)⟩
    · rw [if_neg c18] at H
      have c18b0 : decide (48 ≤ a0) = false := decide_eq_false c18
      clear c18
      replace H := Option.bind_eq_some_iff.mp H
      obtain ⟨t110, A210, H⟩ := H
      replace H : (some (decide (t110 ≥ 0))) = some r := H
      have A21 := Aside0.mk A210
      clear A210
      obtain rfl := Option.some.inj H
      go_enter Tryd.func35, Tryd.ntmps35
      go_wp2_with (first | (go_at_call 33; (with_reducible refine (strings_IndexByte.calls (⟨#[33, 35, 36, 37, 38, 39, 42, 43, 45, 46, 94, 95, 124, 126, 96]⟩ : ByteArray) a0 t110 _ A21.out).mono ?_); rintro e w' ⟨rfl, ⟨nd, rfl⟩⟩))
      go_ret
      exact ⟨by first | rfl | (simp; done) | (simp [*]; done) | (simp [q_ne_nil]; done), by repeat (first | exact Drawn0.refl _ | apply Drawn0.step)⟩

/-! ### octet_Token: function 25 -/
def octet_Token.l0 : Nat → ByteArray → Int → Int → Option (Bool)
  | 0, _, _, _ => none
  | k + 1, x0, x5, x6 => if x6 < x5 then (if 0 ≤ x6 then (if x6 < (x0.size : Int) then ((octet_tchar.f (bt x0 x6)).bind fun t111 => (if t111 = true then (octet_Token.l0 k x0 x5 (wrap64 (x6 + 1))) else (some false))) else (none)) else (none)) else (some (x0.toList != ([] : List UInt8)))
def octet_Token.f (k : Nat) (a0 : ByteArray) : Option (Bool) := octet_Token.l0 k a0 (a0.size : Int) 0
theorem octet_Token.mono_l : ∀ k, (∀ y0 y1 y2, LeO (octet_Token.l0 k y0 y1 y2) (octet_Token.l0 (k + 1) y0 y1 y2))
  | 0 => fun _ _ _ r h => by simp [octet_Token.l0] at h
  | k + 1 => by
    have ih0 := octet_Token.mono_l k
    · intro y0 y1 y2
      unfold octet_Token.l0
      repeat' first
      | (with_reducible exact ih0 _ _ _)
      | (with_reducible exact LeO.refl _)
      | (with_reducible exact LeO.none _)
      | (with_reducible refine LeO.ite ?_ ?_)
      | (with_reducible refine LeO.bind ?_ (fun _ => ?_))
      | exact ih0 _ _ _
      | exact LeO.none _
      | refine LeO.ite ?_ ?_
      | refine LeO.bind ?_ (fun _ => ?_)
theorem octet_Token.mono : ∀ a0 k, LeO (octet_Token.f k a0) (octet_Token.f (k + 1) a0) := by
  intro a0 k
  have ih0 := octet_Token.mono_l k
  unfold octet_Token.f
  repeat' first
      | (with_reducible exact ih0 _ _ _)
      | (with_reducible exact LeO.refl _)
      | (with_reducible exact LeO.none _)
      | (with_reducible refine LeO.ite ?_ ?_)
      | (with_reducible refine LeO.bind ?_ (fun _ => ?_))
      | exact ih0 _ _ _
      | exact LeO.none _
      | refine LeO.ite ?_ ?_
      | refine LeO.bind ?_ (fun _ => ?_)
set_option maxHeartbeats 8000000 in
set_option maxRecDepth 100000 in
theorem octet_Token.calls (k : Nat) (a0 : ByteArray) (r : Bool) (w : World) (h : octet_Token.f k a0 = some r) :
    Calls Tryd.prog 25 #[.string a0] w fun e w' => e = .returned (.bool r) ∧ Drawn0 w w' := by
  have H : (octet_Token.l0 k a0 (a0.size : Int) 0) = some r := h
  clear h
  have H' := Aside0.mk H
  clear H
  go_enter Tryd.func25, Tryd.ntmps25
  go_wp2
  go_loopg [6] k (fun kq v6 w' => ∃ (x6_1 : Int), v6 = .int .i64 x6_1 ∧ Aside0 (octet_Token.l0 kq a0 (a0.size : Int) x6_1 = some r) ∧ Aside0 (kq ≤ k) ∧ Drawn0 w w')
  case atStart => exact ⟨(0), (by first | rfl | (simp; done) | (simp [*]; done) | (simp [q_ne_nil]; done)), H', ⟨Nat.le_refl _⟩, by repeat (first | exact Drawn0.refl _ | apply Drawn0.step)⟩
  case round =>
    clear H'
    obtain ⟨x6_1, rfl, HA, HK1, ⟨m1, rfl⟩⟩ := hrel
    cases gk with
    | zero => exact absurd HA.out (by simp [octet_Token.l0])
    | succ k1 =>
      have H := HA.out
      clear HA
      simp only [octet_Token.l0] at H
      by_cases c2 : x6_1 < (a0.size : Int)
      · rw [if_pos c2] at H
        have c2b0 : decide (x6_1 < (a0.size : Int)) = true := decide_eq_true c2
        clear c2
        by_cases c3 : 0 ≤ x6_1
        · rw [if_pos c3] at H
          have c3b0 : decide (0 ≤ x6_1) = true := decide_eq_true c3
          clear c3
          by_cases c4 : x6_1 < (a0.size : Int)
          · rw [if_pos c4] at H
            have c4b0 : decide (x6_1 < (a0.size : Int)) = true := decide_eq_true c4
            clear c4
            replace H := Option.bind_eq_some_iff.mp H
            obtain ⟨t111, A60, H⟩ := H
            replace H : (if t111 = true then (octet_Token.l0 k1 a0 (a0.size : Int) (wrap64 (x6_1 + 1))) else (some false)) = some r := H
            have A6 := Aside0.mk A60
            clear A60
            by_cases c7 : t111 = true
            · subst c7
              have H1 : (octet_Token.l0 k1 a0 (a0.size : Int) (wrap64 (x6_1 + 1))) = some r := by rw [if_pos rfl] at H; exact H
              clear H
              have H := H1
              clear H1
              have H' := Aside0.mk H
              clear H
              have p5 : 0 ≤ (x6_1 : Int) := of_decide_eq_true (by first | (with_reducible assumption) | assumption)
              have q5 : x6_1 < (a0.size : Int) := of_decide_eq_true (by first | (with_reducible assumption) | assumption)
              have hx5 := bt_at a0 x6_1
              replace p5 := eq_true p5
              replace q5 := eq_true q5
              go_wp2_with (first | ((with_reducible refine gate_callee (f := 35) rfl ?_); refine goesL_ (some 12) rfl rfl Tryd.func35 (by kernel_rfl) rfl #[.int .u8 (bt a0 x6_1)] rfl (by (try simp only [List.map_toArray, List.map_cons, List.map_nil]); first | done | rfl | (simp only [List.length_drop, List.length_take]; rfl)) ?_; (with_reducible refine (octet_tchar.calls (bt a0 x6_1) true _ A6.out).mono ?_); rintro e w' ⟨rfl, ⟨nd, rfl⟩⟩; refine ⟨_, rfl, ?_⟩))
              go_roundg k1
              case measure => have := HK1.out; omega
              case rel => exact ⟨(wrap64 (x6_1 + 1)), (by first | rfl | (simp; done) | (simp [*]; done) | (simp [q_ne_nil]; done)), H', ⟨by have := HK1.out; omega⟩, by repeat (first | exact Drawn0.refl _ | apply Drawn0.step)⟩
            · replace c7 := Bool.eq_false_iff.mpr c7
              subst c7
              have H1 : (some false) = some r := by rw [if_neg (show ¬ (false = true) by decide)] at H; exact H
              clear H
              have H := H1
              clear H1
              obtain rfl := Option.some.inj H
              have p5 : 0 ≤ (x6_1 : Int) := of_decide_eq_true (by first | (with_reducible assumption) | assumption)
              have q5 : x6_1 < (a0.size : Int) := of_decide_eq_true (by first | (with_reducible assumption) | assumption)
              have hx5 := bt_at a0 x6_1
              replace p5 := eq_true p5
              replace q5 := eq_true q5
              go_wp2_with (first | ((with_reducible refine gate_callee (f := 35) rfl ?_); refine goesL_ (some 12) rfl rfl Tryd.func35 (by kernel_rfl) rfl #[.int .u8 (bt a0 x6_1)] rfl (by (try simp only [List.map_toArray, List.map_cons, List.map_nil]); first | done | rfl | (simp only [List.length_drop, List.length_take]; rfl)) ?_; (with_reducible refine (octet_tchar.calls (bt a0 x6_1) false _ A6.out).mono ?_); rintro e w' ⟨rfl, ⟨nd, rfl⟩⟩; refine ⟨_, rfl, ?_⟩))
              go_ret
              exact ⟨by first | rfl | (simp; done) | (simp [*]; done) | (simp [q_ne_nil]; done), by repeat (first | exact Drawn0.refl _ | apply Drawn0.step)⟩
          · rw [if_neg c4] at H
            exact absurd H (by simp)
        · rw [if_neg c3] at H
          exact absurd H (by simp)
      · rw [if_neg c2] at H
        have c2b0 : decide (x6_1 < (a0.size : Int)) = false := decide_eq_false c2
        clear c2
        obtain rfl := Option.some.inj H
        go_wp2
        go_ret
        exact ⟨by first | rfl | (simp; done) | (simp [*]; done) | (simp [q_ne_nil]; done), by repeat (first | exact Drawn0.refl _ | apply Drawn0.step)⟩

/-! ### glacislaw01_awake: function 11 -/
def glacislaw01_awake.f (k : Nat)  : Option (Bool) := (octet_Number.f k (⟨#[56, 48]⟩ : ByteArray) 99).bind fun bt112 => ((octet_Number.f k (⟨#[48, 56, 48]⟩ : ByteArray) 99).bind fun bt114 => ((octet_Split.f (⟨#[97, 44, 44, 98]⟩ : ByteArray) 44).bind fun t116 => ((octet_Lower.f (⟨#[97, 90]⟩ : ByteArray)).bind fun t119 => (if t119.toList = ([97, 122] : List UInt8) then ((octet_Fold.f (⟨#[88, 45, 89]⟩ : ByteArray) (⟨#[120, 45, 121]⟩ : ByteArray)).bind fun t120 => (if t120 = true then ((octet_Trim.f (⟨#[9, 97, 32, 98, 32]⟩ : ByteArray)).bind fun t121 => (if t121.toList = ([97, 32, 98] : List UInt8) then (if (t116.length : Int) = 3 then ((octet_Words.f (⟨#[32, 97, 32, 32, 98, 32]⟩ : ByteArray)).bind fun t122 => (if (t122.length : Int) = 2 then ((octet_Token.f k (⟨#[120, 45, 121]⟩ : ByteArray)).bind fun t125 => (if t125 = true then ((octet_Token.f k (⟨#[]⟩ : ByteArray)).bind fun t126 => (if t126 = true then (some false) else (if bt112.1 = 80 then (if bt112.2 = true then (some (!bt114.2)) else (some false)) else (some false)))) else (some false))) else (some false))) else (some false)) else (some false))) else (some false))) else (some false)))))
theorem glacislaw01_awake.mono : ∀ k, LeO (glacislaw01_awake.f k ) (glacislaw01_awake.f (k + 1) ) := by
  intro  k
  unfold glacislaw01_awake.f
  repeat' first
      | (with_reducible exact octet_Number.mono _ _ _)
      | (with_reducible exact octet_Token.mono _ _)
      | (with_reducible exact LeO.refl _)
      | (with_reducible exact LeO.none _)
      | (with_reducible refine LeO.ite ?_ ?_)
      | (with_reducible refine LeO.bind ?_ (fun _ => ?_))
      | exact octet_Number.mono _ _ _
      | exact octet_Token.mono _ _
      | exact LeO.none _
      | refine LeO.ite ?_ ?_
      | refine LeO.bind ?_ (fun _ => ?_)
set_option maxHeartbeats 8000000 in
set_option maxRecDepth 100000 in
theorem glacislaw01_awake.calls (k : Nat)  (r : Bool) (w : World) (h : glacislaw01_awake.f k  = some r) :
    Calls Tryd.prog 11 #[] w fun e w' => e = .returned (.bool r) ∧ Below w.heap.size w w' := by
  have HB := Aside0.mk (Below.refl w.heap.size w)
  have H : ((octet_Number.f k (⟨#[56, 48]⟩ : ByteArray) 99).bind fun bt112 => ((octet_Number.f k (⟨#[48, 56, 48]⟩ : ByteArray) 99).bind fun bt114 => ((octet_Split.f (⟨#[97, 44, 44, 98]⟩ : ByteArray) 44).bind fun t116 => ((octet_Lower.f (⟨#[97, 90]⟩ : ByteArray)).bind fun t119 => (if t119.toList = ([97, 122] : List UInt8) then ((octet_Fold.f (⟨#[88, 45, 89]⟩ : ByteArray) (⟨#[120, 45, 121]⟩ : ByteArray)).bind fun t120 => (if t120 = true then ((octet_Trim.f (⟨#[9, 97, 32, 98, 32]⟩ : ByteArray)).bind fun t121 => (if t121.toList = ([97, 32, 98] : List UInt8) then (if (t116.length : Int) = 3 then ((octet_Words.f (⟨#[32, 97, 32, 32, 98, 32]⟩ : ByteArray)).bind fun t122 => (if (t122.length : Int) = 2 then ((octet_Token.f k (⟨#[120, 45, 121]⟩ : ByteArray)).bind fun t125 => (if t125 = true then ((octet_Token.f k (⟨#[]⟩ : ByteArray)).bind fun t126 => (if t126 = true then (some false) else (if bt112.1 = 80 then (if bt112.2 = true then (some (!bt114.2)) else (some false)) else (some false)))) else (some false))) else (some false))) else (some false)) else (some false))) else (some false))) else (some false)))))) = some r := h
  clear h
  replace H := Option.bind_eq_some_iff.mp H
  obtain ⟨⟨t112, t113⟩, A10, H⟩ := H
  replace H : ((octet_Number.f k (⟨#[48, 56, 48]⟩ : ByteArray) 99).bind fun bt114 => ((octet_Split.f (⟨#[97, 44, 44, 98]⟩ : ByteArray) 44).bind fun t116 => ((octet_Lower.f (⟨#[97, 90]⟩ : ByteArray)).bind fun t119 => (if t119.toList = ([97, 122] : List UInt8) then ((octet_Fold.f (⟨#[88, 45, 89]⟩ : ByteArray) (⟨#[120, 45, 121]⟩ : ByteArray)).bind fun t120 => (if t120 = true then ((octet_Trim.f (⟨#[9, 97, 32, 98, 32]⟩ : ByteArray)).bind fun t121 => (if t121.toList = ([97, 32, 98] : List UInt8) then (if (t116.length : Int) = 3 then ((octet_Words.f (⟨#[32, 97, 32, 32, 98, 32]⟩ : ByteArray)).bind fun t122 => (if (t122.length : Int) = 2 then ((octet_Token.f k (⟨#[120, 45, 121]⟩ : ByteArray)).bind fun t125 => (if t125 = true then ((octet_Token.f k (⟨#[]⟩ : ByteArray)).bind fun t126 => (if t126 = true then (some false) else (if t112 = 80 then (if t113 = true then (some (!bt114.2)) else (some false)) else (some false)))) else (some false))) else (some false))) else (some false)) else (some false))) else (some false))) else (some false))))) = some r := H
  have A1 := Aside0.mk A10
  clear A10
  replace H := Option.bind_eq_some_iff.mp H
  obtain ⟨⟨t114, t115⟩, A20, H⟩ := H
  replace H : ((octet_Split.f (⟨#[97, 44, 44, 98]⟩ : ByteArray) 44).bind fun t116 => ((octet_Lower.f (⟨#[97, 90]⟩ : ByteArray)).bind fun t119 => (if t119.toList = ([97, 122] : List UInt8) then ((octet_Fold.f (⟨#[88, 45, 89]⟩ : ByteArray) (⟨#[120, 45, 121]⟩ : ByteArray)).bind fun t120 => (if t120 = true then ((octet_Trim.f (⟨#[9, 97, 32, 98, 32]⟩ : ByteArray)).bind fun t121 => (if t121.toList = ([97, 32, 98] : List UInt8) then (if (t116.length : Int) = 3 then ((octet_Words.f (⟨#[32, 97, 32, 32, 98, 32]⟩ : ByteArray)).bind fun t122 => (if (t122.length : Int) = 2 then ((octet_Token.f k (⟨#[120, 45, 121]⟩ : ByteArray)).bind fun t125 => (if t125 = true then ((octet_Token.f k (⟨#[]⟩ : ByteArray)).bind fun t126 => (if t126 = true then (some false) else (if t112 = 80 then (if t113 = true then (some (!t115)) else (some false)) else (some false)))) else (some false))) else (some false))) else (some false)) else (some false))) else (some false))) else (some false)))) = some r := H
  have A2 := Aside0.mk A20
  clear A20
  replace H := Option.bind_eq_some_iff.mp H
  obtain ⟨t116, A30, H⟩ := H
  replace H : ((octet_Lower.f (⟨#[97, 90]⟩ : ByteArray)).bind fun t119 => (if t119.toList = ([97, 122] : List UInt8) then ((octet_Fold.f (⟨#[88, 45, 89]⟩ : ByteArray) (⟨#[120, 45, 121]⟩ : ByteArray)).bind fun t120 => (if t120 = true then ((octet_Trim.f (⟨#[9, 97, 32, 98, 32]⟩ : ByteArray)).bind fun t121 => (if t121.toList = ([97, 32, 98] : List UInt8) then (if (t116.length : Int) = 3 then ((octet_Words.f (⟨#[32, 97, 32, 32, 98, 32]⟩ : ByteArray)).bind fun t122 => (if (t122.length : Int) = 2 then ((octet_Token.f k (⟨#[120, 45, 121]⟩ : ByteArray)).bind fun t125 => (if t125 = true then ((octet_Token.f k (⟨#[]⟩ : ByteArray)).bind fun t126 => (if t126 = true then (some false) else (if t112 = 80 then (if t113 = true then (some (!t115)) else (some false)) else (some false)))) else (some false))) else (some false))) else (some false)) else (some false))) else (some false))) else (some false))) = some r := H
  have A3 := Aside0.mk A30
  clear A30
  replace H := Option.bind_eq_some_iff.mp H
  obtain ⟨t119, A40, H⟩ := H
  replace H : (if t119.toList = ([97, 122] : List UInt8) then ((octet_Fold.f (⟨#[88, 45, 89]⟩ : ByteArray) (⟨#[120, 45, 121]⟩ : ByteArray)).bind fun t120 => (if t120 = true then ((octet_Trim.f (⟨#[9, 97, 32, 98, 32]⟩ : ByteArray)).bind fun t121 => (if t121.toList = ([97, 32, 98] : List UInt8) then (if (t116.length : Int) = 3 then ((octet_Words.f (⟨#[32, 97, 32, 32, 98, 32]⟩ : ByteArray)).bind fun t122 => (if (t122.length : Int) = 2 then ((octet_Token.f k (⟨#[120, 45, 121]⟩ : ByteArray)).bind fun t125 => (if t125 = true then ((octet_Token.f k (⟨#[]⟩ : ByteArray)).bind fun t126 => (if t126 = true then (some false) else (if t112 = 80 then (if t113 = true then (some (!t115)) else (some false)) else (some false)))) else (some false))) else (some false))) else (some false)) else (some false))) else (some false))) else (some false)) = some r := H
  have A4 := Aside0.mk A40
  clear A40
  by_cases c5 : t119.toList = ([97, 122] : List UInt8)
  · rw [if_pos c5] at H
    have c5b0 : (t119.toList == ([97, 122] : List UInt8)) = true := beq_iff_eq.mpr c5
    have c5b1 : (t119.toList != ([97, 122] : List UInt8)) = false := bne_eq_false_iff_eq.mpr c5
    clear c5
    replace H := Option.bind_eq_some_iff.mp H
    obtain ⟨t120, A60, H⟩ := H
    replace H : (if t120 = true then ((octet_Trim.f (⟨#[9, 97, 32, 98, 32]⟩ : ByteArray)).bind fun t121 => (if t121.toList = ([97, 32, 98] : List UInt8) then (if (t116.length : Int) = 3 then ((octet_Words.f (⟨#[32, 97, 32, 32, 98, 32]⟩ : ByteArray)).bind fun t122 => (if (t122.length : Int) = 2 then ((octet_Token.f k (⟨#[120, 45, 121]⟩ : ByteArray)).bind fun t125 => (if t125 = true then ((octet_Token.f k (⟨#[]⟩ : ByteArray)).bind fun t126 => (if t126 = true then (some false) else (if t112 = 80 then (if t113 = true then (some (!t115)) else (some false)) else (some false)))) else (some false))) else (some false))) else (some false)) else (some false))) else (some false)) = some r := H
    have A6 := Aside0.mk A60
    clear A60
    by_cases c7 : t120 = true
    · subst c7
      have H1 : ((octet_Trim.f (⟨#[9, 97, 32, 98, 32]⟩ : ByteArray)).bind fun t121 => (if t121.toList = ([97, 32, 98] : List UInt8) then (if (t116.length : Int) = 3 then ((octet_Words.f (⟨#[32, 97, 32, 32, 98, 32]⟩ : ByteArray)).bind fun t122 => (if (t122.length : Int) = 2 then ((octet_Token.f k (⟨#[120, 45, 121]⟩ : ByteArray)).bind fun t125 => (if t125 = true then ((octet_Token.f k (⟨#[]⟩ : ByteArray)).bind fun t126 => (if t126 = true then (some false) else (if t112 = 80 then (if t113 = true then (some (!t115)) else (some false)) else (some false)))) else (some false))) else (some false))) else (some false)) else (some false))) = some r := by rw [if_pos rfl] at H; exact H
      clear H
      have H := H1
      clear H1
      replace H := Option.bind_eq_some_iff.mp H
      obtain ⟨t121, A80, H⟩ := H
      replace H : (if t121.toList = ([97, 32, 98] : List UInt8) then (if (t116.length : Int) = 3 then ((octet_Words.f (⟨#[32, 97, 32, 32, 98, 32]⟩ : ByteArray)).bind fun t122 => (if (t122.length : Int) = 2 then ((octet_Token.f k (⟨#[120, 45, 121]⟩ : ByteArray)).bind fun t125 => (if t125 = true then ((octet_Token.f k (⟨#[]⟩ : ByteArray)).bind fun t126 => (if t126 = true then (some false) else (if t112 = 80 then (if t113 = true then (some (!t115)) else (some false)) else (some false)))) else (some false))) else (some false))) else (some false)) else (some false)) = some r := H
      have A8 := Aside0.mk A80
      clear A80
      by_cases c9 : t121.toList = ([97, 32, 98] : List UInt8)
      · rw [if_pos c9] at H
        have c9b0 : (t121.toList == ([97, 32, 98] : List UInt8)) = true := beq_iff_eq.mpr c9
        have c9b1 : (t121.toList != ([97, 32, 98] : List UInt8)) = false := bne_eq_false_iff_eq.mpr c9
        clear c9
        by_cases c10 : (t116.length : Int) = 3
        · rw [if_pos c10] at H
          have c10b0 : ((t116.length : Int) == 3) = true := beq_iff_eq.mpr c10
          have c10b1 : ((t116.length : Int) != 3) = false := bne_eq_false_iff_eq.mpr c10
          clear c10
          replace H := Option.bind_eq_some_iff.mp H
          obtain ⟨t122, A110, H⟩ := H
          replace H : (if (t122.length : Int) = 2 then ((octet_Token.f k (⟨#[120, 45, 121]⟩ : ByteArray)).bind fun t125 => (if t125 = true then ((octet_Token.f k (⟨#[]⟩ : ByteArray)).bind fun t126 => (if t126 = true then (some false) else (if t112 = 80 then (if t113 = true then (some (!t115)) else (some false)) else (some false)))) else (some false))) else (some false)) = some r := H
          have A11 := Aside0.mk A110
          clear A110
          by_cases c12 : (t122.length : Int) = 2
          · rw [if_pos c12] at H
            have c12b0 : ((t122.length : Int) == 2) = true := beq_iff_eq.mpr c12
            have c12b1 : ((t122.length : Int) != 2) = false := bne_eq_false_iff_eq.mpr c12
            clear c12
            replace H := Option.bind_eq_some_iff.mp H
            obtain ⟨t125, A130, H⟩ := H
            replace H : (if t125 = true then ((octet_Token.f k (⟨#[]⟩ : ByteArray)).bind fun t126 => (if t126 = true then (some false) else (if t112 = 80 then (if t113 = true then (some (!t115)) else (some false)) else (some false)))) else (some false)) = some r := H
            have A13 := Aside0.mk A130
            clear A130
            by_cases c14 : t125 = true
            · subst c14
              have H1 : ((octet_Token.f k (⟨#[]⟩ : ByteArray)).bind fun t126 => (if t126 = true then (some false) else (if t112 = 80 then (if t113 = true then (some (!t115)) else (some false)) else (some false)))) = some r := by rw [if_pos rfl] at H; exact H
              clear H
              have H := H1
              clear H1
              replace H := Option.bind_eq_some_iff.mp H
              obtain ⟨t126, A150, H⟩ := H
              replace H : (if t126 = true then (some false) else (if t112 = 80 then (if t113 = true then (some (!t115)) else (some false)) else (some false))) = some r := H
              have A15 := Aside0.mk A150
              clear A150
              by_cases c16 : t126 = true
              · subst c16
                have H1 : (some false) = some r := by rw [if_pos rfl] at H; exact H
                clear H
                have H := H1
                clear H1
                obtain rfl := Option.some.inj H
                go_enter Tryd.func11, Tryd.ntmps11
                go_wp2_with (first | ((with_reducible refine gate_callee (f := 23) rfl ?_); refine goesL_ (some 7) rfl rfl Tryd.func23 (by kernel_rfl) rfl #[.string (⟨#[56, 48]⟩ : ByteArray), .int .i64 99] rfl (by (try simp only [List.map_toArray, List.map_cons, List.map_nil]); first | done | rfl | (simp only [List.length_drop, List.length_take]; rfl)) ?_; (with_reducible refine (octet_Number.calls k (⟨#[56, 48]⟩ : ByteArray) 99 t112 t113 _ A1.out).mono ?_); rintro e w' ⟨rfl, ⟨nd, rfl⟩⟩; refine ⟨_, rfl, ?_⟩) | ((with_reducible refine gate_callee (f := 23) rfl ?_); refine goesL_ (some 11) rfl rfl Tryd.func23 (by kernel_rfl) rfl #[.string (⟨#[48, 56, 48]⟩ : ByteArray), .int .i64 99] rfl (by (try simp only [List.map_toArray, List.map_cons, List.map_nil]); first | done | rfl | (simp only [List.length_drop, List.length_take]; rfl)) ?_; (with_reducible refine (octet_Number.calls k (⟨#[48, 56, 48]⟩ : ByteArray) 99 t114 t115 _ A2.out).mono ?_); rintro e w' ⟨rfl, ⟨nd, rfl⟩⟩; refine ⟨_, rfl, ?_⟩) | ((with_reducible refine gate_callee (f := 19) rfl ?_); refine goesL_ (some 14) rfl rfl Tryd.func19 (by kernel_rfl) rfl #[.string (⟨#[97, 44, 44, 98]⟩ : ByteArray), .int .u8 44] rfl (by (try simp only [List.map_toArray, List.map_cons, List.map_nil]); first | done | rfl | (simp only [List.length_drop, List.length_take]; rfl)) ?_; (with_reducible refine (octet_Split.calls (⟨#[97, 44, 44, 98]⟩ : ByteArray) 44 t116 _ A3.out).mono ?_); rintro e w17 ⟨v117, rfl, ho0, hb⟩; refine ⟨_, rfl, ?_⟩; have n0_ := Aside0.mk (Kd.R_lower ho0 (below_size (by repeat (first | (with_reducible first | exact HB.out | apply below_alloc | apply pw_below_drewN | apply below_drew1) | exact HB.out)))); have n1_ := Aside0.mk (below_step (by repeat (first | (with_reducible first | exact HB.out | apply below_alloc | apply pw_below_drewN | apply below_drew1) | exact HB.out)) hb); clear HB; have HO118 := n0_; have HB := n1_; clear n0_ n1_; (try clear hb); (try clear hb2); (try clear hk); (try clear hi); (try clear ho0)) | ((with_reducible refine gate_callee (f := 12) rfl ?_); refine goesL_ (some 15) rfl rfl Tryd.func12 (by kernel_rfl) rfl #[.string (⟨#[97, 90]⟩ : ByteArray)] rfl (by (try simp only [List.map_toArray, List.map_cons, List.map_nil]); first | done | rfl | (simp only [List.length_drop, List.length_take]; rfl)) ?_; (with_reducible refine (octet_Lower.calls (⟨#[97, 90]⟩ : ByteArray) t119 _ A4.out).mono ?_); rintro e w18 ⟨rfl, hb⟩; refine ⟨_, rfl, ?_⟩; have n0_ := Aside0.mk (Kd.R_below (by (with_reducible repeat (first | apply Kd.R_alloc | apply Kd.R_drewN | apply Kd.R_drew)); exact HO118.out) hb); have n1_ := Aside0.mk (below_step (by repeat (first | (with_reducible first | exact HB.out | apply below_alloc | apply pw_below_drewN | apply below_drew1) | exact HB.out)) hb); clear HO118; clear HB; have HO118 := n0_; have HB := n1_; clear n0_ n1_; (try clear hb); (try clear hb2); (try clear hk); (try clear hi)) | (go_at_call 16; (with_reducible refine (octet_Fold.calls (⟨#[88, 45, 89]⟩ : ByteArray) (⟨#[120, 45, 121]⟩ : ByteArray) true _ A6.out).mono ?_); rintro e w19 ⟨rfl, hb⟩; have n0_ := Aside0.mk (Kd.R_below (by (with_reducible repeat (first | apply Kd.R_alloc | apply Kd.R_drewN | apply Kd.R_drew)); exact HO118.out) hb); have n1_ := Aside0.mk (below_step (by repeat (first | (with_reducible first | exact HB.out | apply below_alloc | apply pw_below_drewN | apply below_drew1) | exact HB.out)) hb); clear HO118; clear HB; have HO118 := n0_; have HB := n1_; clear n0_ n1_; (try clear hb); (try clear hb2); (try clear hk); (try clear hi)) | (go_at_call 14; (with_reducible refine (octet_Trim.calls (⟨#[9, 97, 32, 98, 32]⟩ : ByteArray) t121 _ A8.out).mono ?_); rintro e w20 ⟨rfl, hb⟩; have n0_ := Aside0.mk (Kd.R_below (by (with_reducible repeat (first | apply Kd.R_alloc | apply Kd.R_drewN | apply Kd.R_drew)); exact HO118.out) hb); have n1_ := Aside0.mk (below_step (by repeat (first | (with_reducible first | exact HB.out | apply below_alloc | apply pw_below_drewN | apply below_drew1) | exact HB.out)) hb); clear HO118; clear HB; have HO118 := n0_; have HB := n1_; clear n0_ n1_; (try clear hb); (try clear hb2); (try clear hk); (try clear hi); obtain ⟨Ao21, co21, eo21⟩ := Kd.R_slice HO118.out; subst eo21) | (go_at_call 21; (with_reducible refine (octet_Words.calls (⟨#[32, 97, 32, 32, 98, 32]⟩ : ByteArray) t122 _ A11.out).mono ?_); rintro e w22 ⟨v123, rfl, ho0, hb⟩; have n0_ := Aside0.mk (Kd.R_elder' (by (with_reducible repeat (first | apply Kd.R_alloc | apply Kd.R_drewN | apply Kd.R_drew)); exact HO118.out) (Kd.R_base ho0) hb); have n1_ := Aside0.mk (Kd.R_lower (Kd.R_new' ho0 (Kd.R_lt (by (with_reducible repeat (first | apply Kd.R_alloc | apply Kd.R_drewN | apply Kd.R_drew)); exact HO118.out))) (below_size (by repeat (first | (with_reducible first | exact HB.out | apply below_alloc | apply pw_below_drewN | apply below_drew1) | exact HB.out)))); have n2_ := Aside0.mk (below_step (by repeat (first | (with_reducible first | exact HB.out | apply below_alloc | apply pw_below_drewN | apply below_drew1) | exact HB.out)) hb); clear HO118; clear HB; have HO118 := n0_; have HO124 := n1_; have HB := n2_; clear n0_ n1_ n2_; (try clear hb); (try clear hb2); (try clear hk); (try clear hi); (try clear ho0); obtain ⟨Ao23, co23, eo23⟩ := Kd.R_slice HO124.out; subst eo23) | (go_at_call 25; (with_reducible refine (octet_Token.calls k (⟨#[120, 45, 121]⟩ : ByteArray) true _ A13.out).mono ?_); rintro e w' ⟨rfl, ⟨nd, rfl⟩⟩) | (go_at_call 25; (with_reducible refine (octet_Token.calls k (⟨#[]⟩ : ByteArray) true _ A15.out).mono ?_); rintro e w' ⟨rfl, ⟨nd, rfl⟩⟩))
                go_ret
                exact ⟨by first | rfl | (simp [errW_none, errW_some] <;> rfl) | (simp [*, errW_none, errW_some] <;> rfl) | (simp [q_ne_nil]; done), by repeat (first | (with_reducible first | exact HB.out | apply below_alloc | apply pw_below_drewN | apply below_drew1) | exact HB.out)⟩
              · replace c16 := Bool.eq_false_iff.mpr c16
                subst c16
                have H1 : (if t112 = 80 then (if t113 = true then (some (!t115)) else (some false)) else (some false)) = some r := by rw [if_neg (show ¬ (false = true) by decide)] at H; exact H
                clear H
                have H := H1
                clear H1
                by_cases c24 : t112 = 80
                · rw [if_pos c24] at H
                  have c24b0 : (t112 == 80) = true := beq_iff_eq.mpr c24
                  have c24b1 : (t112 != 80) = false := bne_eq_false_iff_eq.mpr c24
                  clear c24
                  by_cases c25 : t113 = true
                  · subst c25
                    have H1 : (some (!t115)) = some r := by rw [if_pos rfl] at H; exact H
                    clear H
                    have H := H1
                    clear H1
                    obtain rfl := Option.some.inj H
                    go_enter Tryd.func11, Tryd.ntmps11
                    go_wp2_with (first | ((with_reducible refine gate_callee (f := 23) rfl ?_); refine goesL_ (some 7) rfl rfl Tryd.func23 (by kernel_rfl) rfl #[.string (⟨#[56, 48]⟩ : ByteArray), .int .i64 99] rfl (by (try simp only [List.map_toArray, List.map_cons, List.map_nil]); first | done | rfl | (simp only [List.length_drop, List.length_take]; rfl)) ?_; (with_reducible refine (octet_Number.calls k (⟨#[56, 48]⟩ : ByteArray) 99 t112 true _ A1.out).mono ?_); rintro e w' ⟨rfl, ⟨nd, rfl⟩⟩; refine ⟨_, rfl, ?_⟩) | ((with_reducible refine gate_callee (f := 23) rfl ?_); refine goesL_ (some 11) rfl rfl Tryd.func23 (by kernel_rfl) rfl #[.string (⟨#[48, 56, 48]⟩ : ByteArray), .int .i64 99] rfl (by (try simp only [List.map_toArray, List.map_cons, List.map_nil]); first | done | rfl | (simp only [List.length_drop, List.length_take]; rfl)) ?_; (with_reducible refine (octet_Number.calls k (⟨#[48, 56, 48]⟩ : ByteArray) 99 t114 t115 _ A2.out).mono ?_); rintro e w' ⟨rfl, ⟨nd, rfl⟩⟩; refine ⟨_, rfl, ?_⟩) | ((with_reducible refine gate_callee (f := 19) rfl ?_); refine goesL_ (some 14) rfl rfl Tryd.func19 (by kernel_rfl) rfl #[.string (⟨#[97, 44, 44, 98]⟩ : ByteArray), .int .u8 44] rfl (by (try simp only [List.map_toArray, List.map_cons, List.map_nil]); first | done | rfl | (simp only [List.length_drop, List.length_take]; rfl)) ?_; (with_reducible refine (octet_Split.calls (⟨#[97, 44, 44, 98]⟩ : ByteArray) 44 t116 _ A3.out).mono ?_); rintro e w26 ⟨v117, rfl, ho0, hb⟩; refine ⟨_, rfl, ?_⟩; have n0_ := Aside0.mk (Kd.R_lower ho0 (below_size (by repeat (first | (with_reducible first | exact HB.out | apply below_alloc | apply pw_below_drewN | apply below_drew1) | exact HB.out)))); have n1_ := Aside0.mk (below_step (by repeat (first | (with_reducible first | exact HB.out | apply below_alloc | apply pw_below_drewN | apply below_drew1) | exact HB.out)) hb); clear HB; have HO118 := n0_; have HB := n1_; clear n0_ n1_; (try clear hb); (try clear hb2); (try clear hk); (try clear hi); (try clear ho0)) | ((with_reducible refine gate_callee (f := 12) rfl ?_); refine goesL_ (some 15) rfl rfl Tryd.func12 (by kernel_rfl) rfl #[.string (⟨#[97, 90]⟩ : ByteArray)] rfl (by (try simp only [List.map_toArray, List.map_cons, List.map_nil]); first | done | rfl | (simp only [List.length_drop, List.length_take]; rfl)) ?_; (with_reducible refine (octet_Lower.calls (⟨#[97, 90]⟩ : ByteArray) t119 _ A4.out).mono ?_); rintro e w27 ⟨rfl, hb⟩; refine ⟨_, rfl, ?_⟩; have n0_ := Aside0.mk (Kd.R_below (by (with_reducible repeat (first | apply Kd.R_alloc | apply Kd.R_drewN | apply Kd.R_drew)); exact HO118.out) hb); have n1_ := Aside0.mk (below_step (by repeat (first | (with_reducible first | exact HB.out | apply below_alloc | apply pw_below_drewN | apply below_drew1) | exact HB.out)) hb); clear HO118; clear HB; have HO118 := n0_; have HB := n1_; clear n0_ n1_; (try clear hb); (try clear hb2); (try clear hk); (try clear hi)) | (go_at_call 16; (with_reducible refine (octet_Fold.calls (⟨#[88, 45, 89]⟩ : ByteArray) (⟨#[120, 45, 121]⟩ : ByteArray) true _ A6.out).mono ?_); rintro e w28 ⟨rfl, hb⟩; have n0_ := Aside0.mk (Kd.R_below (by (with_reducible repeat (first | apply Kd.R_alloc | apply Kd.R_drewN | apply Kd.R_drew)); exact HO118.out) hb); have n1_ := Aside0.mk (below_step (by repeat (first | (with_reducible first | exact HB.out | apply below_alloc | apply pw_below_drewN | apply below_drew1) | exact HB.out)) hb); clear HO118; clear HB; have HO118 := n0_; have HB := n1_; clear n0_ n1_; (try clear hb); (try clear hb2); (try clear hk); (try clear hi)) | (go_at_call 14; (with_reducible refine (octet_Trim.calls (⟨#[9, 97, 32, 98, 32]⟩ : ByteArray) t121 _ A8.out).mono ?_); rintro e w29 ⟨rfl, hb⟩; have n0_ := Aside0.mk (Kd.R_below (by (with_reducible repeat (first | apply Kd.R_alloc | apply Kd.R_drewN | apply Kd.R_drew)); exact HO118.out) hb); have n1_ := Aside0.mk (below_step (by repeat (first | (with_reducible first | exact HB.out | apply below_alloc | apply pw_below_drewN | apply below_drew1) | exact HB.out)) hb); clear HO118; clear HB; have HO118 := n0_; have HB := n1_; clear n0_ n1_; (try clear hb); (try clear hb2); (try clear hk); (try clear hi); obtain ⟨Ao30, co30, eo30⟩ := Kd.R_slice HO118.out; subst eo30) | (go_at_call 21; (with_reducible refine (octet_Words.calls (⟨#[32, 97, 32, 32, 98, 32]⟩ : ByteArray) t122 _ A11.out).mono ?_); rintro e w31 ⟨v123, rfl, ho0, hb⟩; have n0_ := Aside0.mk (Kd.R_elder' (by (with_reducible repeat (first | apply Kd.R_alloc | apply Kd.R_drewN | apply Kd.R_drew)); exact HO118.out) (Kd.R_base ho0) hb); have n1_ := Aside0.mk (Kd.R_lower (Kd.R_new' ho0 (Kd.R_lt (by (with_reducible repeat (first | apply Kd.R_alloc | apply Kd.R_drewN | apply Kd.R_drew)); exact HO118.out))) (below_size (by repeat (first | (with_reducible first | exact HB.out | apply below_alloc | apply pw_below_drewN | apply below_drew1) | exact HB.out)))); have n2_ := Aside0.mk (below_step (by repeat (first | (with_reducible first | exact HB.out | apply below_alloc | apply pw_below_drewN | apply below_drew1) | exact HB.out)) hb); clear HO118; clear HB; have HO118 := n0_; have HO124 := n1_; have HB := n2_; clear n0_ n1_ n2_; (try clear hb); (try clear hb2); (try clear hk); (try clear hi); (try clear ho0); obtain ⟨Ao32, co32, eo32⟩ := Kd.R_slice HO124.out; subst eo32) | (go_at_call 25; (with_reducible refine (octet_Token.calls k (⟨#[120, 45, 121]⟩ : ByteArray) true _ A13.out).mono ?_); rintro e w' ⟨rfl, ⟨nd, rfl⟩⟩) | (go_at_call 25; (with_reducible refine (octet_Token.calls k (⟨#[]⟩ : ByteArray) false _ A15.out).mono ?_); rintro e w' ⟨rfl, ⟨nd, rfl⟩⟩))
                    go_ret
                    exact ⟨by first | rfl | (simp [errW_none, errW_some] <;> rfl) | (simp [*, errW_none, errW_some] <;> rfl) | (simp [q_ne_nil]; done), by repeat (first | (with_reducible first | exact HB.out | apply below_alloc | apply pw_below_drewN | apply below_drew1) | exact HB.out)⟩
                  · replace c25 := Bool.eq_false_iff.mpr c25
                    subst c25
                    have H1 : (some false) = some r := by rw [if_neg (show ¬ (false = true) by decide)] at H; exact H
                    clear H
                    have H := H1
                    clear H1
                    obtain rfl := Option.some.inj H
                    go_enter Tryd.func11, Tryd.ntmps11
                    go_wp2_with (first | ((with_reducible refine gate_callee (f := 23) rfl ?_); refine goesL_ (some 7) rfl rfl Tryd.func23 (by kernel_rfl) rfl #[.string (⟨#[56, 48]⟩ : ByteArray), .int .i64 99] rfl (by (try simp only [List.map_toArray, List.map_cons, List.map_nil]); first | done | rfl | (simp only [List.length_drop, List.length_take]; rfl)) ?_; (with_reducible refine (octet_Number.calls k (⟨#[56, 48]⟩ : ByteArray) 99 t112 false _ A1.out).mono ?_); rintro e w' ⟨rfl, ⟨nd, rfl⟩⟩; refine ⟨_, rfl, ?_⟩) | ((with_reducible refine gate_callee (f := 23) rfl ?_); refine goesL_ (some 11) rfl rfl Tryd.func23 (by kernel_rfl) rfl #[.string (⟨#[48, 56, 48]⟩ : ByteArray), .int .i64 99] rfl (by (try simp only [List.map_toArray, List.map_cons, List.map_nil]); first | done | rfl | (simp only [List.length_drop, List.length_take]; rfl)) ?_; (with_reducible refine (octet_Number.calls k (⟨#[48, 56, 48]⟩ : ByteArray) 99 t114 t115 _ A2.out).mono ?_); rintro e w' ⟨rfl, ⟨nd, rfl⟩⟩; refine ⟨_, rfl, ?_⟩) | ((with_reducible refine gate_callee (f := 19) rfl ?_); refine goesL_ (some 14) rfl rfl Tryd.func19 (by kernel_rfl) rfl #[.string (⟨#[97, 44, 44, 98]⟩ : ByteArray), .int .u8 44] rfl (by (try simp only [List.map_toArray, List.map_cons, List.map_nil]); first | done | rfl | (simp only [List.length_drop, List.length_take]; rfl)) ?_; (with_reducible refine (octet_Split.calls (⟨#[97, 44, 44, 98]⟩ : ByteArray) 44 t116 _ A3.out).mono ?_); rintro e w33 ⟨v117, rfl, ho0, hb⟩; refine ⟨_, rfl, ?_⟩; have n0_ := Aside0.mk (Kd.R_lower ho0 (below_size (by repeat (first | (with_reducible first | exact HB.out | apply below_alloc | apply pw_below_drewN | apply below_drew1) | exact HB.out)))); have n1_ := Aside0.mk (below_step (by repeat (first | (with_reducible first | exact HB.out | apply below_alloc | apply pw_below_drewN | apply below_drew1) | exact HB.out)) hb); clear HB; have HO118 := n0_; have HB := n1_; clear n0_ n1_; (try clear hb); (try clear hb2); (try clear hk); (try clear hi); (try clear ho0)) | ((with_reducible refine gate_callee (f := 12) rfl ?_); refine goesL_ (some 15) rfl rfl Tryd.func12 (by kernel_rfl) rfl #[.string (⟨#[97, 90]⟩ : ByteArray)] rfl (by (try simp only [List.map_toArray, List.map_cons, List.map_nil]); first | done | rfl | (simp only [List.length_drop, List.length_take]; rfl)) ?_; (with_reducible refine (octet_Lower.calls (⟨#[97, 90]⟩ : ByteArray) t119 _ A4.out).mono ?_); rintro e w34 ⟨rfl, hb⟩; refine ⟨_, rfl, ?_⟩; have n0_ := Aside0.mk (Kd.R_below (by (with_reducible repeat (first | apply Kd.R_alloc | apply Kd.R_drewN | apply Kd.R_drew)); exact HO118.out) hb); have n1_ := Aside0.mk (below_step (by repeat (first | (with_reducible first | exact HB.out | apply below_alloc | apply pw_below_drewN | apply below_drew1) | exact HB.out)) hb); clear HO118; clear HB; have HO118 := n0_; have HB := n1_; clear n0_ n1_; (try clear hb); (try clear hb2); (try clear hk); (try clear hi)) | (go_at_call 16; (with_reducible refine (octet_Fold.calls (⟨#[88, 45, 89]⟩ : ByteArray) (⟨#[120, 45, 121]⟩ : ByteArray) true _ A6.out).mono ?_); rintro e w35 ⟨rfl, hb⟩; have n0_ := Aside0.mk (Kd.R_below (by (with_reducible repeat (first | apply Kd.R_alloc | apply Kd.R_drewN | apply Kd.R_drew)); exact HO118.out) hb); have n1_ := Aside0.mk (below_step (by repeat (first | (with_reducible first | exact HB.out | apply below_alloc | apply pw_below_drewN | apply below_drew1) | exact HB.out)) hb); clear HO118; clear HB; have HO118 := n0_; have HB := n1_; clear n0_ n1_; (try clear hb); (try clear hb2); (try clear hk); (try clear hi)) | (go_at_call 14; (with_reducible refine (octet_Trim.calls (⟨#[9, 97, 32, 98, 32]⟩ : ByteArray) t121 _ A8.out).mono ?_); rintro e w36 ⟨rfl, hb⟩; have n0_ := Aside0.mk (Kd.R_below (by (with_reducible repeat (first | apply Kd.R_alloc | apply Kd.R_drewN | apply Kd.R_drew)); exact HO118.out) hb); have n1_ := Aside0.mk (below_step (by repeat (first | (with_reducible first | exact HB.out | apply below_alloc | apply pw_below_drewN | apply below_drew1) | exact HB.out)) hb); clear HO118; clear HB; have HO118 := n0_; have HB := n1_; clear n0_ n1_; (try clear hb); (try clear hb2); (try clear hk); (try clear hi); obtain ⟨Ao37, co37, eo37⟩ := Kd.R_slice HO118.out; subst eo37) | (go_at_call 21; (with_reducible refine (octet_Words.calls (⟨#[32, 97, 32, 32, 98, 32]⟩ : ByteArray) t122 _ A11.out).mono ?_); rintro e w38 ⟨v123, rfl, ho0, hb⟩; have n0_ := Aside0.mk (Kd.R_elder' (by (with_reducible repeat (first | apply Kd.R_alloc | apply Kd.R_drewN | apply Kd.R_drew)); exact HO118.out) (Kd.R_base ho0) hb); have n1_ := Aside0.mk (Kd.R_lower (Kd.R_new' ho0 (Kd.R_lt (by (with_reducible repeat (first | apply Kd.R_alloc | apply Kd.R_drewN | apply Kd.R_drew)); exact HO118.out))) (below_size (by repeat (first | (with_reducible first | exact HB.out | apply below_alloc | apply pw_below_drewN | apply below_drew1) | exact HB.out)))); have n2_ := Aside0.mk (below_step (by repeat (first | (with_reducible first | exact HB.out | apply below_alloc | apply pw_below_drewN | apply below_drew1) | exact HB.out)) hb); clear HO118; clear HB; have HO118 := n0_; have HO124 := n1_; have HB := n2_; clear n0_ n1_ n2_; (try clear hb); (try clear hb2); (try clear hk); (try clear hi); (try clear ho0); obtain ⟨Ao39, co39, eo39⟩ := Kd.R_slice HO124.out; subst eo39) | (go_at_call 25; (with_reducible refine (octet_Token.calls k (⟨#[120, 45, 121]⟩ : ByteArray) true _ A13.out).mono ?_); rintro e w' ⟨rfl, ⟨nd, rfl⟩⟩) | (go_at_call 25; (with_reducible refine (octet_Token.calls k (⟨#[]⟩ : ByteArray) false _ A15.out).mono ?_); rintro e w' ⟨rfl, ⟨nd, rfl⟩⟩))
                    go_ret
                    exact ⟨by first | rfl | (simp [errW_none, errW_some] <;> rfl) | (simp [*, errW_none, errW_some] <;> rfl) | (simp [q_ne_nil]; done), by repeat (first | (with_reducible first | exact HB.out | apply below_alloc | apply pw_below_drewN | apply below_drew1) | exact HB.out)⟩
                · rw [if_neg c24] at H
                  have c24b0 : (t112 == 80) = false := beq_eq_false_iff_ne.mpr c24
                  have c24b1 : (t112 != 80) = true := bne_iff_ne.mpr c24
                  obtain rfl := Option.some.inj H
                  go_enter Tryd.func11, Tryd.ntmps11
                  go_wp2_with (first | ((with_reducible refine gate_callee (f := 23) rfl ?_); refine goesL_ (some 7) rfl rfl Tryd.func23 (by kernel_rfl) rfl #[.string (⟨#[56, 48]⟩ : ByteArray), .int .i64 99] rfl (by (try simp only [List.map_toArray, List.map_cons, List.map_nil]); first | done | rfl | (simp only [List.length_drop, List.length_take]; rfl)) ?_; (with_reducible refine (octet_Number.calls k (⟨#[56, 48]⟩ : ByteArray) 99 t112 t113 _ A1.out).mono ?_); rintro e w' ⟨rfl, ⟨nd, rfl⟩⟩; refine ⟨_, rfl, ?_⟩) | ((with_reducible refine gate_callee (f := 23) rfl ?_); refine goesL_ (some 11) rfl rfl Tryd.func23 (by kernel_rfl) rfl #[.string (⟨#[48, 56, 48]⟩ : ByteArray), .int .i64 99] rfl (by (try simp only [List.map_toArray, List.map_cons, List.map_nil]); first | done | rfl | (simp only [List.length_drop, List.length_take]; rfl)) ?_; (with_reducible refine (octet_Number.calls k (⟨#[48, 56, 48]⟩ : ByteArray) 99 t114 t115 _ A2.out).mono ?_); rintro e w' ⟨rfl, ⟨nd, rfl⟩⟩; refine ⟨_, rfl, ?_⟩) | ((with_reducible refine gate_callee (f := 19) rfl ?_); refine goesL_ (some 14) rfl rfl Tryd.func19 (by kernel_rfl) rfl #[.string (⟨#[97, 44, 44, 98]⟩ : ByteArray), .int .u8 44] rfl (by (try simp only [List.map_toArray, List.map_cons, List.map_nil]); first | done | rfl | (simp only [List.length_drop, List.length_take]; rfl)) ?_; (with_reducible refine (octet_Split.calls (⟨#[97, 44, 44, 98]⟩ : ByteArray) 44 t116 _ A3.out).mono ?_); rintro e w40 ⟨v117, rfl, ho0, hb⟩; refine ⟨_, rfl, ?_⟩; have n0_ := Aside0.mk (Kd.R_lower ho0 (below_size (by repeat (first | (with_reducible first | exact HB.out | apply below_alloc | apply pw_below_drewN | apply below_drew1) | exact HB.out)))); have n1_ := Aside0.mk (below_step (by repeat (first | (with_reducible first | exact HB.out | apply below_alloc | apply pw_below_drewN | apply below_drew1) | exact HB.out)) hb); clear HB; have HO118 := n0_; have HB := n1_; clear n0_ n1_; (try clear hb); (try clear hb2); (try clear hk); (try clear hi); (try clear ho0)) | ((with_reducible refine gate_callee (f := 12) rfl ?_); refine goesL_ (some 15) rfl rfl Tryd.func12 (by kernel_rfl) rfl #[.string (⟨#[97, 90]⟩ : ByteArray)] rfl (by (try simp only [List.map_toArray, List.map_cons, List.map_nil]); first | done | rfl | (simp only [List.length_drop, List.length_take]; rfl)) ?_; (with_reducible refine (octet_Lower.calls (⟨#[97, 90]⟩ : ByteArray) t119 _ A4.out).mono ?_); rintro e w41 ⟨rfl, hb⟩; refine ⟨_, rfl, ?_⟩; have n0_ := Aside0.mk (Kd.R_below (by (with_reducible repeat (first | apply Kd.R_alloc | apply Kd.R_drewN | apply Kd.R_drew)); exact HO118.out) hb); have n1_ := Aside0.mk (below_step (by repeat (first | (with_reducible first | exact HB.out | apply below_alloc | apply pw_below_drewN | apply below_drew1) | exact HB.out)) hb); clear HO118; clear HB; have HO118 := n0_; have HB := n1_; clear n0_ n1_; (try clear hb); (try clear hb2); (try clear hk); (try clear hi)) | (go_at_call 16; (with_reducible refine (octet_Fold.calls (⟨#[88, 45, 89]⟩ : ByteArray) (⟨#[120, 45, 121]⟩ : ByteArray) true _ A6.out).mono ?_); rintro e w42 ⟨rfl, hb⟩; have n0_ := Aside0.mk (Kd.R_below (by (with_reducible repeat (first | apply Kd.R_alloc | apply Kd.R_drewN | apply Kd.R_drew)); exact HO118.out) hb); have n1_ := Aside0.mk (below_step (by repeat (first | (with_reducible first | exact HB.out | apply below_alloc | apply pw_below_drewN | apply below_drew1) | exact HB.out)) hb); clear HO118; clear HB; have HO118 := n0_; have HB := n1_; clear n0_ n1_; (try clear hb); (try clear hb2); (try clear hk); (try clear hi)) | (go_at_call 14; (with_reducible refine (octet_Trim.calls (⟨#[9, 97, 32, 98, 32]⟩ : ByteArray) t121 _ A8.out).mono ?_); rintro e w43 ⟨rfl, hb⟩; have n0_ := Aside0.mk (Kd.R_below (by (with_reducible repeat (first | apply Kd.R_alloc | apply Kd.R_drewN | apply Kd.R_drew)); exact HO118.out) hb); have n1_ := Aside0.mk (below_step (by repeat (first | (with_reducible first | exact HB.out | apply below_alloc | apply pw_below_drewN | apply below_drew1) | exact HB.out)) hb); clear HO118; clear HB; have HO118 := n0_; have HB := n1_; clear n0_ n1_; (try clear hb); (try clear hb2); (try clear hk); (try clear hi); obtain ⟨Ao44, co44, eo44⟩ := Kd.R_slice HO118.out; subst eo44) | (go_at_call 21; (with_reducible refine (octet_Words.calls (⟨#[32, 97, 32, 32, 98, 32]⟩ : ByteArray) t122 _ A11.out).mono ?_); rintro e w45 ⟨v123, rfl, ho0, hb⟩; have n0_ := Aside0.mk (Kd.R_elder' (by (with_reducible repeat (first | apply Kd.R_alloc | apply Kd.R_drewN | apply Kd.R_drew)); exact HO118.out) (Kd.R_base ho0) hb); have n1_ := Aside0.mk (Kd.R_lower (Kd.R_new' ho0 (Kd.R_lt (by (with_reducible repeat (first | apply Kd.R_alloc | apply Kd.R_drewN | apply Kd.R_drew)); exact HO118.out))) (below_size (by repeat (first | (with_reducible first | exact HB.out | apply below_alloc | apply pw_below_drewN | apply below_drew1) | exact HB.out)))); have n2_ := Aside0.mk (below_step (by repeat (first | (with_reducible first | exact HB.out | apply below_alloc | apply pw_below_drewN | apply below_drew1) | exact HB.out)) hb); clear HO118; clear HB; have HO118 := n0_; have HO124 := n1_; have HB := n2_; clear n0_ n1_ n2_; (try clear hb); (try clear hb2); (try clear hk); (try clear hi); (try clear ho0); obtain ⟨Ao46, co46, eo46⟩ := Kd.R_slice HO124.out; subst eo46) | (go_at_call 25; (with_reducible refine (octet_Token.calls k (⟨#[120, 45, 121]⟩ : ByteArray) true _ A13.out).mono ?_); rintro e w' ⟨rfl, ⟨nd, rfl⟩⟩) | (go_at_call 25; (with_reducible refine (octet_Token.calls k (⟨#[]⟩ : ByteArray) false _ A15.out).mono ?_); rintro e w' ⟨rfl, ⟨nd, rfl⟩⟩))
                  go_ret
                  exact ⟨by first | rfl | (simp [errW_none, errW_some] <;> rfl) | (simp [*, errW_none, errW_some] <;> rfl) | (simp [q_ne_nil]; done), by repeat (first | (with_reducible first | exact HB.out | apply below_alloc | apply pw_below_drewN | apply below_drew1) | exact HB.out)⟩
            · replace c14 := Bool.eq_false_iff.mpr c14
              subst c14
              have H1 : (some false) = some r := by rw [if_neg (show ¬ (false = true) by decide)] at H; exact H
              clear H
              have H := H1
              clear H1
              obtain rfl := Option.some.inj H
              go_enter Tryd.func11, Tryd.ntmps11
              go_wp2_with (first | ((with_reducible refine gate_callee (f := 23) rfl ?_); refine goesL_ (some 7) rfl rfl Tryd.func23 (by kernel_rfl) rfl #[.string (⟨#[56, 48]⟩ : ByteArray), .int .i64 99] rfl (by (try simp only [List.map_toArray, List.map_cons, List.map_nil]); first | done | rfl | (simp only [List.length_drop, List.length_take]; rfl)) ?_; (with_reducible refine (octet_Number.calls k (⟨#[56, 48]⟩ : ByteArray) 99 t112 t113 _ A1.out).mono ?_); rintro e w' ⟨rfl, ⟨nd, rfl⟩⟩; refine ⟨_, rfl, ?_⟩) | ((with_reducible refine gate_callee (f := 23) rfl ?_); refine goesL_ (some 11) rfl rfl Tryd.func23 (by kernel_rfl) rfl #[.string (⟨#[48, 56, 48]⟩ : ByteArray), .int .i64 99] rfl (by (try simp only [List.map_toArray, List.map_cons, List.map_nil]); first | done | rfl | (simp only [List.length_drop, List.length_take]; rfl)) ?_; (with_reducible refine (octet_Number.calls k (⟨#[48, 56, 48]⟩ : ByteArray) 99 t114 t115 _ A2.out).mono ?_); rintro e w' ⟨rfl, ⟨nd, rfl⟩⟩; refine ⟨_, rfl, ?_⟩) | ((with_reducible refine gate_callee (f := 19) rfl ?_); refine goesL_ (some 14) rfl rfl Tryd.func19 (by kernel_rfl) rfl #[.string (⟨#[97, 44, 44, 98]⟩ : ByteArray), .int .u8 44] rfl (by (try simp only [List.map_toArray, List.map_cons, List.map_nil]); first | done | rfl | (simp only [List.length_drop, List.length_take]; rfl)) ?_; (with_reducible refine (octet_Split.calls (⟨#[97, 44, 44, 98]⟩ : ByteArray) 44 t116 _ A3.out).mono ?_); rintro e w47 ⟨v117, rfl, ho0, hb⟩; refine ⟨_, rfl, ?_⟩; have n0_ := Aside0.mk (Kd.R_lower ho0 (below_size (by repeat (first | (with_reducible first | exact HB.out | apply below_alloc | apply pw_below_drewN | apply below_drew1) | exact HB.out)))); have n1_ := Aside0.mk (below_step (by repeat (first | (with_reducible first | exact HB.out | apply below_alloc | apply pw_below_drewN | apply below_drew1) | exact HB.out)) hb); clear HB; have HO118 := n0_; have HB := n1_; clear n0_ n1_; (try clear hb); (try clear hb2); (try clear hk); (try clear hi); (try clear ho0)) | ((with_reducible refine gate_callee (f := 12) rfl ?_); refine goesL_ (some 15) rfl rfl Tryd.func12 (by kernel_rfl) rfl #[.string (⟨#[97, 90]⟩ : ByteArray)] rfl (by (try simp only [List.map_toArray, List.map_cons, List.map_nil]); first | done | rfl | (simp only [List.length_drop, List.length_take]; rfl)) ?_; (with_reducible refine (octet_Lower.calls (⟨#[97, 90]⟩ : ByteArray) t119 _ A4.out).mono ?_); rintro e w48 ⟨rfl, hb⟩; refine ⟨_, rfl, ?_⟩; have n0_ := Aside0.mk (Kd.R_below (by (with_reducible repeat (first | apply Kd.R_alloc | apply Kd.R_drewN | apply Kd.R_drew)); exact HO118.out) hb); have n1_ := Aside0.mk (below_step (by repeat (first | (with_reducible first | exact HB.out | apply below_alloc | apply pw_below_drewN | apply below_drew1) | exact HB.out)) hb); clear HO118; clear HB; have HO118 := n0_; have HB := n1_; clear n0_ n1_; (try clear hb); (try clear hb2); (try clear hk); (try clear hi)) | (go_at_call 16; (with_reducible refine (octet_Fold.calls (⟨#[88, 45, 89]⟩ : ByteArray) (⟨#[120, 45, 121]⟩ : ByteArray) true _ A6.out).mono ?_); rintro e w49 ⟨rfl, hb⟩; have n0_ := Aside0.mk (Kd.R_below (by (with_reducible repeat (first | apply Kd.R_alloc | apply Kd.R_drewN | apply Kd.R_drew)); exact HO118.out) hb); have n1_ := Aside0.mk (below_step (by repeat (first | (with_reducible first | exact HB.out | apply below_alloc | apply pw_below_drewN | apply below_drew1) | exact HB.out)) hb); clear HO118; clear HB; have HO118 := n0_; have HB := n1_; clear n0_ n1_; (try clear hb); (try clear hb2); (try clear hk); (try clear hi)) | (go_at_call 14; (with_reducible refine (octet_Trim.calls (⟨#[9, 97, 32, 98, 32]⟩ : ByteArray) t121 _ A8.out).mono ?_); rintro e w50 ⟨rfl, hb⟩; have n0_ := Aside0.mk (Kd.R_below (by (with_reducible repeat (first | apply Kd.R_alloc | apply Kd.R_drewN | apply Kd.R_drew)); exact HO118.out) hb); have n1_ := Aside0.mk (below_step (by repeat (first | (with_reducible first | exact HB.out | apply below_alloc | apply pw_below_drewN | apply below_drew1) | exact HB.out)) hb); clear HO118; clear HB; have HO118 := n0_; have HB := n1_; clear n0_ n1_; (try clear hb); (try clear hb2); (try clear hk); (try clear hi); obtain ⟨Ao51, co51, eo51⟩ := Kd.R_slice HO118.out; subst eo51) | (go_at_call 21; (with_reducible refine (octet_Words.calls (⟨#[32, 97, 32, 32, 98, 32]⟩ : ByteArray) t122 _ A11.out).mono ?_); rintro e w52 ⟨v123, rfl, ho0, hb⟩; have n0_ := Aside0.mk (Kd.R_elder' (by (with_reducible repeat (first | apply Kd.R_alloc | apply Kd.R_drewN | apply Kd.R_drew)); exact HO118.out) (Kd.R_base ho0) hb); have n1_ := Aside0.mk (Kd.R_lower (Kd.R_new' ho0 (Kd.R_lt (by (with_reducible repeat (first | apply Kd.R_alloc | apply Kd.R_drewN | apply Kd.R_drew)); exact HO118.out))) (below_size (by repeat (first | (with_reducible first | exact HB.out | apply below_alloc | apply pw_below_drewN | apply below_drew1) | exact HB.out)))); have n2_ := Aside0.mk (below_step (by repeat (first | (with_reducible first | exact HB.out | apply below_alloc | apply pw_below_drewN | apply below_drew1) | exact HB.out)) hb); clear HO118; clear HB; have HO118 := n0_; have HO124 := n1_; have HB := n2_; clear n0_ n1_ n2_; (try clear hb); (try clear hb2); (try clear hk); (try clear hi); (try clear ho0); obtain ⟨Ao53, co53, eo53⟩ := Kd.R_slice HO124.out; subst eo53) | (go_at_call 25; (with_reducible refine (octet_Token.calls k (⟨#[120, 45, 121]⟩ : ByteArray) false _ A13.out).mono ?_); rintro e w' ⟨rfl, ⟨nd, rfl⟩⟩))
              go_ret
              exact ⟨by first | rfl | (simp [errW_none, errW_some] <;> rfl) | (simp [*, errW_none, errW_some] <;> rfl) | (simp [q_ne_nil]; done), by repeat (first | (with_reducible first | exact HB.out | apply below_alloc | apply pw_below_drewN | apply below_drew1) | exact HB.out)⟩
          · rw [if_neg c12] at H
            have c12b0 : ((t122.length : Int) == 2) = false := beq_eq_false_iff_ne.mpr c12
            have c12b1 : ((t122.length : Int) != 2) = true := bne_iff_ne.mpr c12
            obtain rfl := Option.some.inj H
            go_enter Tryd.func11, Tryd.ntmps11
            go_wp2_with (first | ((with_reducible refine gate_callee (f := 23) rfl ?_); refine goesL_ (some 7) rfl rfl Tryd.func23 (by kernel_rfl) rfl #[.string (⟨#[56, 48]⟩ : ByteArray), .int .i64 99] rfl (by (try simp only [List.map_toArray, List.map_cons, List.map_nil]); first | done | rfl | (simp only [List.length_drop, List.length_take]; rfl)) ?_; (with_reducible refine (octet_Number.calls k (⟨#[56, 48]⟩ : ByteArray) 99 t112 t113 _ A1.out).mono ?_); rintro e w' ⟨rfl, ⟨nd, rfl⟩⟩; refine ⟨_, rfl, ?_⟩) | ((with_reducible refine gate_callee (f := 23) rfl ?_); refine goesL_ (some 11) rfl rfl Tryd.func23 (by kernel_rfl) rfl #[.string (⟨#[48, 56, 48]⟩ : ByteArray), .int .i64 99] rfl (by (try simp only [List.map_toArray, List.map_cons, List.map_nil]); first | done | rfl | (simp only [List.length_drop, List.length_take]; rfl)) ?_; (with_reducible refine (octet_Number.calls k (⟨#[48, 56, 48]⟩ : ByteArray) 99 t114 t115 _ A2.out).mono ?_); rintro e w' ⟨rfl, ⟨nd, rfl⟩⟩; refine ⟨_, rfl, ?_⟩) | ((with_reducible refine gate_callee (f := 19) rfl ?_); refine goesL_ (some 14) rfl rfl Tryd.func19 (by kernel_rfl) rfl #[.string (⟨#[97, 44, 44, 98]⟩ : ByteArray), .int .u8 44] rfl (by (try simp only [List.map_toArray, List.map_cons, List.map_nil]); first | done | rfl | (simp only [List.length_drop, List.length_take]; rfl)) ?_; (with_reducible refine (octet_Split.calls (⟨#[97, 44, 44, 98]⟩ : ByteArray) 44 t116 _ A3.out).mono ?_); rintro e w54 ⟨v117, rfl, ho0, hb⟩; refine ⟨_, rfl, ?_⟩; have n0_ := Aside0.mk (Kd.R_lower ho0 (below_size (by repeat (first | (with_reducible first | exact HB.out | apply below_alloc | apply pw_below_drewN | apply below_drew1) | exact HB.out)))); have n1_ := Aside0.mk (below_step (by repeat (first | (with_reducible first | exact HB.out | apply below_alloc | apply pw_below_drewN | apply below_drew1) | exact HB.out)) hb); clear HB; have HO118 := n0_; have HB := n1_; clear n0_ n1_; (try clear hb); (try clear hb2); (try clear hk); (try clear hi); (try clear ho0)) | ((with_reducible refine gate_callee (f := 12) rfl ?_); refine goesL_ (some 15) rfl rfl Tryd.func12 (by kernel_rfl) rfl #[.string (⟨#[97, 90]⟩ : ByteArray)] rfl (by (try simp only [List.map_toArray, List.map_cons, List.map_nil]); first | done | rfl | (simp only [List.length_drop, List.length_take]; rfl)) ?_; (with_reducible refine (octet_Lower.calls (⟨#[97, 90]⟩ : ByteArray) t119 _ A4.out).mono ?_); rintro e w55 ⟨rfl, hb⟩; refine ⟨_, rfl, ?_⟩; have n0_ := Aside0.mk (Kd.R_below (by (with_reducible repeat (first | apply Kd.R_alloc | apply Kd.R_drewN | apply Kd.R_drew)); exact HO118.out) hb); have n1_ := Aside0.mk (below_step (by repeat (first | (with_reducible first | exact HB.out | apply below_alloc | apply pw_below_drewN | apply below_drew1) | exact HB.out)) hb); clear HO118; clear HB; have HO118 := n0_; have HB := n1_; clear n0_ n1_; (try clear hb); (try clear hb2); (try clear hk); (try clear hi)) | (go_at_call 16; (with_reducible refine (octet_Fold.calls (⟨#[88, 45, 89]⟩ : ByteArray) (⟨#[120, 45, 121]⟩ : ByteArray) true _ A6.out).mono ?_); rintro e w56 ⟨rfl, hb⟩; have n0_ := Aside0.mk (Kd.R_below (by (with_reducible repeat (first | apply Kd.R_alloc | apply Kd.R_drewN | apply Kd.R_drew)); exact HO118.out) hb); have n1_ := Aside0.mk (below_step (by repeat (first | (with_reducible first | exact HB.out | apply below_alloc | apply pw_below_drewN | apply below_drew1) | exact HB.out)) hb); clear HO118; clear HB; have HO118 := n0_; have HB := n1_; clear n0_ n1_; (try clear hb); (try clear hb2); (try clear hk); (try clear hi)) | (go_at_call 14; (with_reducible refine (octet_Trim.calls (⟨#[9, 97, 32, 98, 32]⟩ : ByteArray) t121 _ A8.out).mono ?_); rintro e w57 ⟨rfl, hb⟩; have n0_ := Aside0.mk (Kd.R_below (by (with_reducible repeat (first | apply Kd.R_alloc | apply Kd.R_drewN | apply Kd.R_drew)); exact HO118.out) hb); have n1_ := Aside0.mk (below_step (by repeat (first | (with_reducible first | exact HB.out | apply below_alloc | apply pw_below_drewN | apply below_drew1) | exact HB.out)) hb); clear HO118; clear HB; have HO118 := n0_; have HB := n1_; clear n0_ n1_; (try clear hb); (try clear hb2); (try clear hk); (try clear hi); obtain ⟨Ao58, co58, eo58⟩ := Kd.R_slice HO118.out; subst eo58) | (go_at_call 21; (with_reducible refine (octet_Words.calls (⟨#[32, 97, 32, 32, 98, 32]⟩ : ByteArray) t122 _ A11.out).mono ?_); rintro e w59 ⟨v123, rfl, ho0, hb⟩; have n0_ := Aside0.mk (Kd.R_elder' (by (with_reducible repeat (first | apply Kd.R_alloc | apply Kd.R_drewN | apply Kd.R_drew)); exact HO118.out) (Kd.R_base ho0) hb); have n1_ := Aside0.mk (Kd.R_lower (Kd.R_new' ho0 (Kd.R_lt (by (with_reducible repeat (first | apply Kd.R_alloc | apply Kd.R_drewN | apply Kd.R_drew)); exact HO118.out))) (below_size (by repeat (first | (with_reducible first | exact HB.out | apply below_alloc | apply pw_below_drewN | apply below_drew1) | exact HB.out)))); have n2_ := Aside0.mk (below_step (by repeat (first | (with_reducible first | exact HB.out | apply below_alloc | apply pw_below_drewN | apply below_drew1) | exact HB.out)) hb); clear HO118; clear HB; have HO118 := n0_; have HO124 := n1_; have HB := n2_; clear n0_ n1_ n2_; (try clear hb); (try clear hb2); (try clear hk); (try clear hi); (try clear ho0); obtain ⟨Ao60, co60, eo60⟩ := Kd.R_slice HO124.out; subst eo60))
            go_ret
            exact ⟨by first | rfl | (simp [errW_none, errW_some] <;> rfl) | (simp [*, errW_none, errW_some] <;> rfl) | (simp [q_ne_nil]; done), by repeat (first | (with_reducible first | exact HB.out | apply below_alloc | apply pw_below_drewN | apply below_drew1) | exact HB.out)⟩
        · rw [if_neg c10] at H
          have c10b0 : ((t116.length : Int) == 3) = false := beq_eq_false_iff_ne.mpr c10
          have c10b1 : ((t116.length : Int) != 3) = true := bne_iff_ne.mpr c10
          obtain rfl := Option.some.inj H
          go_enter Tryd.func11, Tryd.ntmps11
          go_wp2_with (first | ((with_reducible refine gate_callee (f := 23) rfl ?_); refine goesL_ (some 7) rfl rfl Tryd.func23 (by kernel_rfl) rfl #[.string (⟨#[56, 48]⟩ : ByteArray), .int .i64 99] rfl (by (try simp only [List.map_toArray, List.map_cons, List.map_nil]); first | done | rfl | (simp only [List.length_drop, List.length_take]; rfl)) ?_; (with_reducible refine (octet_Number.calls k (⟨#[56, 48]⟩ : ByteArray) 99 t112 t113 _ A1.out).mono ?_); rintro e w' ⟨rfl, ⟨nd, rfl⟩⟩; refine ⟨_, rfl, ?_⟩) | ((with_reducible refine gate_callee (f := 23) rfl ?_); refine goesL_ (some 11) rfl rfl Tryd.func23 (by kernel_rfl) rfl #[.string (⟨#[48, 56, 48]⟩ : ByteArray), .int .i64 99] rfl (by (try simp only [List.map_toArray, List.map_cons, List.map_nil]); first | done | rfl | (simp only [List.length_drop, List.length_take]; rfl)) ?_; (with_reducible refine (octet_Number.calls k (⟨#[48, 56, 48]⟩ : ByteArray) 99 t114 t115 _ A2.out).mono ?_); rintro e w' ⟨rfl, ⟨nd, rfl⟩⟩; refine ⟨_, rfl, ?_⟩) | ((with_reducible refine gate_callee (f := 19) rfl ?_); refine goesL_ (some 14) rfl rfl Tryd.func19 (by kernel_rfl) rfl #[.string (⟨#[97, 44, 44, 98]⟩ : ByteArray), .int .u8 44] rfl (by (try simp only [List.map_toArray, List.map_cons, List.map_nil]); first | done | rfl | (simp only [List.length_drop, List.length_take]; rfl)) ?_; (with_reducible refine (octet_Split.calls (⟨#[97, 44, 44, 98]⟩ : ByteArray) 44 t116 _ A3.out).mono ?_); rintro e w61 ⟨v117, rfl, ho0, hb⟩; refine ⟨_, rfl, ?_⟩; have n0_ := Aside0.mk (Kd.R_lower ho0 (below_size (by repeat (first | (with_reducible first | exact HB.out | apply below_alloc | apply pw_below_drewN | apply below_drew1) | exact HB.out)))); have n1_ := Aside0.mk (below_step (by repeat (first | (with_reducible first | exact HB.out | apply below_alloc | apply pw_below_drewN | apply below_drew1) | exact HB.out)) hb); clear HB; have HO118 := n0_; have HB := n1_; clear n0_ n1_; (try clear hb); (try clear hb2); (try clear hk); (try clear hi); (try clear ho0)) | ((with_reducible refine gate_callee (f := 12) rfl ?_); refine goesL_ (some 15) rfl rfl Tryd.func12 (by kernel_rfl) rfl #[.string (⟨#[97, 90]⟩ : ByteArray)] rfl (by (try simp only [List.map_toArray, List.map_cons, List.map_nil]); first | done | rfl | (simp only [List.length_drop, List.length_take]; rfl)) ?_; (with_reducible refine (octet_Lower.calls (⟨#[97, 90]⟩ : ByteArray) t119 _ A4.out).mono ?_); rintro e w62 ⟨rfl, hb⟩; refine ⟨_, rfl, ?_⟩; have n0_ := Aside0.mk (Kd.R_below (by (with_reducible repeat (first | apply Kd.R_alloc | apply Kd.R_drewN | apply Kd.R_drew)); exact HO118.out) hb); have n1_ := Aside0.mk (below_step (by repeat (first | (with_reducible first | exact HB.out | apply below_alloc | apply pw_below_drewN | apply below_drew1) | exact HB.out)) hb); clear HO118; clear HB; have HO118 := n0_; have HB := n1_; clear n0_ n1_; (try clear hb); (try clear hb2); (try clear hk); (try clear hi)) | (go_at_call 16; (with_reducible refine (octet_Fold.calls (⟨#[88, 45, 89]⟩ : ByteArray) (⟨#[120, 45, 121]⟩ : ByteArray) true _ A6.out).mono ?_); rintro e w63 ⟨rfl, hb⟩; have n0_ := Aside0.mk (Kd.R_below (by (with_reducible repeat (first | apply Kd.R_alloc | apply Kd.R_drewN | apply Kd.R_drew)); exact HO118.out) hb); have n1_ := Aside0.mk (below_step (by repeat (first | (with_reducible first | exact HB.out | apply below_alloc | apply pw_below_drewN | apply below_drew1) | exact HB.out)) hb); clear HO118; clear HB; have HO118 := n0_; have HB := n1_; clear n0_ n1_; (try clear hb); (try clear hb2); (try clear hk); (try clear hi)) | (go_at_call 14; (with_reducible refine (octet_Trim.calls (⟨#[9, 97, 32, 98, 32]⟩ : ByteArray) t121 _ A8.out).mono ?_); rintro e w64 ⟨rfl, hb⟩; have n0_ := Aside0.mk (Kd.R_below (by (with_reducible repeat (first | apply Kd.R_alloc | apply Kd.R_drewN | apply Kd.R_drew)); exact HO118.out) hb); have n1_ := Aside0.mk (below_step (by repeat (first | (with_reducible first | exact HB.out | apply below_alloc | apply pw_below_drewN | apply below_drew1) | exact HB.out)) hb); clear HO118; clear HB; have HO118 := n0_; have HB := n1_; clear n0_ n1_; (try clear hb); (try clear hb2); (try clear hk); (try clear hi); obtain ⟨Ao65, co65, eo65⟩ := Kd.R_slice HO118.out; subst eo65))
          go_ret
          exact ⟨by first | rfl | (simp [errW_none, errW_some] <;> rfl) | (simp [*, errW_none, errW_some] <;> rfl) | (simp [q_ne_nil]; done), by repeat (first | (with_reducible first | exact HB.out | apply below_alloc | apply pw_below_drewN | apply below_drew1) | exact HB.out)⟩
      · rw [if_neg c9] at H
        have c9b0 : (t121.toList == ([97, 32, 98] : List UInt8)) = false := beq_eq_false_iff_ne.mpr c9
        have c9b1 : (t121.toList != ([97, 32, 98] : List UInt8)) = true := bne_iff_ne.mpr c9
        obtain rfl := Option.some.inj H
        go_enter Tryd.func11, Tryd.ntmps11
        go_wp2_with (first | ((with_reducible refine gate_callee (f := 23) rfl ?_); refine goesL_ (some 7) rfl rfl Tryd.func23 (by kernel_rfl) rfl #[.string (⟨#[56, 48]⟩ : ByteArray), .int .i64 99] rfl (by (try simp only [List.map_toArray, List.map_cons, List.map_nil]); first | done | rfl | (simp only [List.length_drop, List.length_take]; rfl)) ?_; (with_reducible refine (octet_Number.calls k (⟨#[56, 48]⟩ : ByteArray) 99 t112 t113 _ A1.out).mono ?_); rintro e w' ⟨rfl, ⟨nd, rfl⟩⟩; refine ⟨_, rfl, ?_⟩) | ((with_reducible refine gate_callee (f := 23) rfl ?_); refine goesL_ (some 11) rfl rfl Tryd.func23 (by kernel_rfl) rfl #[.string (⟨#[48, 56, 48]⟩ : ByteArray), .int .i64 99] rfl (by (try simp only [List.map_toArray, List.map_cons, List.map_nil]); first | done | rfl | (simp only [List.length_drop, List.length_take]; rfl)) ?_; (with_reducible refine (octet_Number.calls k (⟨#[48, 56, 48]⟩ : ByteArray) 99 t114 t115 _ A2.out).mono ?_); rintro e w' ⟨rfl, ⟨nd, rfl⟩⟩; refine ⟨_, rfl, ?_⟩) | ((with_reducible refine gate_callee (f := 19) rfl ?_); refine goesL_ (some 14) rfl rfl Tryd.func19 (by kernel_rfl) rfl #[.string (⟨#[97, 44, 44, 98]⟩ : ByteArray), .int .u8 44] rfl (by (try simp only [List.map_toArray, List.map_cons, List.map_nil]); first | done | rfl | (simp only [List.length_drop, List.length_take]; rfl)) ?_; (with_reducible refine (octet_Split.calls (⟨#[97, 44, 44, 98]⟩ : ByteArray) 44 t116 _ A3.out).mono ?_); rintro e w66 ⟨v117, rfl, ho0, hb⟩; refine ⟨_, rfl, ?_⟩; have n0_ := Aside0.mk (Kd.R_lower ho0 (below_size (by repeat (first | (with_reducible first | exact HB.out | apply below_alloc | apply pw_below_drewN | apply below_drew1) | exact HB.out)))); have n1_ := Aside0.mk (below_step (by repeat (first | (with_reducible first | exact HB.out | apply below_alloc | apply pw_below_drewN | apply below_drew1) | exact HB.out)) hb); clear HB; have HO118 := n0_; have HB := n1_; clear n0_ n1_; (try clear hb); (try clear hb2); (try clear hk); (try clear hi); (try clear ho0)) | ((with_reducible refine gate_callee (f := 12) rfl ?_); refine goesL_ (some 15) rfl rfl Tryd.func12 (by kernel_rfl) rfl #[.string (⟨#[97, 90]⟩ : ByteArray)] rfl (by (try simp only [List.map_toArray, List.map_cons, List.map_nil]); first | done | rfl | (simp only [List.length_drop, List.length_take]; rfl)) ?_; (with_reducible refine (octet_Lower.calls (⟨#[97, 90]⟩ : ByteArray) t119 _ A4.out).mono ?_); rintro e w67 ⟨rfl, hb⟩; refine ⟨_, rfl, ?_⟩; have n0_ := Aside0.mk (Kd.R_below (by (with_reducible repeat (first | apply Kd.R_alloc | apply Kd.R_drewN | apply Kd.R_drew)); exact HO118.out) hb); have n1_ := Aside0.mk (below_step (by repeat (first | (with_reducible first | exact HB.out | apply below_alloc | apply pw_below_drewN | apply below_drew1) | exact HB.out)) hb); clear HO118; clear HB; have HO118 := n0_; have HB := n1_; clear n0_ n1_; (try clear hb); (try clear hb2); (try clear hk); (try clear hi)) | (go_at_call 16; (with_reducible refine (octet_Fold.calls (⟨#[88, 45, 89]⟩ : ByteArray) (⟨#[120, 45, 121]⟩ : ByteArray) true _ A6.out).mono ?_); rintro e w68 ⟨rfl, hb⟩; have n0_ := Aside0.mk (Kd.R_below (by (with_reducible repeat (first | apply Kd.R_alloc | apply Kd.R_drewN | apply Kd.R_drew)); exact HO118.out) hb); have n1_ := Aside0.mk (below_step (by repeat (first | (with_reducible first | exact HB.out | apply below_alloc | apply pw_below_drewN | apply below_drew1) | exact HB.out)) hb); clear HO118; clear HB; have HO118 := n0_; have HB := n1_; clear n0_ n1_; (try clear hb); (try clear hb2); (try clear hk); (try clear hi)) | (go_at_call 14; (with_reducible refine (octet_Trim.calls (⟨#[9, 97, 32, 98, 32]⟩ : ByteArray) t121 _ A8.out).mono ?_); rintro e w69 ⟨rfl, hb⟩; have n0_ := Aside0.mk (Kd.R_below (by (with_reducible repeat (first | apply Kd.R_alloc | apply Kd.R_drewN | apply Kd.R_drew)); exact HO118.out) hb); have n1_ := Aside0.mk (below_step (by repeat (first | (with_reducible first | exact HB.out | apply below_alloc | apply pw_below_drewN | apply below_drew1) | exact HB.out)) hb); clear HO118; clear HB; have HO118 := n0_; have HB := n1_; clear n0_ n1_; (try clear hb); (try clear hb2); (try clear hk); (try clear hi)))
        go_ret
        exact ⟨by first | rfl | (simp [errW_none, errW_some] <;> rfl) | (simp [*, errW_none, errW_some] <;> rfl) | (simp [q_ne_nil]; done), by repeat (first | (with_reducible first | exact HB.out | apply below_alloc | apply pw_below_drewN | apply below_drew1) | exact HB.out)⟩
    · replace c7 := Bool.eq_false_iff.mpr c7
      subst c7
      have H1 : (some false) = some r := by rw [if_neg (show ¬ (false = true) by decide)] at H; exact H
      clear H
      have H := H1
      clear H1
      obtain rfl := Option.some.inj H
      go_enter Tryd.func11, Tryd.ntmps11
      go_wp2_with (first | ((with_reducible refine gate_callee (f := 23) rfl ?_); refine goesL_ (some 7) rfl rfl Tryd.func23 (by kernel_rfl) rfl #[.string (⟨#[56, 48]⟩ : ByteArray), .int .i64 99] rfl (by (try simp only [List.map_toArray, List.map_cons, List.map_nil]); first | done | rfl | (simp only [List.length_drop, List.length_take]; rfl)) ?_; (with_reducible refine (octet_Number.calls k (⟨#[56, 48]⟩ : ByteArray) 99 t112 t113 _ A1.out).mono ?_); rintro e w' ⟨rfl, ⟨nd, rfl⟩⟩; refine ⟨_, rfl, ?_⟩) | ((with_reducible refine gate_callee (f := 23) rfl ?_); refine goesL_ (some 11) rfl rfl Tryd.func23 (by kernel_rfl) rfl #[.string (⟨#[48, 56, 48]⟩ : ByteArray), .int .i64 99] rfl (by (try simp only [List.map_toArray, List.map_cons, List.map_nil]); first | done | rfl | (simp only [List.length_drop, List.length_take]; rfl)) ?_; (with_reducible refine (octet_Number.calls k (⟨#[48, 56, 48]⟩ : ByteArray) 99 t114 t115 _ A2.out).mono ?_); rintro e w' ⟨rfl, ⟨nd, rfl⟩⟩; refine ⟨_, rfl, ?_⟩) | ((with_reducible refine gate_callee (f := 19) rfl ?_); refine goesL_ (some 14) rfl rfl Tryd.func19 (by kernel_rfl) rfl #[.string (⟨#[97, 44, 44, 98]⟩ : ByteArray), .int .u8 44] rfl (by (try simp only [List.map_toArray, List.map_cons, List.map_nil]); first | done | rfl | (simp only [List.length_drop, List.length_take]; rfl)) ?_; (with_reducible refine (octet_Split.calls (⟨#[97, 44, 44, 98]⟩ : ByteArray) 44 t116 _ A3.out).mono ?_); rintro e w70 ⟨v117, rfl, ho0, hb⟩; refine ⟨_, rfl, ?_⟩; have n0_ := Aside0.mk (Kd.R_lower ho0 (below_size (by repeat (first | (with_reducible first | exact HB.out | apply below_alloc | apply pw_below_drewN | apply below_drew1) | exact HB.out)))); have n1_ := Aside0.mk (below_step (by repeat (first | (with_reducible first | exact HB.out | apply below_alloc | apply pw_below_drewN | apply below_drew1) | exact HB.out)) hb); clear HB; have HO118 := n0_; have HB := n1_; clear n0_ n1_; (try clear hb); (try clear hb2); (try clear hk); (try clear hi); (try clear ho0)) | ((with_reducible refine gate_callee (f := 12) rfl ?_); refine goesL_ (some 15) rfl rfl Tryd.func12 (by kernel_rfl) rfl #[.string (⟨#[97, 90]⟩ : ByteArray)] rfl (by (try simp only [List.map_toArray, List.map_cons, List.map_nil]); first | done | rfl | (simp only [List.length_drop, List.length_take]; rfl)) ?_; (with_reducible refine (octet_Lower.calls (⟨#[97, 90]⟩ : ByteArray) t119 _ A4.out).mono ?_); rintro e w71 ⟨rfl, hb⟩; refine ⟨_, rfl, ?_⟩; have n0_ := Aside0.mk (Kd.R_below (by (with_reducible repeat (first | apply Kd.R_alloc | apply Kd.R_drewN | apply Kd.R_drew)); exact HO118.out) hb); have n1_ := Aside0.mk (below_step (by repeat (first | (with_reducible first | exact HB.out | apply below_alloc | apply pw_below_drewN | apply below_drew1) | exact HB.out)) hb); clear HO118; clear HB; have HO118 := n0_; have HB := n1_; clear n0_ n1_; (try clear hb); (try clear hb2); (try clear hk); (try clear hi)) | (go_at_call 16; (with_reducible refine (octet_Fold.calls (⟨#[88, 45, 89]⟩ : ByteArray) (⟨#[120, 45, 121]⟩ : ByteArray) false _ A6.out).mono ?_); rintro e w72 ⟨rfl, hb⟩; have n0_ := Aside0.mk (Kd.R_below (by (with_reducible repeat (first | apply Kd.R_alloc | apply Kd.R_drewN | apply Kd.R_drew)); exact HO118.out) hb); have n1_ := Aside0.mk (below_step (by repeat (first | (with_reducible first | exact HB.out | apply below_alloc | apply pw_below_drewN | apply below_drew1) | exact HB.out)) hb); clear HO118; clear HB; have HO118 := n0_; have HB := n1_; clear n0_ n1_; (try clear hb); (try clear hb2); (try clear hk); (try clear hi)))
      go_ret
      exact ⟨by first | rfl | (simp [errW_none, errW_some] <;> rfl) | (simp [*, errW_none, errW_some] <;> rfl) | (simp [q_ne_nil]; done), by repeat (first | (with_reducible first | exact HB.out | apply below_alloc | apply pw_below_drewN | apply below_drew1) | exact HB.out)⟩
  · rw [if_neg c5] at H
    have c5b0 : (t119.toList == ([97, 122] : List UInt8)) = false := beq_eq_false_iff_ne.mpr c5
    have c5b1 : (t119.toList != ([97, 122] : List UInt8)) = true := bne_iff_ne.mpr c5
    obtain rfl := Option.some.inj H
    go_enter Tryd.func11, Tryd.ntmps11
    go_wp2_with (first | ((with_reducible refine gate_callee (f := 23) rfl ?_); refine goesL_ (some 7) rfl rfl Tryd.func23 (by kernel_rfl) rfl #[.string (⟨#[56, 48]⟩ : ByteArray), .int .i64 99] rfl (by (try simp only [List.map_toArray, List.map_cons, List.map_nil]); first | done | rfl | (simp only [List.length_drop, List.length_take]; rfl)) ?_; (with_reducible refine (octet_Number.calls k (⟨#[56, 48]⟩ : ByteArray) 99 t112 t113 _ A1.out).mono ?_); rintro e w' ⟨rfl, ⟨nd, rfl⟩⟩; refine ⟨_, rfl, ?_⟩) | ((with_reducible refine gate_callee (f := 23) rfl ?_); refine goesL_ (some 11) rfl rfl Tryd.func23 (by kernel_rfl) rfl #[.string (⟨#[48, 56, 48]⟩ : ByteArray), .int .i64 99] rfl (by (try simp only [List.map_toArray, List.map_cons, List.map_nil]); first | done | rfl | (simp only [List.length_drop, List.length_take]; rfl)) ?_; (with_reducible refine (octet_Number.calls k (⟨#[48, 56, 48]⟩ : ByteArray) 99 t114 t115 _ A2.out).mono ?_); rintro e w' ⟨rfl, ⟨nd, rfl⟩⟩; refine ⟨_, rfl, ?_⟩) | ((with_reducible refine gate_callee (f := 19) rfl ?_); refine goesL_ (some 14) rfl rfl Tryd.func19 (by kernel_rfl) rfl #[.string (⟨#[97, 44, 44, 98]⟩ : ByteArray), .int .u8 44] rfl (by (try simp only [List.map_toArray, List.map_cons, List.map_nil]); first | done | rfl | (simp only [List.length_drop, List.length_take]; rfl)) ?_; (with_reducible refine (octet_Split.calls (⟨#[97, 44, 44, 98]⟩ : ByteArray) 44 t116 _ A3.out).mono ?_); rintro e w73 ⟨v117, rfl, ho0, hb⟩; refine ⟨_, rfl, ?_⟩; have n0_ := Aside0.mk (Kd.R_lower ho0 (below_size (by repeat (first | (with_reducible first | exact HB.out | apply below_alloc | apply pw_below_drewN | apply below_drew1) | exact HB.out)))); have n1_ := Aside0.mk (below_step (by repeat (first | (with_reducible first | exact HB.out | apply below_alloc | apply pw_below_drewN | apply below_drew1) | exact HB.out)) hb); clear HB; have HO118 := n0_; have HB := n1_; clear n0_ n1_; (try clear hb); (try clear hb2); (try clear hk); (try clear hi); (try clear ho0)) | ((with_reducible refine gate_callee (f := 12) rfl ?_); refine goesL_ (some 15) rfl rfl Tryd.func12 (by kernel_rfl) rfl #[.string (⟨#[97, 90]⟩ : ByteArray)] rfl (by (try simp only [List.map_toArray, List.map_cons, List.map_nil]); first | done | rfl | (simp only [List.length_drop, List.length_take]; rfl)) ?_; (with_reducible refine (octet_Lower.calls (⟨#[97, 90]⟩ : ByteArray) t119 _ A4.out).mono ?_); rintro e w74 ⟨rfl, hb⟩; refine ⟨_, rfl, ?_⟩; have n0_ := Aside0.mk (Kd.R_below (by (with_reducible repeat (first | apply Kd.R_alloc | apply Kd.R_drewN | apply Kd.R_drew)); exact HO118.out) hb); have n1_ := Aside0.mk (below_step (by repeat (first | (with_reducible first | exact HB.out | apply below_alloc | apply pw_below_drewN | apply below_drew1) | exact HB.out)) hb); clear HO118; clear HB; have HO118 := n0_; have HB := n1_; clear n0_ n1_; (try clear hb); (try clear hb2); (try clear hk); (try clear hi)))
    go_ret
    exact ⟨by first | rfl | (simp [errW_none, errW_some] <;> rfl) | (simp [*, errW_none, errW_some] <;> rfl) | (simp [q_ne_nil]; done), by repeat (first | (with_reducible first | exact HB.out | apply below_alloc | apply pw_below_drewN | apply below_drew1) | exact HB.out)⟩

/-! ### glacisref01_Lower: function 13 -/
def glacisref01_Lower.f (a0 : ByteArray) : Option ByteArray := if a0.size ≤ 281474976710656 then some (lowBA a0) else none
set_option maxHeartbeats 1000000 in
set_option maxRecDepth 100000 in
theorem glacisref01_Lower.calls (a0 : ByteArray) (r : ByteArray) (w : World) (h : glacisref01_Lower.f a0 = some r) :
    Calls Tryd.prog 13 #[.string a0] w fun e w' => e = .returned (.string r) ∧ Below w.heap.size w w' := by
  unfold glacisref01_Lower.f at h
  split at h
  · rename_i hsz
    obtain rfl := Option.some.inj h
    clear h
    have kb := fun W => print_bytes (P := Tryd.prog) 9 34 5 Tryd.underlying9 Tryd.underlying34 Tryd.underlying5 a0 W
    go_enter Tryd.func13, Tryd.ntmps13
    go_wp2
    generalize grownCap w a0.size 0 5 = cap
    go_loopw [4] (fun v4 wr => ∃ k : Nat, k ≤ a0.size ∧ v4 = .int .i64 k ∧ LowAt w wr a0 k) (fun v4 _ => a0.size - (intOf v4).toNat)
    case atStart => exact ⟨0, Nat.zero_le _, rfl, LowAt.start w _ a0⟩
    case round =>
      clear kb
      obtain ⟨k, hk, rfl, hL⟩ := hrel
      by_cases hlt : k < a0.size
      · have hcell : wr.cell? ⟨w.heap.size, k, none⟩ = some (.int .u8 (bt a0 k)) := by rw [hL.cell k hlt, if_neg (by omega)]
        have hfree := hL.free k hlt
        obtain ⟨hb0, hb1⟩ := bt_range a0 k
        have hS := Aside0.mk (hL.store hlt)
        have hN := Aside0.mk (fun e => hL.same (k := k) e)
        generalize hc : bt a0 k = c at hcell hb0 hb1 hS hN
        clear hc
        have HL := Aside0.mk hL
        clear hL
        by_cases hu1 : 65 ≤ c
        · by_cases hu2 : c ≤ 90
          · have hl : lowByte c = c + 32 := by unfold lowByte; rw [if_pos ⟨hu1, hu2⟩]
            have hor := low_or c hu1 hu2
            rw [hl] at hS
            clear hl hN
            go_wp2
            go_roundw
            case rel => exact ⟨k + 1, by omega, by go_num, hS.out⟩
            case measure => simp [intOf]; omega
          · have hl : lowByte c = c := by unfold lowByte; rw [if_neg (by omega)]
            clear hS
            have hN' := Aside0.mk (hN.out hl)
            clear hN hl
            go_wp2
            go_roundw
            case rel => exact ⟨k + 1, by omega, by go_num, hN'.out⟩
            case measure => simp [intOf]; omega
        · have hl : lowByte c = c := by unfold lowByte; rw [if_neg (by omega)]
          clear hS
          have hN' := Aside0.mk (hN.out hl)
          clear hN hl
          go_wp2
          go_roundw
          case rel => exact ⟨k + 1, by omega, by go_num, hN'.out⟩
          case measure => simp [intOf]; omega
      · obtain rfl : k = a0.size := by omega
        have hd := fun c => hL.done (P := Tryd.prog) (src := 34) (dst := 9) (e := 5) Tryd.underlying34 Tryd.underlying5 Tryd.underlying9 c
        go_wp2
        go_ret
        exact ⟨rfl, hL.below⟩
  · cases h


/-! ### glacisref01_Blank: function 29 -/
def glacisref01_Blank.f (a0 : Int) : Option (Bool) := if a0 = 9 then (some true) else (if a0 = 10 then (some true) else (if a0 = 12 then (some true) else (if a0 = 13 then (some true) else (some (a0 == 32)))))
set_option maxHeartbeats 8000000 in
set_option maxRecDepth 100000 in
theorem glacisref01_Blank.calls (a0 : Int) (r : Bool) (w : World) (h : glacisref01_Blank.f a0 = some r) :
    Calls Tryd.prog 29 #[.int .u8 a0] w fun e w' => e = .returned (.bool r) ∧ Drawn0 w w' := by
  have H : (if a0 = 9 then (some true) else (if a0 = 10 then (some true) else (if a0 = 12 then (some true) else (if a0 = 13 then (some true) else (some (a0 == 32)))))) = some r := h
  clear h
  by_cases c2 : a0 = 9
  · rw [if_pos c2] at H
    have c2b0 : (a0 == 9) = true := beq_iff_eq.mpr c2
    have c2b1 : (a0 != 9) = false := bne_eq_false_iff_eq.mpr c2
    clear c2
    obtain rfl := Option.some.inj H
    go_enter Tryd.func29, Tryd.ntmps29
    go_wp2
    go_ret
    exact ⟨by first | rfl | (simp; done) | (simp [*]; done) | (simp [q_ne_nil]; done), by repeat (first | exact Drawn0.refl _ | apply Drawn0.step)⟩
  · rw [if_neg c2] at H
    have c2b0 : (a0 == 9) = false := beq_eq_false_iff_ne.mpr c2
    have c2b1 : (a0 != 9) = true := bne_iff_ne.mpr c2
    by_cases c3 : a0 = 10
    · rw [if_pos c3] at H
      have c3b0 : (a0 == 10) = true := beq_iff_eq.mpr c3
      have c3b1 : (a0 != 10) = false := bne_eq_false_iff_eq.mpr c3
      clear c3
      obtain rfl := Option.some.inj H
      go_enter Tryd.func29, Tryd.ntmps29
      go_wp2
      go_ret
      exact ⟨by first | rfl | (simp; done) | (simp [*]; done) | (simp [q_ne_nil]; done), by repeat (first | exact Drawn0.refl _ | apply Drawn0.step)⟩
    · rw [if_neg c3] at H
      have c3b0 : (a0 == 10) = false := beq_eq_false_iff_ne.mpr c3
      have c3b1 : (a0 != 10) = true := bne_iff_ne.mpr c3
      by_cases c4 : a0 = 12
      · rw [if_pos c4] at H
        have c4b0 : (a0 == 12) = true := beq_iff_eq.mpr c4
        have c4b1 : (a0 != 12) = false := bne_eq_false_iff_eq.mpr c4
        clear c4
        obtain rfl := Option.some.inj H
        go_enter Tryd.func29, Tryd.ntmps29
        go_wp2
        go_ret
        exact ⟨by first | rfl | (simp; done) | (simp [*]; done) | (simp [q_ne_nil]; done), by repeat (first | exact Drawn0.refl _ | apply Drawn0.step)⟩
      · rw [if_neg c4] at H
        have c4b0 : (a0 == 12) = false := beq_eq_false_iff_ne.mpr c4
        have c4b1 : (a0 != 12) = true := bne_iff_ne.mpr c4
        by_cases c5 : a0 = 13
        · rw [if_pos c5] at H
          have c5b0 : (a0 == 13) = true := beq_iff_eq.mpr c5
          have c5b1 : (a0 != 13) = false := bne_eq_false_iff_eq.mpr c5
          clear c5
          obtain rfl := Option.some.inj H
          go_enter Tryd.func29, Tryd.ntmps29
          go_wp2
          go_ret
          exact ⟨by first | rfl | (simp; done) | (simp [*]; done) | (simp [q_ne_nil]; done), by repeat (first | exact Drawn0.refl _ | apply Drawn0.step)⟩
        · rw [if_neg c5] at H
          have c5b0 : (a0 == 13) = false := beq_eq_false_iff_ne.mpr c5
          have c5b1 : (a0 != 13) = true := bne_iff_ne.mpr c5
          obtain rfl := Option.some.inj H
          go_enter Tryd.func29, Tryd.ntmps29
          go_wp2
          go_ret
          exact ⟨by first | rfl | (simp; done) | (simp [*]; done) | (simp [q_ne_nil]; done), by repeat (first | exact Drawn0.refl _ | apply Drawn0.step)⟩

end Go.Proofs.YtdcnofkcaddkpaaDoor.Q
