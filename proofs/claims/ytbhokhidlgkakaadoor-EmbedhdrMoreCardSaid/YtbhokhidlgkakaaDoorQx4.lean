-- Laid by this seat's own driver (wip/tools/drive.py) out of the translation.
import Derived.Test.YtbhokhidlgkakaaDoorQx0
import Derived.Test.YtbhokhidlgkakaaDoorQx3
namespace Go.Proofs.YtbhokhidlgkakaaDoor.Q
open Go.RowKit Go.Proofs.YtbhokhidlgkakaaDoorW.PrintWords Go.Proofs.YtbhokhidlgkakaaDoorW.PrintLast Go.Proofs.YtbhokhidlgkakaaDoorW.PrintMore
attribute [local go_sem] max2_int min2_int max_two min_two max_three min_three max_four min_four   -- for this text's walks alone
set_option linter.unusedVariables false
set_option linter.unusedSimpArgs false

/-! ### glacisref01_Trim: function 45 -/
mutual
def glacisref01_Trim.j1 : Nat → ByteArray → Int → Int → Option (ByteArray)
  | 0, _, _, _ => none
  | k + 1, x0, x3, x4 => glacisref01_Trim.l1 k x0 x3 x4
def glacisref01_Trim.l1 : Nat → ByteArray → Int → Int → Option (ByteArray)
  | 0, _, _, _ => none
  | k + 1, x0, x3, x4 => if x4 > x3 then (if 0 ≤ (wrap64 (x4 - 1)) then (if (wrap64 (x4 - 1)) < (x0.size : Int) then ((glacisref01_Blank.f (bt x0 (wrap64 (x4 - 1)))).bind fun t146 => (if t146 = true then (glacisref01_Trim.l1 k x0 x3 (wrap64 (x4 - 1))) else (if 0 ≤ x3 then (if x3 ≤ x4 then (if x4 ≤ (x0.size : Int) then (some (x0.extract (x3 : Int).toNat (x4 : Int).toNat)) else (none)) else (none)) else (none)))) else (none)) else (none)) else (if 0 ≤ x3 then (if x3 ≤ x4 then (if x4 ≤ (x0.size : Int) then (some (x0.extract (x3 : Int).toNat (x4 : Int).toNat)) else (none)) else (none)) else (none))
def glacisref01_Trim.l0 : Nat → ByteArray → Int → Int → Option (ByteArray)
  | 0, _, _, _ => none
  | k + 1, x0, x3, x4 => if x3 < x4 then (if 0 ≤ x3 then (if x3 < (x0.size : Int) then ((glacisref01_Blank.f (bt x0 x3)).bind fun t145 => (if t145 = true then (glacisref01_Trim.l0 k x0 (wrap64 (x3 + 1)) x4) else (glacisref01_Trim.j1 k x0 x3 x4))) else (none)) else (none)) else (glacisref01_Trim.j1 k x0 x3 x4)
end
def glacisref01_Trim.f (k : Nat) (a0 : ByteArray) : Option (ByteArray) := glacisref01_Trim.l0 k a0 0 (a0.size : Int)
theorem glacisref01_Trim.mono_l : ∀ k, (∀ y0 y1 y2, LeO (glacisref01_Trim.j1 k y0 y1 y2) (glacisref01_Trim.j1 (k + 1) y0 y1 y2)) ∧ (∀ y0 y1 y2, LeO (glacisref01_Trim.l1 k y0 y1 y2) (glacisref01_Trim.l1 (k + 1) y0 y1 y2)) ∧ (∀ y0 y1 y2, LeO (glacisref01_Trim.l0 k y0 y1 y2) (glacisref01_Trim.l0 (k + 1) y0 y1 y2))
  | 0 => ⟨fun _ _ _ r h => by simp [glacisref01_Trim.j1] at h, fun _ _ _ r h => by simp [glacisref01_Trim.l1] at h, fun _ _ _ r h => by simp [glacisref01_Trim.l0] at h⟩
  | k + 1 => by
    obtain ⟨ih0, ih1, ih2⟩ := glacisref01_Trim.mono_l k
    refine ⟨?_, ?_, ?_⟩
    · intro y0 y1 y2
      unfold glacisref01_Trim.j1
      repeat' first
      | (with_reducible exact ih0 _ _ _)
      | (with_reducible exact ih1 _ _ _)
      | (with_reducible exact ih2 _ _ _)
      | (with_reducible exact LeO.refl _)
      | (with_reducible exact LeO.none _)
      | (with_reducible refine LeO.ite ?_ ?_)
      | (with_reducible refine LeO.bind ?_ (fun _ => ?_))
      | exact ih0 _ _ _
      | exact ih1 _ _ _
      | exact ih2 _ _ _
      | exact LeO.none _
      | refine LeO.ite ?_ ?_
      | refine LeO.bind ?_ (fun _ => ?_)
    · intro y0 y1 y2
      unfold glacisref01_Trim.l1
      repeat' first
      | (with_reducible exact ih0 _ _ _)
      | (with_reducible exact ih1 _ _ _)
      | (with_reducible exact ih2 _ _ _)
      | (with_reducible exact LeO.refl _)
      | (with_reducible exact LeO.none _)
      | (with_reducible refine LeO.ite ?_ ?_)
      | (with_reducible refine LeO.bind ?_ (fun _ => ?_))
      | exact ih0 _ _ _
      | exact ih1 _ _ _
      | exact ih2 _ _ _
      | exact LeO.none _
      | refine LeO.ite ?_ ?_
      | refine LeO.bind ?_ (fun _ => ?_)
    · intro y0 y1 y2
      unfold glacisref01_Trim.l0
      repeat' first
      | (with_reducible exact ih0 _ _ _)
      | (with_reducible exact ih1 _ _ _)
      | (with_reducible exact ih2 _ _ _)
      | (with_reducible exact LeO.refl _)
      | (with_reducible exact LeO.none _)
      | (with_reducible refine LeO.ite ?_ ?_)
      | (with_reducible refine LeO.bind ?_ (fun _ => ?_))
      | exact ih0 _ _ _
      | exact ih1 _ _ _
      | exact ih2 _ _ _
      | exact LeO.none _
      | refine LeO.ite ?_ ?_
      | refine LeO.bind ?_ (fun _ => ?_)
theorem glacisref01_Trim.mono : ∀ a0 k, LeO (glacisref01_Trim.f k a0) (glacisref01_Trim.f (k + 1) a0) := by
  intro a0 k
  obtain ⟨ih0, ih1, ih2⟩ := glacisref01_Trim.mono_l k
  unfold glacisref01_Trim.f
  repeat' first
      | (with_reducible exact ih0 _ _ _)
      | (with_reducible exact ih1 _ _ _)
      | (with_reducible exact ih2 _ _ _)
      | (with_reducible exact LeO.refl _)
      | (with_reducible exact LeO.none _)
      | (with_reducible refine LeO.ite ?_ ?_)
      | (with_reducible refine LeO.bind ?_ (fun _ => ?_))
      | exact ih0 _ _ _
      | exact ih1 _ _ _
      | exact ih2 _ _ _
      | exact LeO.none _
      | refine LeO.ite ?_ ?_
      | refine LeO.bind ?_ (fun _ => ?_)
set_option maxHeartbeats 8000000 in
set_option maxRecDepth 100000 in
theorem glacisref01_Trim.calls (k : Nat) (a0 : ByteArray) (r : ByteArray) (w : World) (h : glacisref01_Trim.f k a0 = some r) :
    Calls Tryd.prog 45 #[.string a0] w fun e w' => e = .returned (.string r) ∧ Drawn0 w w' := by
  have H : (glacisref01_Trim.l0 k a0 0 (a0.size : Int)) = some r := h
  clear h
  have HC2 := Aside0.mk H
  clear H
  go_enter Tryd.func45, Tryd.ntmps45
  go_upto_block 0 with (fail)
  go_cut [3] (fun v3 wc => ∃ (kq : Nat) (x3_1 : Int), v3 = .int .i64 x3_1 ∧ Aside0 (glacisref01_Trim.j1 kq a0 x3_1 (a0.size : Int) = some r) ∧ Aside0 (kq ≤ k) ∧ Drawn0 w wc)
  case first =>
    have H := HC2.out
    clear HC2
    have H' := Aside0.mk H
    clear H
    go_wp2
    go_loopg [3] k (fun kq v3 w' => ∃ (x3_1 : Int), v3 = .int .i64 x3_1 ∧ Aside0 (glacisref01_Trim.l0 kq a0 x3_1 (a0.size : Int) = some r) ∧ Aside0 (kq ≤ k) ∧ Drawn0 w w')
    case atStart => exact ⟨(0), (by first | rfl | (simp; done) | (simp [*]; done) | (simp [q_ne_nil]; done)), H', ⟨Nat.le_refl _⟩, by repeat (first | exact Drawn0.refl _ | apply Drawn0.step)⟩
    case round =>
      clear H'
      try clear p2
      obtain ⟨x3_1, rfl, HA, HK1, ⟨m1, rfl⟩⟩ := hrel
      cases gk with
      | zero => exact absurd HA.out (by simp [glacisref01_Trim.l0])
      | succ k1 =>
        have H := HA.out
        clear HA
        simp only [glacisref01_Trim.l0] at H
        by_cases c3 : x3_1 < (a0.size : Int)
        · rw [if_pos c3] at H
          have c3b0 : decide (x3_1 < (a0.size : Int)) = true := decide_eq_true c3
          clear c3
          (first | rw [c3b0] | (simp only [i64_w, i32_w]; rw [c3b0]) | skip)
          by_cases c4 : 0 ≤ x3_1
          · rw [if_pos c4] at H
            have c4b0 : decide (0 ≤ x3_1) = true := decide_eq_true c4
            clear c4
            by_cases c5 : x3_1 < (a0.size : Int)
            · rw [if_pos c5] at H
              have c5b0 : decide (x3_1 < (a0.size : Int)) = true := decide_eq_true c5
              clear c5
              replace H := Option.bind_eq_some_iff.mp H
              obtain ⟨t145, A70, H⟩ := H
              replace H : (if t145 = true then (glacisref01_Trim.l0 k1 a0 (wrap64 (x3_1 + 1)) (a0.size : Int)) else (glacisref01_Trim.j1 k1 a0 x3_1 (a0.size : Int))) = some r := H
              have A7 := Aside0.mk A70
              clear A70
              by_cases c8 : t145 = true
              · subst c8
                have H1 : (glacisref01_Trim.l0 k1 a0 (wrap64 (x3_1 + 1)) (a0.size : Int)) = some r := by rw [if_pos rfl] at H; exact H
                clear H
                have H := H1
                clear H1
                have H' := Aside0.mk H
                clear H
                have p6 : 0 ≤ (x3_1 : Int) := of_decide_eq_true (by first | (with_reducible assumption) | assumption)
                have q6 : x3_1 < (a0.size : Int) := of_decide_eq_true (by first | (with_reducible assumption) | assumption)
                have hx6 := bt_at a0 x3_1
                replace p6 := eq_true p6
                replace q6 := eq_true q6
                go_wp2_with (first | (go_at_call 52; (with_reducible refine (glacisref01_Blank.calls (bt a0 x3_1) true _ A7.out).mono ?_); rintro e w' ⟨rfl, ⟨nd, rfl⟩⟩))
                go_roundg k1
                case measure => have := HK1.out; omega
                case rel => exact ⟨(wrap64 (x3_1 + 1)), (by first | rfl | (simp; done) | (simp [*]; done) | (simp [q_ne_nil]; done)), H', ⟨by have := HK1.out; omega⟩, by repeat (first | exact Drawn0.refl _ | apply Drawn0.step)⟩
              · replace c8 := Bool.eq_false_iff.mpr c8
                subst c8
                have H1 : (glacisref01_Trim.j1 k1 a0 x3_1 (a0.size : Int)) = some r := by rw [if_neg (show ¬ (false = true) by decide)] at H; exact H
                clear H
                have H := H1
                clear H1
                have H' := Aside0.mk H
                clear H
                have p6 : 0 ≤ (x3_1 : Int) := of_decide_eq_true (by first | (with_reducible assumption) | assumption)
                have q6 : x3_1 < (a0.size : Int) := of_decide_eq_true (by first | (with_reducible assumption) | assumption)
                have hx6 := bt_at a0 x3_1
                replace p6 := eq_true p6
                replace q6 := eq_true q6
                go_wp2_with (first | (go_at_call 52; (with_reducible refine (glacisref01_Blank.calls (bt a0 x3_1) false _ A7.out).mono ?_); rintro e w' ⟨rfl, ⟨nd, rfl⟩⟩))
                go_meet
                case rel => exact ⟨_, (x3_1), (by first | rfl | (simp; done) | (simp [*]; done) | (simp [q_ne_nil]; done)), H', ⟨by have := HK1.out; first | omega | exact Nat.le_refl _⟩, by repeat (first | exact Drawn0.refl _ | apply Drawn0.step)⟩
            · rw [if_neg c5] at H
              exact absurd H (by simp)
          · rw [if_neg c4] at H
            exact absurd H (by simp)
        · rw [if_neg c3] at H
          have c3b0 : decide (x3_1 < (a0.size : Int)) = false := decide_eq_false c3
          clear c3
          (first | rw [c3b0] | (simp only [i64_w, i32_w]; rw [c3b0]) | skip)
          have H' := Aside0.mk H
          clear H
          go_wp2
          go_meet
          case rel => exact ⟨_, (x3_1), (by first | rfl | (simp; done) | (simp [*]; done) | (simp [q_ne_nil]; done)), H', ⟨by have := HK1.out; first | omega | exact Nat.le_refl _⟩, by repeat (first | exact Drawn0.refl _ | apply Drawn0.step)⟩
  case rest =>
    clear HC2
    try clear p2
    try clear c3
    try clear c3b0
    try clear c4
    try clear c4b0
    try clear c5
    try clear c5b0
    try clear p6
    try clear q6
    try clear hx6
    try clear c8
    try clear p2
    try clear p6
    try clear q6
    obtain ⟨kq, x3_1, rfl, HA, HJ1, ⟨mc1, rfl⟩⟩ := hcut
    cases kq with
    | zero => exact absurd HA.out (by simp [glacisref01_Trim.j1])
    | succ kj1 =>
      have H := HA.out
      clear HA
      simp only [glacisref01_Trim.j1] at H
      have H' := Aside0.mk H
      clear H
      go_wp2
      go_loopg [4] kj1 (fun kq v4 w' => ∃ (x4_2 : Int), v4 = .int .i64 x4_2 ∧ Aside0 (glacisref01_Trim.l1 kq a0 x3_1 x4_2 = some r) ∧ Aside0 (kq ≤ kj1) ∧ Drawn0 w w')
      case atStart => exact ⟨((a0.size : Int)), (by first | rfl | (simp; done) | (simp [*]; done) | (simp [q_ne_nil]; done)), H', ⟨Nat.le_refl _⟩, by repeat (first | exact Drawn0.refl _ | apply Drawn0.step)⟩
      case round =>
        clear H'
        try clear c1
        try clear p2
        try clear c3
        try clear c3b0
        try clear c4
        try clear c4b0
        try clear c5
        try clear c5b0
        try clear p6
        try clear q6
        try clear hx6
        try clear c8
        try clear p2
        try clear p6
        try clear q6
        obtain ⟨x4_2, rfl, HA, HK2, ⟨m2, rfl⟩⟩ := hrel
        cases gk with
        | zero => exact absurd HA.out (by simp [glacisref01_Trim.l1])
        | succ k2 =>
          have H := HA.out
          clear HA
          simp only [glacisref01_Trim.l1] at H
          by_cases c9 : x4_2 > x3_1
          · rw [if_pos c9] at H
            have c9b0 : decide (x3_1 < x4_2) = true := decide_eq_true c9
            clear c9
            obtain ⟨ji10, hji10⟩ : ∃ j_ : Int, (wrap64 (x4_2 - 1)) = j_ := ⟨_, rfl⟩
            replace H : (if 0 ≤ (ji10) then (if (ji10) < (a0.size : Int) then ((glacisref01_Blank.f (bt a0 (ji10))).bind fun t146 => (if t146 = true then (glacisref01_Trim.l1 k2 a0 x3_1 ji10) else (if 0 ≤ x3_1 then (if x3_1 ≤ x4_2 then (if x4_2 ≤ (a0.size : Int) then (some (a0.extract (x3_1 : Int).toNat (x4_2 : Int).toNat)) else (none)) else (none)) else (none)))) else (none)) else (none)) = some r := by first | (rw [hji10] at H; exact H) | (simp only [hji10] at H ⊢; exact H)
            have hji10w : (IntKind.i64.wrap (x4_2 - 1)) = ji10 := (i64_w _).trans hji10
            by_cases c11 : 0 ≤ (ji10)
            · rw [if_pos c11] at H
              have c11b0 : decide (0 ≤ (ji10)) = true := decide_eq_true c11
              clear c11
              by_cases c12 : (ji10) < (a0.size : Int)
              · rw [if_pos c12] at H
                have c12b0 : decide ((ji10) < (a0.size : Int)) = true := decide_eq_true c12
                clear c12
                replace H := Option.bind_eq_some_iff.mp H
                obtain ⟨t146, A140, H⟩ := H
                replace H : (if t146 = true then (glacisref01_Trim.l1 k2 a0 x3_1 ji10) else (if 0 ≤ x3_1 then (if x3_1 ≤ x4_2 then (if x4_2 ≤ (a0.size : Int) then (some (a0.extract (x3_1 : Int).toNat (x4_2 : Int).toNat)) else (none)) else (none)) else (none))) = some r := H
                have A14 := Aside0.mk A140
                clear A140
                by_cases c15 : t146 = true
                · subst c15
                  have H1 : (glacisref01_Trim.l1 k2 a0 x3_1 ji10) = some r := by rw [if_pos rfl] at H; exact H
                  clear H
                  have H := H1
                  clear H1
                  have H' := Aside0.mk H
                  clear H
                  have p13 : 0 ≤ ((ji10) : Int) := of_decide_eq_true (by first | (with_reducible assumption) | assumption)
                  have q13 : (ji10) < (a0.size : Int) := of_decide_eq_true (by first | (with_reducible assumption) | assumption)
                  have hx13 := bt_at a0 (ji10)
                  replace p13 := eq_true p13
                  replace q13 := eq_true q13
                  go_wp2_with (first | (go_at_call 52; (with_reducible refine (glacisref01_Blank.calls (bt a0 (ji10)) true _ A14.out).mono ?_); rintro e w' ⟨rfl, ⟨nd, rfl⟩⟩))
                  go_roundg k2
                  case measure => have := HJ1.out; have := HK2.out; omega
                  case rel => exact ⟨(ji10), (by first | rfl | (simp; done) | (simp only [← hji10] <;> (first | rfl | simp)) | (simp [*]; done) | (simp [q_ne_nil]; done)), H', ⟨by have := HJ1.out; have := HK2.out; omega⟩, by repeat (first | exact Drawn0.refl _ | apply Drawn0.step)⟩
                · replace c15 := Bool.eq_false_iff.mpr c15
                  subst c15
                  have H1 : (if 0 ≤ x3_1 then (if x3_1 ≤ x4_2 then (if x4_2 ≤ (a0.size : Int) then (some (a0.extract (x3_1 : Int).toNat (x4_2 : Int).toNat)) else (none)) else (none)) else (none)) = some r := by rw [if_neg (show ¬ (false = true) by decide)] at H; exact H
                  clear H
                  have H := H1
                  clear H1
                  by_cases c16 : 0 ≤ x3_1
                  · rw [if_pos c16] at H
                    have c16b0 := eq_true c16
                    have c16b1 : decide (0 ≤ x3_1) = true := decide_eq_true c16
                    clear c16
                    by_cases c17 : x3_1 ≤ x4_2
                    · rw [if_pos c17] at H
                      have c17b0 := eq_true c17
                      have c17b1 : decide (x3_1 ≤ x4_2) = true := decide_eq_true c17
                      clear c17
                      by_cases c18 : x4_2 ≤ (a0.size : Int)
                      · rw [if_pos c18] at H
                        have c18b0 := eq_true c18
                        have c18b1 : decide (x4_2 ≤ (a0.size : Int)) = true := decide_eq_true c18
                        clear c18
                        obtain rfl := Option.some.inj H
                        have p13 : 0 ≤ ((ji10) : Int) := of_decide_eq_true (by first | (with_reducible assumption) | assumption)
                        have q13 : (ji10) < (a0.size : Int) := of_decide_eq_true (by first | (with_reducible assumption) | assumption)
                        have hx13 := bt_at a0 (ji10)
                        replace p13 := eq_true p13
                        replace q13 := eq_true q13
                        go_wp2_with (first | (go_at_call 52; (with_reducible refine (glacisref01_Blank.calls (bt a0 (ji10)) false _ A14.out).mono ?_); rintro e w' ⟨rfl, ⟨nd, rfl⟩⟩))
                        go_ret
                        exact ⟨by first | rfl | (simp; done) | (simp only [← hji10] <;> (first | rfl | simp)) | (simp [*]; done) | (simp [q_ne_nil]; done), by repeat (first | exact Drawn0.refl _ | apply Drawn0.step)⟩
                      · rw [if_neg c18] at H
                        exact absurd H (by simp)
                    · rw [if_neg c17] at H
                      exact absurd H (by simp)
                  · rw [if_neg c16] at H
                    exact absurd H (by simp)
              · rw [if_neg c12] at H
                exact absurd H (by simp)
            · rw [if_neg c11] at H
              exact absurd H (by simp)
          · rw [if_neg c9] at H
            have c9b0 : decide (x3_1 < x4_2) = false := decide_eq_false c9
            clear c9
            by_cases c19 : 0 ≤ x3_1
            · rw [if_pos c19] at H
              have c19b0 := eq_true c19
              have c19b1 : decide (0 ≤ x3_1) = true := decide_eq_true c19
              clear c19
              by_cases c20 : x3_1 ≤ x4_2
              · rw [if_pos c20] at H
                have c20b0 := eq_true c20
                have c20b1 : decide (x3_1 ≤ x4_2) = true := decide_eq_true c20
                clear c20
                by_cases c21 : x4_2 ≤ (a0.size : Int)
                · rw [if_pos c21] at H
                  have c21b0 := eq_true c21
                  have c21b1 : decide (x4_2 ≤ (a0.size : Int)) = true := decide_eq_true c21
                  clear c21
                  obtain rfl := Option.some.inj H
                  go_wp2
                  go_ret
                  exact ⟨by first | rfl | (simp; done) | (simp [*]; done) | (simp [q_ne_nil]; done), by repeat (first | exact Drawn0.refl _ | apply Drawn0.step)⟩
                · rw [if_neg c21] at H
                  exact absurd H (by simp)
              · rw [if_neg c20] at H
                exact absurd H (by simp)
            · rw [if_neg c19] at H
              exact absurd H (by simp)

/-! ### glacisref07_Values: function 30 -/
def glacisref07_Values.l0 : Nat → List (S28) → ByteArray → List ByteArray → Int → Option (List ByteArray)
  | 0, _, _, _, _ => none
  | k + 1, x0, x1, x5, x6 => if x6 < (x0.length : Int) then (if 0 ≤ x6 then ((glacisref01_Fold.f ((rd_T28 x0 x6).f0) x1).bind fun t148 => (if t148 = true then ((glacisref01_Trim.f k ((rd_T28 x0 x6).f1)).bind fun t150 => (if x5.length < 8796093022208 then (glacisref07_Values.l0 k x0 x1 (x5 ++ [t150]) (wrap64 (x6 + 1))) else (none))) else (glacisref07_Values.l0 k x0 x1 x5 (wrap64 (x6 + 1))))) else (none)) else (some x5)
def glacisref07_Values.f (k : Nat) (l0 : List (S28)) (a1 : ByteArray) : Option (List ByteArray) := glacisref07_Values.l0 k l0 a1 ([] : List ByteArray) 0
theorem glacisref07_Values.mono_l : ∀ k, (∀ y0 y1 y2 y3, LeO (glacisref07_Values.l0 k y0 y1 y2 y3) (glacisref07_Values.l0 (k + 1) y0 y1 y2 y3))
  | 0 => fun _ _ _ _ r h => by simp [glacisref07_Values.l0] at h
  | k + 1 => by
    have ih0 := glacisref07_Values.mono_l k
    · intro y0 y1 y2 y3
      unfold glacisref07_Values.l0
      repeat' first
      | (with_reducible exact ih0 _ _ _ _)
      | (with_reducible exact glacisref01_Trim.mono _ _)
      | (with_reducible exact LeO.refl _)
      | (with_reducible exact LeO.none _)
      | (with_reducible refine LeO.ite ?_ ?_)
      | (with_reducible refine LeO.bind ?_ (fun _ => ?_))
      | exact ih0 _ _ _ _
      | exact glacisref01_Trim.mono _ _
      | exact LeO.none _
      | refine LeO.ite ?_ ?_
      | refine LeO.bind ?_ (fun _ => ?_)
theorem glacisref07_Values.mono : ∀ a0 a1 k, LeO (glacisref07_Values.f k a0 a1) (glacisref07_Values.f (k + 1) a0 a1) := by
  intro a0 a1 k
  have ih0 := glacisref07_Values.mono_l k
  unfold glacisref07_Values.f
  repeat' first
      | (with_reducible exact ih0 _ _ _ _)
      | (with_reducible exact glacisref01_Trim.mono _ _)
      | (with_reducible exact LeO.refl _)
      | (with_reducible exact LeO.none _)
      | (with_reducible refine LeO.ite ?_ ?_)
      | (with_reducible refine LeO.bind ?_ (fun _ => ?_))
      | exact ih0 _ _ _ _
      | exact glacisref01_Trim.mono _ _
      | exact LeO.none _
      | refine LeO.ite ?_ ?_
      | refine LeO.bind ?_ (fun _ => ?_)
set_option maxHeartbeats 8000000 in
set_option maxRecDepth 100000 in
theorem glacisref07_Values.calls (k : Nat) (A0 : Option Addr) (c0 : Nat) (l0 : List (S28)) (a1 : ByteArray) (r : List ByteArray) (w : World) (hr0 : Kd.C k28 w A0 l0.length l0) (hc0 : l0.length ≤ c0) (h : glacisref07_Values.f k l0 a1 = some r) :
    Calls Tryd.prog 30 #[.slice A0 l0.length c0, .string a1] w fun e w' => ∃ v0_ : Value, e = .returned (v0_) ∧ Kd.R Kd.string 9 w' w.heap.size (fun _ => True) v0_ r ∧ Below w.heap.size w w' := by
  have HR0 := Aside0.mk hr0
  have HC0 := Aside0.mk hc0
  clear hr0 hc0
  have HB := Aside0.mk (Below.refl w.heap.size w)
  have H : (glacisref07_Values.l0 k l0 a1 ([] : List ByteArray) 0) = some r := h
  clear h
  have H' := Aside0.mk H
  clear H
  go_enter Tryd.func30, Tryd.ntmps30
  go_wp2
  go_loopg [5, 6] k (fun kq v5 v6 w' => ∃ (x5_1 : List ByteArray) (x6_1 : Int), v6 = .int .i64 x6_1 ∧ Aside0 (glacisref07_Values.l0 kq l0 a1 x5_1 x6_1 = some r) ∧ Aside0 (kq ≤ k) ∧ Aside0 (Kd.R Kd.string 9 w' w.heap.size (fun _ => True) v5 x5_1) ∧ Aside0 (Below w.heap.size w w'))
  case atStart => exact ⟨(([] : List ByteArray)), (0), (by first | rfl | (simp; done) | (simp [*]; done) | (simp [q_ne_nil]; done)), H', ⟨Nat.le_refl _⟩, ⟨by first | exact Kd.R_nil _ _ _ _ _ | exact Kd.N_nil _ _ _ _ _ | exact Kd.V_nil _ _ _ _ _ | exact Kd.Q_nil _ _ _ _ _ | exact Kd.S_nil _ _ _ _ _⟩, ⟨by repeat (first | (with_reducible first | exact HB.out | apply below_alloc | apply pw_below_drewN | apply below_drew1) | exact HB.out)⟩⟩
  case round =>
    clear H'
    try clear p2
    obtain ⟨x5_1, x6_1, rfl, HA, HK1, HO_5, HB⟩ := hrel
    cases gk with
    | zero => exact absurd HA.out (by simp [glacisref07_Values.l0])
    | succ k1 =>
      have H := HA.out
      clear HA
      simp only [glacisref07_Values.l0] at H
      by_cases c3 : x6_1 < (l0.length : Int)
      · rw [if_pos c3] at H
        have c3b0 : decide (x6_1 < (l0.length : Int)) = true := decide_eq_true c3
        clear c3
        by_cases c4 : 0 ≤ x6_1
        · rw [if_pos c4] at H
          have c4b0 : decide (0 ≤ x6_1) = true := decide_eq_true c4
          clear c4
          replace H := Option.bind_eq_some_iff.mp H
          obtain ⟨t148, A50, H⟩ := H
          replace H : (if t148 = true then ((glacisref01_Trim.f k1 ((rd_T28 l0 x6_1).f1)).bind fun t150 => (if x5_1.length < 8796093022208 then (glacisref07_Values.l0 k1 l0 a1 (x5_1 ++ [t150]) (wrap64 (x6_1 + 1))) else (none))) else (glacisref07_Values.l0 k1 l0 a1 x5_1 (wrap64 (x6_1 + 1)))) = some r := H
          have A5 := Aside0.mk A50
          clear A50
          by_cases c6 : t148 = true
          · subst c6
            have H1 : ((glacisref01_Trim.f k1 ((rd_T28 l0 x6_1).f1)).bind fun t150 => (if x5_1.length < 8796093022208 then (glacisref07_Values.l0 k1 l0 a1 (x5_1 ++ [t150]) (wrap64 (x6_1 + 1))) else (none))) = some r := by rw [if_pos rfl] at H; exact H
            clear H
            have H := H1
            clear H1
            replace H := Option.bind_eq_some_iff.mp H
            obtain ⟨t150, A70, H⟩ := H
            replace H : (if x5_1.length < 8796093022208 then (glacisref07_Values.l0 k1 l0 a1 (x5_1 ++ [t150]) (wrap64 (x6_1 + 1))) else (none)) = some r := H
            have A7 := Aside0.mk A70
            clear A70
            by_cases c8 : x5_1.length < 8796093022208
            · rw [if_pos c8] at H
              have LMc8 := Aside0.mk c8
              clear c8
              obtain ⟨y151, hy151⟩ : ∃ y_ : List ByteArray, y_ = (x5_1 ++ [t150]) := ⟨_, rfl⟩
              replace H : (glacisref07_Values.l0 k1 l0 a1 y151 (wrap64 (x6_1 + 1))) = some r := by first | (rw [hy151]; with_reducible exact H) | (have H2_ := (Option.bind_some _ _).symm.trans H; rw [hy151]; with_reducible exact H2_) | (have H2_ := (Option.bind_some _ _).symm.trans H; with_reducible exact H2_) | with_reducible exact H | (rw [hy151]; exact H) | exact H
              have Ny151 := Aside0.mk hy151
              clear hy151
              have H' := Aside0.mk H
              clear H
              have p147 : 0 ≤ (x6_1 : Int) := of_decide_eq_true (by first | (with_reducible assumption) | assumption)
              have q147 : x6_1 < (l0.length : Int) := of_decide_eq_true (by first | (with_reducible assumption) | assumption)
              obtain ⟨ad147, e147, hx147_0, hx147_1⟩ := at_T28 HR0.out x6_1 p147 q147
              cases e147
              replace hx147_0 := (HB.out.cell (World.block_lt_of_cell? w _ hx147_0)).trans hx147_0
              replace hx147_1 := (HB.out.cell (World.block_lt_of_cell? w _ hx147_1)).trans hx147_1
              replace p147 := eq_true p147
              replace q147 := eq_true q147
              go_wp2_with (first | ((with_reducible refine gate_callee (f := 44) rfl ?_); refine goesL_ (some 20) rfl rfl Tryd.func44 (by kernel_rfl) rfl #[.string ((rd_T28 l0 x6_1).f0), .string a1] rfl (by (try simp only [List.map_toArray, List.map_cons, List.map_nil]); first | done | rfl | (simp only [List.length_drop, List.length_take]; rfl)) ?_; (with_reducible refine (glacisref01_Fold.calls ((rd_T28 l0 x6_1).f0) a1 true _ A5.out).mono ?_); rintro e w9 ⟨rfl, hb⟩; refine ⟨_, rfl, ?_⟩; have n0_ := Aside0.mk (Kd.R_below (by (with_reducible repeat (first | apply Kd.R_alloc | apply Kd.R_drewN | apply Kd.R_drew)); exact HO_5.out) hb); have n1_ := Aside0.mk (below_step (by repeat (first | (with_reducible first | exact HB.out | apply below_alloc | apply pw_below_drewN | apply below_drew1) | exact HB.out)) hb); clear HO_5; clear HB; have HO_5 := n0_; have HB := n1_; clear n0_ n1_; (try clear hb); (try clear hb2); (try clear hk); (try clear hi); have p149 : 0 ≤ (x6_1 : Int) := of_decide_eq_true (by first | (with_reducible assumption) | assumption); have q149 : x6_1 < (l0.length : Int) := of_decide_eq_true (by first | (with_reducible assumption) | assumption); obtain ⟨ad149, e149, hx149_0, hx149_1⟩ := at_T28 HR0.out x6_1 p149 q149; obtain rfl : ad147 = ad149 := (by injection e149); replace hx149_0 := (HB.out.cell (World.block_lt_of_cell? w _ hx149_0)).trans hx149_0; replace hx149_1 := (HB.out.cell (World.block_lt_of_cell? w _ hx149_1)).trans hx149_1; replace p149 := eq_true p149; replace q149 := eq_true q149) | ((with_reducible refine gate_callee (f := 45) rfl ?_); refine goesL_ (some 28) rfl rfl Tryd.func45 (by kernel_rfl) rfl #[.string ((rd_T28 l0 x6_1).f1)] rfl (by (try simp only [List.map_toArray, List.map_cons, List.map_nil]); first | done | rfl | (simp only [List.length_drop, List.length_take]; rfl)) ?_; (with_reducible refine (glacisref01_Trim.calls k1 ((rd_T28 l0 x6_1).f1) t150 _ A7.out).mono ?_); rintro e w' ⟨rfl, ⟨nd, rfl⟩⟩; refine ⟨_, rfl, ?_⟩) | ((with_reducible refine gate_builtin (b := .append) (xs := #[.tmp 22, .tmp 29]) rfl ?_); at_builtin; refine Kd.R_append Kd.string (w0 := w) w.heap.size rfl (.tmp 22) (.tmp 29) 26 9 (.string ⟨#[]⟩) 16 rfl Tryd.underlying26 info9 rfl (by decide) (by omega) u5 x5_1 t150 [.string t150] (fun _ => True) (fun _ => False) rfl rfl ?aP (fun _ hk => hk.elim) ?aF ?aO ?aB ?aS ?aL ?_; (case aP => exact rfl); (case aB => exact (by repeat (first | (with_reducible first | exact HB.out | apply below_alloc | apply pw_below_drewN | apply below_drew1) | exact HB.out))); (case aF => exact (fun _ _ => trivial)); (case aO => exact (by (with_reducible repeat (first | apply Kd.R_alloc | apply Kd.R_drewN | apply Kd.R_drew)); exact HO_5.out)); (case aS => exact (below_size (by repeat (first | (with_reducible first | exact HB.out | apply below_alloc | apply pw_below_drewN | apply below_drew1) | exact HB.out)))); (case aL => have := LMc8.out; omega); intro v152 w10 ho hb hg hat; rw [← Ny151.out] at ho; have n0_ := Aside0.mk (hb); have n1_ := Aside0.mk (ho); clear HB; clear HO_5; have HB := n0_; have HO153 := n1_; clear n0_ n1_; clear ho hb hg hat))
              go_roundg k1
              case measure => have := HK1.out; omega
              case rel => exact ⟨(y151), (wrap64 (x6_1 + 1)), (by first | rfl | (simp; done) | (simp [*]; done) | (simp [q_ne_nil]; done)), H', ⟨by have := HK1.out; omega⟩, ⟨by (with_reducible repeat (first | apply Kd.R_alloc | apply Kd.R_drewN | apply Kd.R_drew)); exact HO153.out⟩, ⟨by repeat (first | (with_reducible first | exact HB.out | apply below_alloc | apply pw_below_drewN | apply below_drew1) | exact HB.out)⟩⟩
            · rw [if_neg c8] at H
              exact absurd H (by simp)
          · replace c6 := Bool.eq_false_iff.mpr c6
            subst c6
            have H1 : (glacisref07_Values.l0 k1 l0 a1 x5_1 (wrap64 (x6_1 + 1))) = some r := by rw [if_neg (show ¬ (false = true) by decide)] at H; exact H
            clear H
            have H := H1
            clear H1
            have H' := Aside0.mk H
            clear H
            have p147 : 0 ≤ (x6_1 : Int) := of_decide_eq_true (by first | (with_reducible assumption) | assumption)
            have q147 : x6_1 < (l0.length : Int) := of_decide_eq_true (by first | (with_reducible assumption) | assumption)
            obtain ⟨ad147, e147, hx147_0, hx147_1⟩ := at_T28 HR0.out x6_1 p147 q147
            cases e147
            replace hx147_0 := (HB.out.cell (World.block_lt_of_cell? w _ hx147_0)).trans hx147_0
            replace hx147_1 := (HB.out.cell (World.block_lt_of_cell? w _ hx147_1)).trans hx147_1
            replace p147 := eq_true p147
            replace q147 := eq_true q147
            go_wp2_with (first | ((with_reducible refine gate_callee (f := 44) rfl ?_); refine goesL_ (some 20) rfl rfl Tryd.func44 (by kernel_rfl) rfl #[.string ((rd_T28 l0 x6_1).f0), .string a1] rfl (by (try simp only [List.map_toArray, List.map_cons, List.map_nil]); first | done | rfl | (simp only [List.length_drop, List.length_take]; rfl)) ?_; (with_reducible refine (glacisref01_Fold.calls ((rd_T28 l0 x6_1).f0) a1 false _ A5.out).mono ?_); rintro e w11 ⟨rfl, hb⟩; refine ⟨_, rfl, ?_⟩; have n0_ := Aside0.mk (Kd.R_below (by (with_reducible repeat (first | apply Kd.R_alloc | apply Kd.R_drewN | apply Kd.R_drew)); exact HO_5.out) hb); have n1_ := Aside0.mk (below_step (by repeat (first | (with_reducible first | exact HB.out | apply below_alloc | apply pw_below_drewN | apply below_drew1) | exact HB.out)) hb); clear HO_5; clear HB; have HO_5 := n0_; have HB := n1_; clear n0_ n1_; (try clear hb); (try clear hb2); (try clear hk); (try clear hi)))
            go_roundg k1
            case measure => have := HK1.out; omega
            case rel => exact ⟨(x5_1), (wrap64 (x6_1 + 1)), (by first | rfl | (simp; done) | (simp [*]; done) | (simp [q_ne_nil]; done)), H', ⟨by have := HK1.out; omega⟩, ⟨by (with_reducible repeat (first | apply Kd.R_alloc | apply Kd.R_drewN | apply Kd.R_drew)); exact HO_5.out⟩, ⟨by repeat (first | (with_reducible first | exact HB.out | apply below_alloc | apply pw_below_drewN | apply below_drew1) | exact HB.out)⟩⟩
        · rw [if_neg c4] at H
          exact absurd H (by simp)
      · rw [if_neg c3] at H
        have c3b0 : decide (x6_1 < (l0.length : Int)) = false := decide_eq_false c3
        clear c3
        obtain rfl := Option.some.inj H
        go_wp2
        go_ret
        exact ⟨_, by first | rfl | (simp [errW_none, errW_some] <;> rfl) | (simp [*, errW_none, errW_some] <;> rfl) | (simp [q_ne_nil]; done), by (with_reducible repeat (first | apply Kd.R_alloc | apply Kd.R_drewN | apply Kd.R_drew)); exact HO_5.out, by repeat (first | (with_reducible first | exact HB.out | apply below_alloc | apply pw_below_drewN | apply below_drew1) | exact HB.out)⟩

/-! ### glacisref07_Combined: function 21 -/
def glacisref07_Combined.l0 : Nat → List ByteArray → ByteArray → Int → Option (ByteArray × Bool)
  | 0, _, _, _ => none
  | k + 1, x6, x7, x8 => if x8 < (x6.length : Int) then (if x8 > 0 then (if x7.size + 2 ≤ 9223372036854775807 then (if 0 ≤ x8 then (if (x7 ++ (⟨#[44, 32]⟩ : ByteArray)).size + (rdOf ByteArray.empty x6 x8).size ≤ 9223372036854775807 then (glacisref07_Combined.l0 k x6 ((x7 ++ (⟨#[44, 32]⟩ : ByteArray)) ++ (rdOf ByteArray.empty x6 x8)) (wrap64 (x8 + 1))) else (none)) else (none)) else (none)) else (if 0 ≤ x8 then (if x7.size + (rdOf ByteArray.empty x6 x8).size ≤ 9223372036854775807 then (glacisref07_Combined.l0 k x6 (x7 ++ (rdOf ByteArray.empty x6 x8)) (wrap64 (x8 + 1))) else (none)) else (none))) else (some (x7, decide ((x6.length : Int) > 0)))
def glacisref07_Combined.f (k : Nat) (l0 : List (S28)) (a1 : ByteArray) : Option (ByteArray × Bool) := (glacisref07_Values.f k l0 a1).bind fun t154 => (glacisref07_Combined.l0 k t154 (⟨#[]⟩ : ByteArray) 0)
theorem glacisref07_Combined.mono_l : ∀ k, (∀ y0 y1 y2, LeO (glacisref07_Combined.l0 k y0 y1 y2) (glacisref07_Combined.l0 (k + 1) y0 y1 y2))
  | 0 => fun _ _ _ r h => by simp [glacisref07_Combined.l0] at h
  | k + 1 => by
    have ih0 := glacisref07_Combined.mono_l k
    · intro y0 y1 y2
      unfold glacisref07_Combined.l0
      repeat' first
      | (with_reducible exact ih0 _ _ _)
      | (with_reducible exact glacisref07_Values.mono _ _ _)
      | (with_reducible exact LeO.refl _)
      | (with_reducible exact LeO.none _)
      | (with_reducible refine LeO.ite ?_ ?_)
      | (with_reducible refine LeO.bind ?_ (fun _ => ?_))
      | exact ih0 _ _ _
      | exact glacisref07_Values.mono _ _ _
      | exact LeO.none _
      | refine LeO.ite ?_ ?_
      | refine LeO.bind ?_ (fun _ => ?_)
theorem glacisref07_Combined.mono : ∀ a0 a1 k, LeO (glacisref07_Combined.f k a0 a1) (glacisref07_Combined.f (k + 1) a0 a1) := by
  intro a0 a1 k
  have ih0 := glacisref07_Combined.mono_l k
  unfold glacisref07_Combined.f
  repeat' first
      | (with_reducible exact ih0 _ _ _)
      | (with_reducible exact glacisref07_Values.mono _ _ _)
      | (with_reducible exact LeO.refl _)
      | (with_reducible exact LeO.none _)
      | (with_reducible refine LeO.ite ?_ ?_)
      | (with_reducible refine LeO.bind ?_ (fun _ => ?_))
      | exact ih0 _ _ _
      | exact glacisref07_Values.mono _ _ _
      | exact LeO.none _
      | refine LeO.ite ?_ ?_
      | refine LeO.bind ?_ (fun _ => ?_)
set_option maxHeartbeats 8000000 in
set_option maxRecDepth 100000 in
theorem glacisref07_Combined.calls (k : Nat) (A0 : Option Addr) (c0 : Nat) (l0 : List (S28)) (a1 : ByteArray) (r1 : ByteArray) (r2 : Bool) (w : World) (hr0 : Kd.C k28 w A0 l0.length l0) (hc0 : l0.length ≤ c0) (h : glacisref07_Combined.f k l0 a1 = some (r1, r2)) :
    Calls Tryd.prog 21 #[.slice A0 l0.length c0, .string a1] w fun e w' => e = .returned (.tuple #[.string r1, .bool r2]) ∧ Below w.heap.size w w' := by
  have HR0 := Aside0.mk hr0
  have HC0 := Aside0.mk hc0
  clear hr0 hc0
  have HB := Aside0.mk (Below.refl w.heap.size w)
  have H : ((glacisref07_Values.f k l0 a1).bind fun t154 => (glacisref07_Combined.l0 k t154 (⟨#[]⟩ : ByteArray) 0)) = some (r1, r2) := h
  clear h
  replace H := Option.bind_eq_some_iff.mp H
  obtain ⟨t154, A30, H⟩ := H
  replace H : (glacisref07_Combined.l0 k t154 (⟨#[]⟩ : ByteArray) 0) = some (r1, r2) := H
  have A3 := Aside0.mk A30
  clear A30
  have H' := Aside0.mk H
  clear H
  go_enter Tryd.func21, Tryd.ntmps21
  go_wp2_with (first | ((with_reducible refine gate_callee (f := 30) rfl ?_); refine goesL_ (some 11) rfl rfl Tryd.func30 (by kernel_rfl) rfl #[.slice A0 l0.length c0, .string a1] rfl (by (try simp only [List.map_toArray, List.map_cons, List.map_nil]); first | done | rfl | (simp only [List.length_drop, List.length_take]; rfl)) ?_; (with_reducible refine (glacisref07_Values.calls k _ _ l0 a1 t154 _ ?side1 ?side2 A3.out).mono ?_); (case side1 => repeat (first | exact HR0.out | (with_reducible refine Kd.C_alloc ?_ _) | (with_reducible refine Kd.C_drewN ?_ _) | (with_reducible refine Kd.C_drew ?_))); (case side2 => exact HC0.out); rintro e w4 ⟨v155, rfl, ho0, hb⟩; refine ⟨_, rfl, ?_⟩; have n0_ := Aside0.mk (Kd.R_lower ho0 (below_size (by repeat (first | (with_reducible first | exact HB.out | apply below_alloc | apply pw_below_drewN | apply below_drew1) | exact HB.out)))); have n1_ := Aside0.mk (below_step (by repeat (first | (with_reducible first | exact HB.out | apply below_alloc | apply pw_below_drewN | apply below_drew1) | exact HB.out)) hb); clear HB; have HO156 := n0_; have HB := n1_; clear n0_ n1_; (try clear hb); (try clear hb2); (try clear hk); (try clear hi); (try clear ho0)))
  go_loopg [7, 8] k (fun kq v7 v8 w' => ∃ (x7_1 : ByteArray) (x8_1 : Int), v7 = .string x7_1 ∧ v8 = .int .i64 x8_1 ∧ Aside0 (glacisref07_Combined.l0 kq t154 x7_1 x8_1 = some (r1, r2)) ∧ Aside0 (kq ≤ k) ∧ Aside0 (Kd.R Kd.string 9 w' w.heap.size (fun _ => True) v155 t154) ∧ Aside0 (Below w.heap.size w w'))
  case atStart => exact ⟨((⟨#[]⟩ : ByteArray)), (0), (by first | rfl | (simp; done) | (simp [*]; done) | (simp [q_ne_nil]; done)), (by first | rfl | (simp; done) | (simp [*]; done) | (simp [q_ne_nil]; done)), H', ⟨Nat.le_refl _⟩, ⟨by (with_reducible repeat (first | apply Kd.R_alloc | apply Kd.R_drewN | apply Kd.R_drew)); exact HO156.out⟩, ⟨by repeat (first | (with_reducible first | exact HB.out | apply below_alloc | apply pw_below_drewN | apply below_drew1) | exact HB.out)⟩⟩
  case round =>
    clear H'
    try clear c2
    try clear p2
    try clear c3
    obtain ⟨x7_1, x8_1, rfl, rfl, HA, HK1, HO_6, HB⟩ := hrel
    cases gk with
    | zero => exact absurd HA.out (by simp [glacisref07_Combined.l0])
    | succ k1 =>
      have H := HA.out
      clear HA
      simp only [glacisref07_Combined.l0] at H
      by_cases c5 : x8_1 < (t154.length : Int)
      · rw [if_pos c5] at H
        have c5b0 : decide (x8_1 < (t154.length : Int)) = true := decide_eq_true c5
        clear c5
        by_cases c6 : x8_1 > 0
        · rw [if_pos c6] at H
          have c6b0 : decide (0 < x8_1) = true := decide_eq_true c6
          clear c6
          by_cases c7 : x7_1.size + 2 ≤ 9223372036854775807
          · rw [if_pos c7] at H
            have c7b0 := eq_true c7
            have c7b1 : decide (x7_1.size + 2 ≤ 9223372036854775807) = true := decide_eq_true c7
            try have c7b2 : (9223372036854775807 < x7_1.size + 2) = False := eq_false (Nat.not_lt.2 c7)
            by_cases c8 : 0 ≤ x8_1
            · rw [if_pos c8] at H
              have c8b0 : decide (0 ≤ x8_1) = true := decide_eq_true c8
              clear c8
              by_cases c9 : (x7_1 ++ (⟨#[44, 32]⟩ : ByteArray)).size + (rdOf ByteArray.empty t154 x8_1).size ≤ 9223372036854775807
              · rw [if_pos c9] at H
                have c9b0 := eq_true c9
                have c9b1 : decide ((x7_1 ++ (⟨#[44, 32]⟩ : ByteArray)).size + (rdOf ByteArray.empty t154 x8_1).size ≤ 9223372036854775807) = true := decide_eq_true c9
                try have c9b2 : (9223372036854775807 < (x7_1 ++ (⟨#[44, 32]⟩ : ByteArray)).size + (rdOf ByteArray.empty t154 x8_1).size) = False := eq_false (Nat.not_lt.2 c9)
                have H' := Aside0.mk H
                clear H
                obtain ⟨Ao10, co10, eo10⟩ := Kd.R_slice HO_6.out
                subst eo10
                have p157 : 0 ≤ (x8_1 : Int) := of_decide_eq_true (by first | (with_reducible assumption) | assumption)
                have q157 : x8_1 < (t154.length : Int) := of_decide_eq_true (by first | (with_reducible assumption) | assumption)
                obtain ⟨ad157, e157, hx157_0⟩ := Kd.at_string (Kd.R_reads' HO_6.out).2.2 x8_1 p157 q157
                cases e157
                replace p157 := eq_true p157
                replace q157 := eq_true q157
                go_wp2
                go_roundg k1
                case measure => have := HK1.out; omega
                case rel => exact ⟨((x7_1 ++ (⟨#[44, 32]⟩ : ByteArray)) ++ (rdOf ByteArray.empty t154 x8_1)), (wrap64 (x8_1 + 1)), (by first | rfl | (simp; done) | (simp [*]; done) | (simp [q_ne_nil]; done)), (by first | rfl | (simp; done) | (simp [*]; done) | (simp [q_ne_nil]; done)), H', ⟨by have := HK1.out; omega⟩, ⟨by (with_reducible repeat (first | apply Kd.R_alloc | apply Kd.R_drewN | apply Kd.R_drew)); exact HO_6.out⟩, ⟨by repeat (first | (with_reducible first | exact HB.out | apply below_alloc | apply pw_below_drewN | apply below_drew1) | exact HB.out)⟩⟩
              · rw [if_neg c9] at H
                exact absurd H (by simp)
            · rw [if_neg c8] at H
              exact absurd H (by simp)
          · rw [if_neg c7] at H
            exact absurd H (by simp)
        · rw [if_neg c6] at H
          have c6b0 : decide (0 < x8_1) = false := decide_eq_false c6
          clear c6
          by_cases c11 : 0 ≤ x8_1
          · rw [if_pos c11] at H
            have c11b0 : decide (0 ≤ x8_1) = true := decide_eq_true c11
            clear c11
            by_cases c12 : x7_1.size + (rdOf ByteArray.empty t154 x8_1).size ≤ 9223372036854775807
            · rw [if_pos c12] at H
              have c12b0 := eq_true c12
              have c12b1 : decide (x7_1.size + (rdOf ByteArray.empty t154 x8_1).size ≤ 9223372036854775807) = true := decide_eq_true c12
              try have c12b2 : (9223372036854775807 < x7_1.size + (rdOf ByteArray.empty t154 x8_1).size) = False := eq_false (Nat.not_lt.2 c12)
              have H' := Aside0.mk H
              clear H
              obtain ⟨Ao13, co13, eo13⟩ := Kd.R_slice HO_6.out
              subst eo13
              have p158 : 0 ≤ (x8_1 : Int) := of_decide_eq_true (by first | (with_reducible assumption) | assumption)
              have q158 : x8_1 < (t154.length : Int) := of_decide_eq_true (by first | (with_reducible assumption) | assumption)
              obtain ⟨ad158, e158, hx158_0⟩ := Kd.at_string (Kd.R_reads' HO_6.out).2.2 x8_1 p158 q158
              cases e158
              replace p158 := eq_true p158
              replace q158 := eq_true q158
              go_wp2
              go_roundg k1
              case measure => have := HK1.out; omega
              case rel => exact ⟨(x7_1 ++ (rdOf ByteArray.empty t154 x8_1)), (wrap64 (x8_1 + 1)), (by first | rfl | (simp; done) | (simp [*]; done) | (simp [q_ne_nil]; done)), (by first | rfl | (simp; done) | (simp [*]; done) | (simp [q_ne_nil]; done)), H', ⟨by have := HK1.out; omega⟩, ⟨by (with_reducible repeat (first | apply Kd.R_alloc | apply Kd.R_drewN | apply Kd.R_drew)); exact HO_6.out⟩, ⟨by repeat (first | (with_reducible first | exact HB.out | apply below_alloc | apply pw_below_drewN | apply below_drew1) | exact HB.out)⟩⟩
            · rw [if_neg c12] at H
              exact absurd H (by simp)
          · rw [if_neg c11] at H
            exact absurd H (by simp)
      · rw [if_neg c5] at H
        have c5b0 : decide (x8_1 < (t154.length : Int)) = false := decide_eq_false c5
        clear c5
        simp only [Option.some.injEq, Prod.mk.injEq] at H
        obtain ⟨rfl, rfl⟩ := H
        obtain ⟨Ao14, co14, eo14⟩ := Kd.R_slice HO_6.out
        subst eo14
        go_wp2
        go_ret2
        exact ⟨by first | rfl | (simp [errW_none, errW_some] <;> rfl) | (simp [*, errW_none, errW_some] <;> rfl) | (simp [q_ne_nil]; done), by repeat (first | (with_reducible first | exact HB.out | apply below_alloc | apply pw_below_drewN | apply below_drew1) | exact HB.out)⟩

/-! ### glacisref09_Corp: function 12 -/
def glacisref09_Corp.f (k : Nat) (l0 : List (S28)) : Option (Int) := (glacisref07_Combined.f k l0 (⟨#[99, 114, 111, 115, 115, 45, 111, 114, 105, 103, 105, 110, 45, 114, 101, 115, 111, 117, 114, 99, 101, 45, 112, 111, 108, 105, 99, 121]⟩ : ByteArray)).bind fun bt159 => (if bt159.1.toList = ([115, 97, 109, 101, 45, 111, 114, 105, 103, 105, 110] : List UInt8) then (some 1) else (if bt159.1.toList = ([115, 97, 109, 101, 45, 115, 105, 116, 101] : List UInt8) then (some 2) else (if bt159.1.toList = ([99, 114, 111, 115, 115, 45, 111, 114, 105, 103, 105, 110] : List UInt8) then (some 3) else (some 0))))
theorem glacisref09_Corp.mono : ∀ a0 k, LeO (glacisref09_Corp.f k a0) (glacisref09_Corp.f (k + 1) a0) := by
  intro a0 k
  unfold glacisref09_Corp.f
  repeat' first
      | (with_reducible exact glacisref07_Combined.mono _ _ _)
      | (with_reducible exact LeO.refl _)
      | (with_reducible exact LeO.none _)
      | (with_reducible refine LeO.ite ?_ ?_)
      | (with_reducible refine LeO.bind ?_ (fun _ => ?_))
      | exact glacisref07_Combined.mono _ _ _
      | exact LeO.none _
      | refine LeO.ite ?_ ?_
      | refine LeO.bind ?_ (fun _ => ?_)
set_option maxHeartbeats 8000000 in
set_option maxRecDepth 100000 in
theorem glacisref09_Corp.calls (k : Nat) (A0 : Option Addr) (c0 : Nat) (l0 : List (S28)) (r : Int) (w : World) (hr0 : Kd.C k28 w A0 l0.length l0) (hc0 : l0.length ≤ c0) (h : glacisref09_Corp.f k l0 = some r) :
    Calls Tryd.prog 12 #[.slice A0 l0.length c0] w fun e w' => e = .returned (.int .i64 r) ∧ Below w.heap.size w w' := by
  have HR0 := Aside0.mk hr0
  have HC0 := Aside0.mk hc0
  clear hr0 hc0
  have HB := Aside0.mk (Below.refl w.heap.size w)
  have H : ((glacisref07_Combined.f k l0 (⟨#[99, 114, 111, 115, 115, 45, 111, 114, 105, 103, 105, 110, 45, 114, 101, 115, 111, 117, 114, 99, 101, 45, 112, 111, 108, 105, 99, 121]⟩ : ByteArray)).bind fun bt159 => (if bt159.1.toList = ([115, 97, 109, 101, 45, 111, 114, 105, 103, 105, 110] : List UInt8) then (some 1) else (if bt159.1.toList = ([115, 97, 109, 101, 45, 115, 105, 116, 101] : List UInt8) then (some 2) else (if bt159.1.toList = ([99, 114, 111, 115, 115, 45, 111, 114, 105, 103, 105, 110] : List UInt8) then (some 3) else (some 0))))) = some r := h
  clear h
  replace H := Option.bind_eq_some_iff.mp H
  obtain ⟨⟨t159, t160⟩, A20, H⟩ := H
  replace H : (if t159.toList = ([115, 97, 109, 101, 45, 111, 114, 105, 103, 105, 110] : List UInt8) then (some 1) else (if t159.toList = ([115, 97, 109, 101, 45, 115, 105, 116, 101] : List UInt8) then (some 2) else (if t159.toList = ([99, 114, 111, 115, 115, 45, 111, 114, 105, 103, 105, 110] : List UInt8) then (some 3) else (some 0)))) = some r := H
  have A2 := Aside0.mk A20
  clear A20
  by_cases c3 : t159.toList = ([115, 97, 109, 101, 45, 111, 114, 105, 103, 105, 110] : List UInt8)
  · rw [if_pos c3] at H
    have c3b0 : (t159.toList == ([115, 97, 109, 101, 45, 111, 114, 105, 103, 105, 110] : List UInt8)) = true := beq_iff_eq.mpr c3
    have c3b1 : (t159.toList != ([115, 97, 109, 101, 45, 111, 114, 105, 103, 105, 110] : List UInt8)) = false := bne_eq_false_iff_eq.mpr c3
    clear c3
    obtain rfl := Option.some.inj H
    go_enter Tryd.func12, Tryd.ntmps12
    go_wp2_with (first | ((with_reducible refine gate_callee (f := 21) rfl ?_); refine goesL_ (some 7) rfl rfl Tryd.func21 (by kernel_rfl) rfl #[.slice A0 l0.length c0, .string (⟨#[99, 114, 111, 115, 115, 45, 111, 114, 105, 103, 105, 110, 45, 114, 101, 115, 111, 117, 114, 99, 101, 45, 112, 111, 108, 105, 99, 121]⟩ : ByteArray)] rfl (by (try simp only [List.map_toArray, List.map_cons, List.map_nil]); first | done | rfl | (simp only [List.length_drop, List.length_take]; rfl)) ?_; (with_reducible refine (glacisref07_Combined.calls k _ _ l0 (⟨#[99, 114, 111, 115, 115, 45, 111, 114, 105, 103, 105, 110, 45, 114, 101, 115, 111, 117, 114, 99, 101, 45, 112, 111, 108, 105, 99, 121]⟩ : ByteArray) t159 t160 _ ?side1 ?side2 A2.out).mono ?_); (case side1 => repeat (first | exact HR0.out | (with_reducible refine Kd.C_alloc ?_ _) | (with_reducible refine Kd.C_drewN ?_ _) | (with_reducible refine Kd.C_drew ?_))); (case side2 => exact HC0.out); rintro e w4 ⟨rfl, hb⟩; refine ⟨_, rfl, ?_⟩; have n0_ := Aside0.mk (below_step (by repeat (first | (with_reducible first | exact HB.out | apply below_alloc | apply pw_below_drewN | apply below_drew1) | exact HB.out)) hb); clear HB; have HB := n0_; clear n0_; (try clear hb); (try clear hb2); (try clear hk); (try clear hi)))
    go_ret
    exact ⟨by first | rfl | (simp [errW_none, errW_some] <;> rfl) | (simp [*, errW_none, errW_some] <;> rfl) | (simp [q_ne_nil]; done), by repeat (first | (with_reducible first | exact HB.out | apply below_alloc | apply pw_below_drewN | apply below_drew1) | exact HB.out)⟩
  · rw [if_neg c3] at H
    have c3b0 : (t159.toList == ([115, 97, 109, 101, 45, 111, 114, 105, 103, 105, 110] : List UInt8)) = false := beq_eq_false_iff_ne.mpr c3
    have c3b1 : (t159.toList != ([115, 97, 109, 101, 45, 111, 114, 105, 103, 105, 110] : List UInt8)) = true := bne_iff_ne.mpr c3
    by_cases c5 : t159.toList = ([115, 97, 109, 101, 45, 115, 105, 116, 101] : List UInt8)
    · rw [if_pos c5] at H
      have c5b0 : (t159.toList == ([115, 97, 109, 101, 45, 115, 105, 116, 101] : List UInt8)) = true := beq_iff_eq.mpr c5
      have c5b1 : (t159.toList != ([115, 97, 109, 101, 45, 115, 105, 116, 101] : List UInt8)) = false := bne_eq_false_iff_eq.mpr c5
      clear c5
      obtain rfl := Option.some.inj H
      go_enter Tryd.func12, Tryd.ntmps12
      go_wp2_with (first | ((with_reducible refine gate_callee (f := 21) rfl ?_); refine goesL_ (some 7) rfl rfl Tryd.func21 (by kernel_rfl) rfl #[.slice A0 l0.length c0, .string (⟨#[99, 114, 111, 115, 115, 45, 111, 114, 105, 103, 105, 110, 45, 114, 101, 115, 111, 117, 114, 99, 101, 45, 112, 111, 108, 105, 99, 121]⟩ : ByteArray)] rfl (by (try simp only [List.map_toArray, List.map_cons, List.map_nil]); first | done | rfl | (simp only [List.length_drop, List.length_take]; rfl)) ?_; (with_reducible refine (glacisref07_Combined.calls k _ _ l0 (⟨#[99, 114, 111, 115, 115, 45, 111, 114, 105, 103, 105, 110, 45, 114, 101, 115, 111, 117, 114, 99, 101, 45, 112, 111, 108, 105, 99, 121]⟩ : ByteArray) t159 t160 _ ?side1 ?side2 A2.out).mono ?_); (case side1 => repeat (first | exact HR0.out | (with_reducible refine Kd.C_alloc ?_ _) | (with_reducible refine Kd.C_drewN ?_ _) | (with_reducible refine Kd.C_drew ?_))); (case side2 => exact HC0.out); rintro e w6 ⟨rfl, hb⟩; refine ⟨_, rfl, ?_⟩; have n0_ := Aside0.mk (below_step (by repeat (first | (with_reducible first | exact HB.out | apply below_alloc | apply pw_below_drewN | apply below_drew1) | exact HB.out)) hb); clear HB; have HB := n0_; clear n0_; (try clear hb); (try clear hb2); (try clear hk); (try clear hi)))
      go_ret
      exact ⟨by first | rfl | (simp [errW_none, errW_some] <;> rfl) | (simp [*, errW_none, errW_some] <;> rfl) | (simp [q_ne_nil]; done), by repeat (first | (with_reducible first | exact HB.out | apply below_alloc | apply pw_below_drewN | apply below_drew1) | exact HB.out)⟩
    · rw [if_neg c5] at H
      have c5b0 : (t159.toList == ([115, 97, 109, 101, 45, 115, 105, 116, 101] : List UInt8)) = false := beq_eq_false_iff_ne.mpr c5
      have c5b1 : (t159.toList != ([115, 97, 109, 101, 45, 115, 105, 116, 101] : List UInt8)) = true := bne_iff_ne.mpr c5
      by_cases c7 : t159.toList = ([99, 114, 111, 115, 115, 45, 111, 114, 105, 103, 105, 110] : List UInt8)
      · rw [if_pos c7] at H
        have c7b0 : (t159.toList == ([99, 114, 111, 115, 115, 45, 111, 114, 105, 103, 105, 110] : List UInt8)) = true := beq_iff_eq.mpr c7
        have c7b1 : (t159.toList != ([99, 114, 111, 115, 115, 45, 111, 114, 105, 103, 105, 110] : List UInt8)) = false := bne_eq_false_iff_eq.mpr c7
        clear c7
        obtain rfl := Option.some.inj H
        go_enter Tryd.func12, Tryd.ntmps12
        go_wp2_with (first | ((with_reducible refine gate_callee (f := 21) rfl ?_); refine goesL_ (some 7) rfl rfl Tryd.func21 (by kernel_rfl) rfl #[.slice A0 l0.length c0, .string (⟨#[99, 114, 111, 115, 115, 45, 111, 114, 105, 103, 105, 110, 45, 114, 101, 115, 111, 117, 114, 99, 101, 45, 112, 111, 108, 105, 99, 121]⟩ : ByteArray)] rfl (by (try simp only [List.map_toArray, List.map_cons, List.map_nil]); first | done | rfl | (simp only [List.length_drop, List.length_take]; rfl)) ?_; (with_reducible refine (glacisref07_Combined.calls k _ _ l0 (⟨#[99, 114, 111, 115, 115, 45, 111, 114, 105, 103, 105, 110, 45, 114, 101, 115, 111, 117, 114, 99, 101, 45, 112, 111, 108, 105, 99, 121]⟩ : ByteArray) t159 t160 _ ?side1 ?side2 A2.out).mono ?_); (case side1 => repeat (first | exact HR0.out | (with_reducible refine Kd.C_alloc ?_ _) | (with_reducible refine Kd.C_drewN ?_ _) | (with_reducible refine Kd.C_drew ?_))); (case side2 => exact HC0.out); rintro e w8 ⟨rfl, hb⟩; refine ⟨_, rfl, ?_⟩; have n0_ := Aside0.mk (below_step (by repeat (first | (with_reducible first | exact HB.out | apply below_alloc | apply pw_below_drewN | apply below_drew1) | exact HB.out)) hb); clear HB; have HB := n0_; clear n0_; (try clear hb); (try clear hb2); (try clear hk); (try clear hi)))
        go_ret
        exact ⟨by first | rfl | (simp [errW_none, errW_some] <;> rfl) | (simp [*, errW_none, errW_some] <;> rfl) | (simp [q_ne_nil]; done), by repeat (first | (with_reducible first | exact HB.out | apply below_alloc | apply pw_below_drewN | apply below_drew1) | exact HB.out)⟩
      · rw [if_neg c7] at H
        have c7b0 : (t159.toList == ([99, 114, 111, 115, 115, 45, 111, 114, 105, 103, 105, 110] : List UInt8)) = false := beq_eq_false_iff_ne.mpr c7
        have c7b1 : (t159.toList != ([99, 114, 111, 115, 115, 45, 111, 114, 105, 103, 105, 110] : List UInt8)) = true := bne_iff_ne.mpr c7
        obtain rfl := Option.some.inj H
        go_enter Tryd.func12, Tryd.ntmps12
        go_wp2_with (first | ((with_reducible refine gate_callee (f := 21) rfl ?_); refine goesL_ (some 7) rfl rfl Tryd.func21 (by kernel_rfl) rfl #[.slice A0 l0.length c0, .string (⟨#[99, 114, 111, 115, 115, 45, 111, 114, 105, 103, 105, 110, 45, 114, 101, 115, 111, 117, 114, 99, 101, 45, 112, 111, 108, 105, 99, 121]⟩ : ByteArray)] rfl (by (try simp only [List.map_toArray, List.map_cons, List.map_nil]); first | done | rfl | (simp only [List.length_drop, List.length_take]; rfl)) ?_; (with_reducible refine (glacisref07_Combined.calls k _ _ l0 (⟨#[99, 114, 111, 115, 115, 45, 111, 114, 105, 103, 105, 110, 45, 114, 101, 115, 111, 117, 114, 99, 101, 45, 112, 111, 108, 105, 99, 121]⟩ : ByteArray) t159 t160 _ ?side1 ?side2 A2.out).mono ?_); (case side1 => repeat (first | exact HR0.out | (with_reducible refine Kd.C_alloc ?_ _) | (with_reducible refine Kd.C_drewN ?_ _) | (with_reducible refine Kd.C_drew ?_))); (case side2 => exact HC0.out); rintro e w9 ⟨rfl, hb⟩; refine ⟨_, rfl, ?_⟩; have n0_ := Aside0.mk (below_step (by repeat (first | (with_reducible first | exact HB.out | apply below_alloc | apply pw_below_drewN | apply below_drew1) | exact HB.out)) hb); clear HB; have HB := n0_; clear n0_; (try clear hb); (try clear hb2); (try clear hk); (try clear hi)))
        go_ret
        exact ⟨by first | rfl | (simp [errW_none, errW_some] <;> rfl) | (simp [*, errW_none, errW_some] <;> rfl) | (simp [q_ne_nil]; done), by repeat (first | (with_reducible first | exact HB.out | apply below_alloc | apply pw_below_drewN | apply below_drew1) | exact HB.out)⟩

end Go.Proofs.YtbhokhidlgkakaaDoor.Q
