-- Laid by this seat's own driver (wip/tools/drive.py) out of the translation.
import Derived.Test.YtkjlhhhnananlaaDoorQx0
import Derived.Test.YtkjlhhhnananlaaDoorQx2
import Derived.Test.YtkjlhhhnananlaaDoorQx3
import Derived.Test.YtkjlhhhnananlaaDoorQx4
namespace Go.Proofs.YtkjlhhhnananlaaDoor.Q
open Go.RowKit Go.Proofs.YtkjlhhhnananlaaDoorW.PrintWords Go.Proofs.YtkjlhhhnananlaaDoorW.PrintLast Go.Proofs.YtkjlhhhnananlaaDoorW.PrintMore
attribute [local go_sem] max2_int min2_int max_two min_two max_three min_three max_four min_four   -- for this text's walks alone
set_option linter.unusedVariables false
set_option linter.unusedSimpArgs false

/-! ### glacisref01_Fold: function 36 -/
def glacisref01_Fold.f (a0 : ByteArray) (a1 : ByteArray) : Option (Bool) := (glacisref01_Lower.f a0).bind fun t211 => ((glacisref01_Lower.f a1).bind fun t212 => (some (t211.toList == t212.toList)))
set_option maxHeartbeats 8000000 in
set_option maxRecDepth 100000 in
theorem glacisref01_Fold.calls (a0 : ByteArray) (a1 : ByteArray) (r : Bool) (w : World) (h : glacisref01_Fold.f a0 a1 = some r) :
    Calls Tryd.prog 36 #[.string a0, .string a1] w fun e w' => e = .returned (.bool r) ∧ Below w.heap.size w w' := by
  have HB := Aside0.mk (Below.refl w.heap.size w)
  have H : ((glacisref01_Lower.f a0).bind fun t211 => ((glacisref01_Lower.f a1).bind fun t212 => (some (t211.toList == t212.toList)))) = some r := h
  clear h
  replace H := Option.bind_eq_some_iff.mp H
  obtain ⟨t211, A30, H⟩ := H
  replace H : ((glacisref01_Lower.f a1).bind fun t212 => (some (t211.toList == t212.toList))) = some r := H
  have A3 := Aside0.mk A30
  clear A30
  replace H := Option.bind_eq_some_iff.mp H
  obtain ⟨t212, A40, H⟩ := H
  replace H : (some (t211.toList == t212.toList)) = some r := H
  have A4 := Aside0.mk A40
  clear A40
  obtain rfl := Option.some.inj H
  go_enter Tryd.func36, Tryd.ntmps36
  go_wp2_with (first | ((with_reducible refine gate_callee (f := 34) rfl ?_); refine goesL_ (some 6) rfl rfl Tryd.func34 (by kernel_rfl) rfl #[.string a0] rfl (by (try simp only [List.map_toArray, List.map_cons, List.map_nil]); first | done | rfl | (simp only [List.length_drop, List.length_take]; rfl)) ?_; (with_reducible refine (glacisref01_Lower.calls a0 t211 _ A3.out).mono ?_); rintro e w5 ⟨rfl, hb⟩; refine ⟨_, rfl, ?_⟩; have n0_ := Aside0.mk (below_step (by repeat (first | (with_reducible first | exact HB.out | apply below_alloc | apply pw_below_drewN | apply below_drew1) | exact HB.out)) hb); clear HB; have HB := n0_; clear n0_; (try clear hb); (try clear hb2); (try clear hk); (try clear hi)) | ((with_reducible refine gate_callee (f := 34) rfl ?_); refine goesL_ (some 8) rfl rfl Tryd.func34 (by kernel_rfl) rfl #[.string a1] rfl (by (try simp only [List.map_toArray, List.map_cons, List.map_nil]); first | done | rfl | (simp only [List.length_drop, List.length_take]; rfl)) ?_; (with_reducible refine (glacisref01_Lower.calls a1 t212 _ A4.out).mono ?_); rintro e w6 ⟨rfl, hb⟩; refine ⟨_, rfl, ?_⟩; have n0_ := Aside0.mk (below_step (by repeat (first | (with_reducible first | exact HB.out | apply below_alloc | apply pw_below_drewN | apply below_drew1) | exact HB.out)) hb); clear HB; have HB := n0_; clear n0_; (try clear hb); (try clear hb2); (try clear hk); (try clear hi)))
  go_ret
  exact ⟨by first | rfl | (simp [errW_none, errW_some] <;> rfl) | (simp [*, errW_none, errW_some] <;> rfl) | (simp [q_ne_nil]; done), by repeat (first | (with_reducible first | exact HB.out | apply below_alloc | apply pw_below_drewN | apply below_drew1) | exact HB.out)⟩

/-! ### glacisref01_Trim: function 37 -/
mutual
def glacisref01_Trim.j1 : Nat → ByteArray → Int → Int → Option (ByteArray)
  | 0, _, _, _ => none
  | k + 1, x0, x3, x4 => glacisref01_Trim.l1 k x0 x3 x4
def glacisref01_Trim.l1 : Nat → ByteArray → Int → Int → Option (ByteArray)
  | 0, _, _, _ => none
  | k + 1, x0, x3, x4 => if x4 > x3 then (if 0 ≤ (wrap64 (x4 - 1)) then (if (wrap64 (x4 - 1)) < (x0.size : Int) then ((glacisref01_Blank.f (bt x0 (wrap64 (x4 - 1)))).bind fun t214 => (if t214 = true then (glacisref01_Trim.l1 k x0 x3 (wrap64 (x4 - 1))) else (if 0 ≤ x3 then (if x3 ≤ x4 then (if x4 ≤ (x0.size : Int) then (some (x0.extract (x3 : Int).toNat (x4 : Int).toNat)) else (none)) else (none)) else (none)))) else (none)) else (none)) else (if 0 ≤ x3 then (if x3 ≤ x4 then (if x4 ≤ (x0.size : Int) then (some (x0.extract (x3 : Int).toNat (x4 : Int).toNat)) else (none)) else (none)) else (none))
def glacisref01_Trim.l0 : Nat → ByteArray → Int → Int → Option (ByteArray)
  | 0, _, _, _ => none
  | k + 1, x0, x3, x4 => if x3 < x4 then (if 0 ≤ x3 then (if x3 < (x0.size : Int) then ((glacisref01_Blank.f (bt x0 x3)).bind fun t213 => (if t213 = true then (glacisref01_Trim.l0 k x0 (wrap64 (x3 + 1)) x4) else (glacisref01_Trim.j1 k x0 x3 x4))) else (none)) else (none)) else (glacisref01_Trim.j1 k x0 x3 x4)
end
def glacisref01_Trim.f (k : Nat) (a0 : ByteArray) : Option (ByteArray) := glacisref01_Trim.l0 k a0 0 (a0.size : Int)
theorem glacisref01_Trim.mono_l : ∀ k, (∀ y0 y1 y2, LeO (glacisref01_Trim.j1 k y0 y1 y2) (glacisref01_Trim.j1 (k + 1) y0 y1 y2)) ∧ (∀ y0 y1 y2, LeO (glacisref01_Trim.l1 k y0 y1 y2) (glacisref01_Trim.l1 (k + 1) y0 y1 y2)) ∧ (∀ y0 y1 y2, LeO (glacisref01_Trim.l0 k y0 y1 y2) (glacisref01_Trim.l0 (k + 1) y0 y1 y2))
  | 0 => ⟨fun _ _ _ r h => by simp [glacisref01_Trim.j1] at h, fun _ _ _ r h => by simp [glacisref01_Trim.l1] at h, fun _ _ _ r h => by simp [glacisref01_Trim.l0] at h⟩
  | k + 1 => by
    obtain ⟨ih0, ih1, ih2⟩ := glacisref01_Trim.mono_l k
    refine ⟨?_, ?_, ?_⟩
    · intro y0 y1 y2
      unfold glacisref01_Trim.j1
      repeat' first
      | (with_reducible exact ih0 _ _ _)
      | (with_reducible exact ih1 _ _ _)
      | (with_reducible exact ih2 _ _ _)
      | (with_reducible exact LeO.refl _)
      | (with_reducible exact LeO.none _)
      | (with_reducible refine LeO.ite ?_ ?_)
      | (with_reducible refine LeO.bind ?_ (fun _ => ?_))
      | exact ih0 _ _ _
      | exact ih1 _ _ _
      | exact ih2 _ _ _
      | exact LeO.none _
      | refine LeO.ite ?_ ?_
      | refine LeO.bind ?_ (fun _ => ?_)
    · intro y0 y1 y2
      unfold glacisref01_Trim.l1
      repeat' first
      | (with_reducible exact ih0 _ _ _)
      | (with_reducible exact ih1 _ _ _)
      | (with_reducible exact ih2 _ _ _)
      | (with_reducible exact LeO.refl _)
      | (with_reducible exact LeO.none _)
      | (with_reducible refine LeO.ite ?_ ?_)
      | (with_reducible refine LeO.bind ?_ (fun _ => ?_))
      | exact ih0 _ _ _
      | exact ih1 _ _ _
      | exact ih2 _ _ _
      | exact LeO.none _
      | refine LeO.ite ?_ ?_
      | refine LeO.bind ?_ (fun _ => ?_)
    · intro y0 y1 y2
      unfold glacisref01_Trim.l0
      repeat' first
      | (with_reducible exact ih0 _ _ _)
      | (with_reducible exact ih1 _ _ _)
      | (with_reducible exact ih2 _ _ _)
      | (with_reducible exact LeO.refl _)
      | (with_reducible exact LeO.none _)
      | (with_reducible refine LeO.ite ?_ ?_)
      | (with_reducible refine LeO.bind ?_ (fun _ => ?_))
      | exact ih0 _ _ _
      | exact ih1 _ _ _
      | exact ih2 _ _ _
      | exact LeO.none _
      | refine LeO.ite ?_ ?_
      | refine LeO.bind ?_ (fun _ => ?_)
theorem glacisref01_Trim.mono : ∀ a0 k, LeO (glacisref01_Trim.f k a0) (glacisref01_Trim.f (k + 1) a0) := by
  intro a0 k
  obtain ⟨ih0, ih1, ih2⟩ := glacisref01_Trim.mono_l k
  unfold glacisref01_Trim.f
  repeat' first
      | (with_reducible exact ih0 _ _ _)
      | (with_reducible exact ih1 _ _ _)
      | (with_reducible exact ih2 _ _ _)
      | (with_reducible exact LeO.refl _)
      | (with_reducible exact LeO.none _)
      | (with_reducible refine LeO.ite ?_ ?_)
      | (with_reducible refine LeO.bind ?_ (fun _ => ?_))
      | exact ih0 _ _ _
      | exact ih1 _ _ _
      | exact ih2 _ _ _
      | exact LeO.none _
      | refine LeO.ite ?_ ?_
      | refine LeO.bind ?_ (fun _ => ?_)
set_option maxHeartbeats 8000000 in
set_option maxRecDepth 100000 in
theorem glacisref01_Trim.calls (k : Nat) (a0 : ByteArray) (r : ByteArray) (w : World) (h : glacisref01_Trim.f k a0 = some r) :
    Calls Tryd.prog 37 #[.string a0] w fun e w' => e = .returned (.string r) ∧ Drawn0 w w' := by
  have H : (glacisref01_Trim.l0 k a0 0 (a0.size : Int)) = some r := h
  clear h
  have HC2 := Aside0.mk H
  clear H
  go_enter Tryd.func37, Tryd.ntmps37
  go_upto_block 0 with (fail)
  go_cut [3] (fun v3 wc => ∃ (kq : Nat) (x3_1 : Int), v3 = .int .i64 x3_1 ∧ Aside0 (glacisref01_Trim.j1 kq a0 x3_1 (a0.size : Int) = some r) ∧ Aside0 (kq ≤ k) ∧ Drawn0 w wc)
  case first =>
    have H := HC2.out
    clear HC2
    have H' := Aside0.mk H
    clear H
    go_wp2
    go_loopg [3] k (fun kq v3 w' => ∃ (x3_1 : Int), v3 = .int .i64 x3_1 ∧ Aside0 (glacisref01_Trim.l0 kq a0 x3_1 (a0.size : Int) = some r) ∧ Aside0 (kq ≤ k) ∧ Drawn0 w w')
    case atStart => exact ⟨(0), (by first | rfl | (simp; done) | (simp [*]; done) | (simp [q_ne_nil]; done)), H', ⟨Nat.le_refl _⟩, by repeat (first | exact Drawn0.refl _ | apply Drawn0.step)⟩
    case round =>
      clear H'
      try clear p2
      obtain ⟨x3_1, rfl, HA, HK1, ⟨m1, rfl⟩⟩ := hrel
      cases gk with
      | zero => exact absurd HA.out (by simp [glacisref01_Trim.l0])
      | succ k1 =>
        have H := HA.out
        clear HA
        simp only [glacisref01_Trim.l0] at H
        by_cases c3 : x3_1 < (a0.size : Int)
        · rw [if_pos c3] at H
          have c3b0 : decide (x3_1 < (a0.size : Int)) = true := decide_eq_true c3
          clear c3
          (first | rw [c3b0] | (simp only [i64_w, i32_w]; rw [c3b0]) | skip)
          by_cases c4 : 0 ≤ x3_1
          · rw [if_pos c4] at H
            have c4b0 : decide (0 ≤ x3_1) = true := decide_eq_true c4
            clear c4
            by_cases c5 : x3_1 < (a0.size : Int)
            · rw [if_pos c5] at H
              have c5b0 : decide (x3_1 < (a0.size : Int)) = true := decide_eq_true c5
              clear c5
              replace H := Option.bind_eq_some_iff.mp H
              obtain ⟨t213, A70, H⟩ := H
              replace H : (if t213 = true then (glacisref01_Trim.l0 k1 a0 (wrap64 (x3_1 + 1)) (a0.size : Int)) else (glacisref01_Trim.j1 k1 a0 x3_1 (a0.size : Int))) = some r := H
              have A7 := Aside0.mk A70
              clear A70
              by_cases c8 : t213 = true
              · subst c8
                have H1 : (glacisref01_Trim.l0 k1 a0 (wrap64 (x3_1 + 1)) (a0.size : Int)) = some r := by rw [if_pos rfl] at H; exact H
                clear H
                have H := H1
                clear H1
                have H' := Aside0.mk H
                clear H
                have p6 : 0 ≤ (x3_1 : Int) := of_decide_eq_true (by first | (with_reducible assumption) | assumption)
                have q6 : x3_1 < (a0.size : Int) := of_decide_eq_true (by first | (with_reducible assumption) | assumption)
                have hx6 := bt_at a0 x3_1
                replace p6 := eq_true p6
                replace q6 := eq_true q6
                go_wp2_with (first | (go_at_call 44; (with_reducible refine (glacisref01_Blank.calls (bt a0 x3_1) true _ A7.out).mono ?_); rintro e w' ⟨rfl, ⟨nd, rfl⟩⟩))
                go_roundg k1
                case measure => have := HK1.out; omega
                case rel => exact ⟨(wrap64 (x3_1 + 1)), (by first | rfl | (simp; done) | (simp [*]; done) | (simp [q_ne_nil]; done)), H', ⟨by have := HK1.out; omega⟩, by repeat (first | exact Drawn0.refl _ | apply Drawn0.step)⟩
              · replace c8 := Bool.eq_false_iff.mpr c8
                subst c8
                have H1 : (glacisref01_Trim.j1 k1 a0 x3_1 (a0.size : Int)) = some r := by rw [if_neg (show ¬ (false = true) by decide)] at H; exact H
                clear H
                have H := H1
                clear H1
                have H' := Aside0.mk H
                clear H
                have p6 : 0 ≤ (x3_1 : Int) := of_decide_eq_true (by first | (with_reducible assumption) | assumption)
                have q6 : x3_1 < (a0.size : Int) := of_decide_eq_true (by first | (with_reducible assumption) | assumption)
                have hx6 := bt_at a0 x3_1
                replace p6 := eq_true p6
                replace q6 := eq_true q6
                go_wp2_with (first | (go_at_call 44; (with_reducible refine (glacisref01_Blank.calls (bt a0 x3_1) false _ A7.out).mono ?_); rintro e w' ⟨rfl, ⟨nd, rfl⟩⟩))
                go_meet
                case rel => exact ⟨_, (x3_1), (by first | rfl | (simp; done) | (simp [*]; done) | (simp [q_ne_nil]; done)), H', ⟨by have := HK1.out; first | omega | exact Nat.le_refl _⟩, by repeat (first | exact Drawn0.refl _ | apply Drawn0.step)⟩
            · rw [if_neg c5] at H
              exact absurd H (by simp)
          · rw [if_neg c4] at H
            exact absurd H (by simp)
        · rw [if_neg c3] at H
          have c3b0 : decide (x3_1 < (a0.size : Int)) = false := decide_eq_false c3
          clear c3
          (first | rw [c3b0] | (simp only [i64_w, i32_w]; rw [c3b0]) | skip)
          have H' := Aside0.mk H
          clear H
          go_wp2
          go_meet
          case rel => exact ⟨_, (x3_1), (by first | rfl | (simp; done) | (simp [*]; done) | (simp [q_ne_nil]; done)), H', ⟨by have := HK1.out; first | omega | exact Nat.le_refl _⟩, by repeat (first | exact Drawn0.refl _ | apply Drawn0.step)⟩
  case rest =>
    clear HC2
    try clear p2
    try clear c3
    try clear c3b0
    try clear c4
    try clear c4b0
    try clear c5
    try clear c5b0
    try clear p6
    try clear q6
    try clear hx6
    try clear c8
    try clear p2
    try clear p6
    try clear q6
    obtain ⟨kq, x3_1, rfl, HA, HJ1, ⟨mc1, rfl⟩⟩ := hcut
    cases kq with
    | zero => exact absurd HA.out (by simp [glacisref01_Trim.j1])
    | succ kj1 =>
      have H := HA.out
      clear HA
      simp only [glacisref01_Trim.j1] at H
      have H' := Aside0.mk H
      clear H
      go_wp2
      go_loopg [4] kj1 (fun kq v4 w' => ∃ (x4_2 : Int), v4 = .int .i64 x4_2 ∧ Aside0 (glacisref01_Trim.l1 kq a0 x3_1 x4_2 = some r) ∧ Aside0 (kq ≤ kj1) ∧ Drawn0 w w')
      case atStart => exact ⟨((a0.size : Int)), (by first | rfl | (simp; done) | (simp [*]; done) | (simp [q_ne_nil]; done)), H', ⟨Nat.le_refl _⟩, by repeat (first | exact Drawn0.refl _ | apply Drawn0.step)⟩
      case round =>
        clear H'
        try clear c1
        try clear p2
        try clear c3
        try clear c3b0
        try clear c4
        try clear c4b0
        try clear c5
        try clear c5b0
        try clear p6
        try clear q6
        try clear hx6
        try clear c8
        try clear p2
        try clear p6
        try clear q6
        obtain ⟨x4_2, rfl, HA, HK2, ⟨m2, rfl⟩⟩ := hrel
        cases gk with
        | zero => exact absurd HA.out (by simp [glacisref01_Trim.l1])
        | succ k2 =>
          have H := HA.out
          clear HA
          simp only [glacisref01_Trim.l1] at H
          by_cases c9 : x4_2 > x3_1
          · rw [if_pos c9] at H
            have c9b0 : decide (x3_1 < x4_2) = true := decide_eq_true c9
            clear c9
            obtain ⟨ji10, hji10⟩ : ∃ j_ : Int, (wrap64 (x4_2 - 1)) = j_ := ⟨_, rfl⟩
            replace H : (if 0 ≤ (ji10) then (if (ji10) < (a0.size : Int) then ((glacisref01_Blank.f (bt a0 (ji10))).bind fun t214 => (if t214 = true then (glacisref01_Trim.l1 k2 a0 x3_1 ji10) else (if 0 ≤ x3_1 then (if x3_1 ≤ x4_2 then (if x4_2 ≤ (a0.size : Int) then (some (a0.extract (x3_1 : Int).toNat (x4_2 : Int).toNat)) else (none)) else (none)) else (none)))) else (none)) else (none)) = some r := by first | (rw [hji10] at H; exact H) | (simp only [hji10] at H ⊢; exact H)
            have hji10w : (IntKind.i64.wrap (x4_2 - 1)) = ji10 := (i64_w _).trans hji10
            by_cases c11 : 0 ≤ (ji10)
            · rw [if_pos c11] at H
              have c11b0 : decide (0 ≤ (ji10)) = true := decide_eq_true c11
              clear c11
              by_cases c12 : (ji10) < (a0.size : Int)
              · rw [if_pos c12] at H
                have c12b0 : decide ((ji10) < (a0.size : Int)) = true := decide_eq_true c12
                clear c12
                replace H := Option.bind_eq_some_iff.mp H
                obtain ⟨t214, A140, H⟩ := H
                replace H : (if t214 = true then (glacisref01_Trim.l1 k2 a0 x3_1 ji10) else (if 0 ≤ x3_1 then (if x3_1 ≤ x4_2 then (if x4_2 ≤ (a0.size : Int) then (some (a0.extract (x3_1 : Int).toNat (x4_2 : Int).toNat)) else (none)) else (none)) else (none))) = some r := H
                have A14 := Aside0.mk A140
                clear A140
                by_cases c15 : t214 = true
                · subst c15
                  have H1 : (glacisref01_Trim.l1 k2 a0 x3_1 ji10) = some r := by rw [if_pos rfl] at H; exact H
                  clear H
                  have H := H1
                  clear H1
                  have H' := Aside0.mk H
                  clear H
                  have p13 : 0 ≤ ((ji10) : Int) := of_decide_eq_true (by first | (with_reducible assumption) | assumption)
                  have q13 : (ji10) < (a0.size : Int) := of_decide_eq_true (by first | (with_reducible assumption) | assumption)
                  have hx13 := bt_at a0 (ji10)
                  replace p13 := eq_true p13
                  replace q13 := eq_true q13
                  go_wp2_with (first | (go_at_call 44; (with_reducible refine (glacisref01_Blank.calls (bt a0 (ji10)) true _ A14.out).mono ?_); rintro e w' ⟨rfl, ⟨nd, rfl⟩⟩))
                  go_roundg k2
                  case measure => have := HJ1.out; have := HK2.out; omega
                  case rel => exact ⟨(ji10), (by first | rfl | (simp; done) | (simp only [← hji10] <;> (first | rfl | simp)) | (simp [*]; done) | (simp [q_ne_nil]; done)), H', ⟨by have := HJ1.out; have := HK2.out; omega⟩, by repeat (first | exact Drawn0.refl _ | apply Drawn0.step)⟩
                · replace c15 := Bool.eq_false_iff.mpr c15
                  subst c15
                  have H1 : (if 0 ≤ x3_1 then (if x3_1 ≤ x4_2 then (if x4_2 ≤ (a0.size : Int) then (some (a0.extract (x3_1 : Int).toNat (x4_2 : Int).toNat)) else (none)) else (none)) else (none)) = some r := by rw [if_neg (show ¬ (false = true) by decide)] at H; exact H
                  clear H
                  have H := H1
                  clear H1
                  by_cases c16 : 0 ≤ x3_1
                  · rw [if_pos c16] at H
                    have c16b0 := eq_true c16
                    have c16b1 : decide (0 ≤ x3_1) = true := decide_eq_true c16
                    clear c16
                    by_cases c17 : x3_1 ≤ x4_2
                    · rw [if_pos c17] at H
                      have c17b0 := eq_true c17
                      have c17b1 : decide (x3_1 ≤ x4_2) = true := decide_eq_true c17
                      clear c17
                      by_cases c18 : x4_2 ≤ (a0.size : Int)
                      · rw [if_pos c18] at H
                        have c18b0 := eq_true c18
                        have c18b1 : decide (x4_2 ≤ (a0.size : Int)) = true := decide_eq_true c18
                        clear c18
                        obtain rfl := Option.some.inj H
                        have p13 : 0 ≤ ((ji10) : Int) := of_decide_eq_true (by first | (with_reducible assumption) | assumption)
                        have q13 : (ji10) < (a0.size : Int) := of_decide_eq_true (by first | (with_reducible assumption) | assumption)
                        have hx13 := bt_at a0 (ji10)
                        replace p13 := eq_true p13
                        replace q13 := eq_true q13
                        go_wp2_with (first | (go_at_call 44; (with_reducible refine (glacisref01_Blank.calls (bt a0 (ji10)) false _ A14.out).mono ?_); rintro e w' ⟨rfl, ⟨nd, rfl⟩⟩))
                        go_ret
                        exact ⟨by first | rfl | (simp; done) | (simp only [← hji10] <;> (first | rfl | simp)) | (simp [*]; done) | (simp [q_ne_nil]; done), by repeat (first | exact Drawn0.refl _ | apply Drawn0.step)⟩
                      · rw [if_neg c18] at H
                        exact absurd H (by simp)
                    · rw [if_neg c17] at H
                      exact absurd H (by simp)
                  · rw [if_neg c16] at H
                    exact absurd H (by simp)
              · rw [if_neg c12] at H
                exact absurd H (by simp)
            · rw [if_neg c11] at H
              exact absurd H (by simp)
          · rw [if_neg c9] at H
            have c9b0 : decide (x3_1 < x4_2) = false := decide_eq_false c9
            clear c9
            by_cases c19 : 0 ≤ x3_1
            · rw [if_pos c19] at H
              have c19b0 := eq_true c19
              have c19b1 : decide (0 ≤ x3_1) = true := decide_eq_true c19
              clear c19
              by_cases c20 : x3_1 ≤ x4_2
              · rw [if_pos c20] at H
                have c20b0 := eq_true c20
                have c20b1 : decide (x3_1 ≤ x4_2) = true := decide_eq_true c20
                clear c20
                by_cases c21 : x4_2 ≤ (a0.size : Int)
                · rw [if_pos c21] at H
                  have c21b0 := eq_true c21
                  have c21b1 : decide (x4_2 ≤ (a0.size : Int)) = true := decide_eq_true c21
                  clear c21
                  obtain rfl := Option.some.inj H
                  go_wp2
                  go_ret
                  exact ⟨by first | rfl | (simp; done) | (simp [*]; done) | (simp [q_ne_nil]; done), by repeat (first | exact Drawn0.refl _ | apply Drawn0.step)⟩
                · rw [if_neg c21] at H
                  exact absurd H (by simp)
              · rw [if_neg c20] at H
                exact absurd H (by simp)
            · rw [if_neg c19] at H
              exact absurd H (by simp)

/-! ### glacisref07_Values: function 25 -/
def glacisref07_Values.l0 : Nat → List (S38) → ByteArray → List ByteArray → Int → Option (List ByteArray)
  | 0, _, _, _, _ => none
  | k + 1, x0, x1, x5, x6 => if x6 < (x0.length : Int) then (if 0 ≤ x6 then ((glacisref01_Fold.f ((rd_T38 x0 x6).f0) x1).bind fun t216 => (if t216 = true then ((glacisref01_Trim.f k ((rd_T38 x0 x6).f1)).bind fun t218 => (if x5.length < 8796093022208 then (glacisref07_Values.l0 k x0 x1 (x5 ++ [t218]) (wrap64 (x6 + 1))) else (none))) else (glacisref07_Values.l0 k x0 x1 x5 (wrap64 (x6 + 1))))) else (none)) else (some x5)
def glacisref07_Values.f (k : Nat) (l0 : List (S38)) (a1 : ByteArray) : Option (List ByteArray) := glacisref07_Values.l0 k l0 a1 ([] : List ByteArray) 0
theorem glacisref07_Values.mono_l : ∀ k, (∀ y0 y1 y2 y3, LeO (glacisref07_Values.l0 k y0 y1 y2 y3) (glacisref07_Values.l0 (k + 1) y0 y1 y2 y3))
  | 0 => fun _ _ _ _ r h => by simp [glacisref07_Values.l0] at h
  | k + 1 => by
    have ih0 := glacisref07_Values.mono_l k
    · intro y0 y1 y2 y3
      unfold glacisref07_Values.l0
      repeat' first
      | (with_reducible exact ih0 _ _ _ _)
      | (with_reducible exact glacisref01_Trim.mono _ _)
      | (with_reducible exact LeO.refl _)
      | (with_reducible exact LeO.none _)
      | (with_reducible refine LeO.ite ?_ ?_)
      | (with_reducible refine LeO.bind ?_ (fun _ => ?_))
      | exact ih0 _ _ _ _
      | exact glacisref01_Trim.mono _ _
      | exact LeO.none _
      | refine LeO.ite ?_ ?_
      | refine LeO.bind ?_ (fun _ => ?_)
theorem glacisref07_Values.mono : ∀ a0 a1 k, LeO (glacisref07_Values.f k a0 a1) (glacisref07_Values.f (k + 1) a0 a1) := by
  intro a0 a1 k
  have ih0 := glacisref07_Values.mono_l k
  unfold glacisref07_Values.f
  repeat' first
      | (with_reducible exact ih0 _ _ _ _)
      | (with_reducible exact glacisref01_Trim.mono _ _)
      | (with_reducible exact LeO.refl _)
      | (with_reducible exact LeO.none _)
      | (with_reducible refine LeO.ite ?_ ?_)
      | (with_reducible refine LeO.bind ?_ (fun _ => ?_))
      | exact ih0 _ _ _ _
      | exact glacisref01_Trim.mono _ _
      | exact LeO.none _
      | refine LeO.ite ?_ ?_
      | refine LeO.bind ?_ (fun _ => ?_)
set_option maxHeartbeats 8000000 in
set_option maxRecDepth 100000 in
theorem glacisref07_Values.calls (k : Nat) (A0 : Option Addr) (c0 : Nat) (l0 : List (S38)) (a1 : ByteArray) (r : List ByteArray) (w : World) (hr0 : Kd.C k38 w A0 l0.length l0) (hc0 : l0.length ≤ c0) (h : glacisref07_Values.f k l0 a1 = some r) :
    Calls Tryd.prog 25 #[.slice A0 l0.length c0, .string a1] w fun e w' => ∃ v0_ : Value, e = .returned (v0_) ∧ Kd.R Kd.string 9 w' w.heap.size (fun _ => True) v0_ r ∧ Below w.heap.size w w' := by
  have HR0 := Aside0.mk hr0
  have HC0 := Aside0.mk hc0
  clear hr0 hc0
  have HB := Aside0.mk (Below.refl w.heap.size w)
  have H : (glacisref07_Values.l0 k l0 a1 ([] : List ByteArray) 0) = some r := h
  clear h
  have H' := Aside0.mk H
  clear H
  go_enter Tryd.func25, Tryd.ntmps25
  go_wp2
  go_loopg [5, 6] k (fun kq v5 v6 w' => ∃ (x5_1 : List ByteArray) (x6_1 : Int), v6 = .int .i64 x6_1 ∧ Aside0 (glacisref07_Values.l0 kq l0 a1 x5_1 x6_1 = some r) ∧ Aside0 (kq ≤ k) ∧ Aside0 (Kd.R Kd.string 9 w' w.heap.size (fun _ => True) v5 x5_1) ∧ Aside0 (Below w.heap.size w w'))
  case atStart => exact ⟨(([] : List ByteArray)), (0), (by first | rfl | (simp; done) | (simp [*]; done) | (simp [q_ne_nil]; done)), H', ⟨Nat.le_refl _⟩, ⟨by first | exact Kd.R_nil _ _ _ _ _ | exact Kd.N_nil _ _ _ _ _ | exact Kd.V_nil _ _ _ _ _ | exact Kd.Q_nil _ _ _ _ _ | exact Kd.S_nil _ _ _ _ _⟩, ⟨by repeat (first | (with_reducible first | exact HB.out | apply below_alloc | apply pw_below_drewN | apply below_drew1) | exact HB.out)⟩⟩
  case round =>
    clear H'
    try clear c2
    try clear p2
    obtain ⟨x5_1, x6_1, rfl, HA, HK1, HO_5, HB⟩ := hrel
    cases gk with
    | zero => exact absurd HA.out (by simp [glacisref07_Values.l0])
    | succ k1 =>
      have H := HA.out
      clear HA
      simp only [glacisref07_Values.l0] at H
      by_cases c3 : x6_1 < (l0.length : Int)
      · rw [if_pos c3] at H
        have c3b0 : decide (x6_1 < (l0.length : Int)) = true := decide_eq_true c3
        clear c3
        by_cases c4 : 0 ≤ x6_1
        · rw [if_pos c4] at H
          have c4b0 : decide (0 ≤ x6_1) = true := decide_eq_true c4
          clear c4
          replace H := Option.bind_eq_some_iff.mp H
          obtain ⟨t216, A50, H⟩ := H
          replace H : (if t216 = true then ((glacisref01_Trim.f k1 ((rd_T38 l0 x6_1).f1)).bind fun t218 => (if x5_1.length < 8796093022208 then (glacisref07_Values.l0 k1 l0 a1 (x5_1 ++ [t218]) (wrap64 (x6_1 + 1))) else (none))) else (glacisref07_Values.l0 k1 l0 a1 x5_1 (wrap64 (x6_1 + 1)))) = some r := H
          have A5 := Aside0.mk A50
          clear A50
          by_cases c6 : t216 = true
          · subst c6
            have H1 : ((glacisref01_Trim.f k1 ((rd_T38 l0 x6_1).f1)).bind fun t218 => (if x5_1.length < 8796093022208 then (glacisref07_Values.l0 k1 l0 a1 (x5_1 ++ [t218]) (wrap64 (x6_1 + 1))) else (none))) = some r := by rw [if_pos rfl] at H; exact H
            clear H
            have H := H1
            clear H1
            replace H := Option.bind_eq_some_iff.mp H
            obtain ⟨t218, A70, H⟩ := H
            replace H : (if x5_1.length < 8796093022208 then (glacisref07_Values.l0 k1 l0 a1 (x5_1 ++ [t218]) (wrap64 (x6_1 + 1))) else (none)) = some r := H
            have A7 := Aside0.mk A70
            clear A70
            by_cases c8 : x5_1.length < 8796093022208
            · rw [if_pos c8] at H
              have LMc8 := Aside0.mk c8
              clear c8
              obtain ⟨y219, hy219⟩ : ∃ y_ : List ByteArray, y_ = (x5_1 ++ [t218]) := ⟨_, rfl⟩
              replace H : (glacisref07_Values.l0 k1 l0 a1 y219 (wrap64 (x6_1 + 1))) = some r := by first | (rw [hy219]; with_reducible exact H) | (have H2_ := (Option.bind_some _ _).symm.trans H; rw [hy219]; with_reducible exact H2_) | (have H2_ := (Option.bind_some _ _).symm.trans H; with_reducible exact H2_) | with_reducible exact H | (rw [hy219]; exact H) | exact H
              have Ny219 := Aside0.mk hy219
              clear hy219
              have H' := Aside0.mk H
              clear H
              have p215 : 0 ≤ (x6_1 : Int) := of_decide_eq_true (by first | (with_reducible assumption) | assumption)
              have q215 : x6_1 < (l0.length : Int) := of_decide_eq_true (by first | (with_reducible assumption) | assumption)
              obtain ⟨ad215, e215, hx215_0, hx215_1⟩ := at_T38 HR0.out x6_1 p215 q215
              cases e215
              replace hx215_0 := (HB.out.cell (World.block_lt_of_cell? w _ hx215_0)).trans hx215_0
              replace hx215_1 := (HB.out.cell (World.block_lt_of_cell? w _ hx215_1)).trans hx215_1
              replace p215 := eq_true p215
              replace q215 := eq_true q215
              go_wp2_with (first | ((with_reducible refine gate_callee (f := 36) rfl ?_); refine goesL_ (some 20) rfl rfl Tryd.func36 (by kernel_rfl) rfl #[.string ((rd_T38 l0 x6_1).f0), .string a1] rfl (by (try simp only [List.map_toArray, List.map_cons, List.map_nil]); first | done | rfl | (simp only [List.length_drop, List.length_take]; rfl)) ?_; (with_reducible refine (glacisref01_Fold.calls ((rd_T38 l0 x6_1).f0) a1 true _ A5.out).mono ?_); rintro e w9 ⟨rfl, hb⟩; refine ⟨_, rfl, ?_⟩; have n0_ := Aside0.mk (Kd.R_below (by (with_reducible repeat (first | apply Kd.R_alloc | apply Kd.R_drewN | apply Kd.R_drew)); exact HO_5.out) hb); have n1_ := Aside0.mk (below_step (by repeat (first | (with_reducible first | exact HB.out | apply below_alloc | apply pw_below_drewN | apply below_drew1) | exact HB.out)) hb); clear HO_5; clear HB; have HO_5 := n0_; have HB := n1_; clear n0_ n1_; (try clear hb); (try clear hb2); (try clear hk); (try clear hi); have p217 : 0 ≤ (x6_1 : Int) := of_decide_eq_true (by first | (with_reducible assumption) | assumption); have q217 : x6_1 < (l0.length : Int) := of_decide_eq_true (by first | (with_reducible assumption) | assumption); obtain ⟨ad217, e217, hx217_0, hx217_1⟩ := at_T38 HR0.out x6_1 p217 q217; obtain rfl : ad215 = ad217 := (by injection e217); replace hx217_0 := (HB.out.cell (World.block_lt_of_cell? w _ hx217_0)).trans hx217_0; replace hx217_1 := (HB.out.cell (World.block_lt_of_cell? w _ hx217_1)).trans hx217_1; replace p217 := eq_true p217; replace q217 := eq_true q217) | ((with_reducible refine gate_callee (f := 37) rfl ?_); refine goesL_ (some 28) rfl rfl Tryd.func37 (by kernel_rfl) rfl #[.string ((rd_T38 l0 x6_1).f1)] rfl (by (try simp only [List.map_toArray, List.map_cons, List.map_nil]); first | done | rfl | (simp only [List.length_drop, List.length_take]; rfl)) ?_; (with_reducible refine (glacisref01_Trim.calls k1 ((rd_T38 l0 x6_1).f1) t218 _ A7.out).mono ?_); rintro e w' ⟨rfl, ⟨nd, rfl⟩⟩; refine ⟨_, rfl, ?_⟩) | ((with_reducible refine gate_builtin (b := .append) (xs := #[.tmp 22, .tmp 29]) rfl ?_); at_builtin; refine Kd.R_append Kd.string (w0 := w) w.heap.size rfl (.tmp 22) (.tmp 29) 24 9 (.string ⟨#[]⟩) 16 rfl Tryd.underlying24 info9 rfl (by decide) (by omega) u5 x5_1 t218 [.string t218] (fun _ => True) (fun _ => False) rfl rfl ?aP (fun _ hk => hk.elim) ?aF ?aO ?aB ?aS ?aL ?_; (case aP => exact rfl); (case aB => exact (by repeat (first | (with_reducible first | exact HB.out | apply below_alloc | apply pw_below_drewN | apply below_drew1) | exact HB.out))); (case aF => exact (fun _ _ => trivial)); (case aO => exact (by (with_reducible repeat (first | apply Kd.R_alloc | apply Kd.R_drewN | apply Kd.R_drew)); exact HO_5.out)); (case aS => exact (below_size (by repeat (first | (with_reducible first | exact HB.out | apply below_alloc | apply pw_below_drewN | apply below_drew1) | exact HB.out)))); (case aL => have := LMc8.out; omega); intro v220 w10 ho hb hg hat; rw [← Ny219.out] at ho; have n0_ := Aside0.mk (hb); have n1_ := Aside0.mk (ho); clear HB; clear HO_5; have HB := n0_; have HO221 := n1_; clear n0_ n1_; clear ho hb hg hat))
              go_roundg k1
              case measure => have := HK1.out; omega
              case rel => exact ⟨(y219), (wrap64 (x6_1 + 1)), (by first | rfl | (simp; done) | (simp [*]; done) | (simp [q_ne_nil]; done)), H', ⟨by have := HK1.out; omega⟩, ⟨by (with_reducible repeat (first | apply Kd.R_alloc | apply Kd.R_drewN | apply Kd.R_drew)); exact HO221.out⟩, ⟨by repeat (first | (with_reducible first | exact HB.out | apply below_alloc | apply pw_below_drewN | apply below_drew1) | exact HB.out)⟩⟩
            · rw [if_neg c8] at H
              exact absurd H (by simp)
          · replace c6 := Bool.eq_false_iff.mpr c6
            subst c6
            have H1 : (glacisref07_Values.l0 k1 l0 a1 x5_1 (wrap64 (x6_1 + 1))) = some r := by rw [if_neg (show ¬ (false = true) by decide)] at H; exact H
            clear H
            have H := H1
            clear H1
            have H' := Aside0.mk H
            clear H
            have p215 : 0 ≤ (x6_1 : Int) := of_decide_eq_true (by first | (with_reducible assumption) | assumption)
            have q215 : x6_1 < (l0.length : Int) := of_decide_eq_true (by first | (with_reducible assumption) | assumption)
            obtain ⟨ad215, e215, hx215_0, hx215_1⟩ := at_T38 HR0.out x6_1 p215 q215
            cases e215
            replace hx215_0 := (HB.out.cell (World.block_lt_of_cell? w _ hx215_0)).trans hx215_0
            replace hx215_1 := (HB.out.cell (World.block_lt_of_cell? w _ hx215_1)).trans hx215_1
            replace p215 := eq_true p215
            replace q215 := eq_true q215
            go_wp2_with (first | ((with_reducible refine gate_callee (f := 36) rfl ?_); refine goesL_ (some 20) rfl rfl Tryd.func36 (by kernel_rfl) rfl #[.string ((rd_T38 l0 x6_1).f0), .string a1] rfl (by (try simp only [List.map_toArray, List.map_cons, List.map_nil]); first | done | rfl | (simp only [List.length_drop, List.length_take]; rfl)) ?_; (with_reducible refine (glacisref01_Fold.calls ((rd_T38 l0 x6_1).f0) a1 false _ A5.out).mono ?_); rintro e w11 ⟨rfl, hb⟩; refine ⟨_, rfl, ?_⟩; have n0_ := Aside0.mk (Kd.R_below (by (with_reducible repeat (first | apply Kd.R_alloc | apply Kd.R_drewN | apply Kd.R_drew)); exact HO_5.out) hb); have n1_ := Aside0.mk (below_step (by repeat (first | (with_reducible first | exact HB.out | apply below_alloc | apply pw_below_drewN | apply below_drew1) | exact HB.out)) hb); clear HO_5; clear HB; have HO_5 := n0_; have HB := n1_; clear n0_ n1_; (try clear hb); (try clear hb2); (try clear hk); (try clear hi)))
            go_roundg k1
            case measure => have := HK1.out; omega
            case rel => exact ⟨(x5_1), (wrap64 (x6_1 + 1)), (by first | rfl | (simp; done) | (simp [*]; done) | (simp [q_ne_nil]; done)), H', ⟨by have := HK1.out; omega⟩, ⟨by (with_reducible repeat (first | apply Kd.R_alloc | apply Kd.R_drewN | apply Kd.R_drew)); exact HO_5.out⟩, ⟨by repeat (first | (with_reducible first | exact HB.out | apply below_alloc | apply pw_below_drewN | apply below_drew1) | exact HB.out)⟩⟩
        · rw [if_neg c4] at H
          exact absurd H (by simp)
      · rw [if_neg c3] at H
        have c3b0 : decide (x6_1 < (l0.length : Int)) = false := decide_eq_false c3
        clear c3
        obtain rfl := Option.some.inj H
        go_wp2
        go_ret
        exact ⟨_, by first | rfl | (simp [errW_none, errW_some] <;> rfl) | (simp [*, errW_none, errW_some] <;> rfl) | (simp [q_ne_nil]; done), by (with_reducible repeat (first | apply Kd.R_alloc | apply Kd.R_drewN | apply Kd.R_drew)); exact HO_5.out, by repeat (first | (with_reducible first | exact HB.out | apply below_alloc | apply pw_below_drewN | apply below_drew1) | exact HB.out)⟩

/-! ### glacisref10_Head: function 16 -/
def glacisref10_Head.pol (t : Bool × List ByteArray × Bool × List ByteArray) : S26 := ⟨t.1, t.2.1, t.2.2.1, t.2.2.2⟩
/-- The policies that a row of texts adds. -/
def glacisref10_Head.ones (k : Nat) : List ByteArray → List S26 → Option (List S26)
  | [], out => some out
  | p :: ps, out => (glacisref10_One.f k p).bind fun t => if (t.1 || t.2.2.1) = true then (if out.length < 2199023255551 then glacisref10_Head.ones k ps (out ++ [glacisref10_Head.pol t]) else none) else glacisref10_Head.ones k ps out
def glacisref10_Head.vals (k : Nat) : List ByteArray → List S26 → Option (List S26)
  | [], out => some out
  | v :: vs, out => (glacisref01_Split.f k v 44).bind fun ps => (glacisref10_Head.ones k ps out).bind fun o => glacisref10_Head.vals k vs o
def glacisref10_Head.f (k : Nat) (l0 : List S38) : Option (List S26) := (glacisref07_Values.f k l0 (⟨#[99, 111, 110, 116, 101, 110, 116, 45, 115, 101, 99, 117, 114, 105, 116, 121, 45, 112, 111, 108, 105, 99, 121]⟩ : ByteArray)).bind fun vs => glacisref10_Head.vals k vs []
theorem glacisref10_Head.ones_mono (k : Nat) : ∀ ps out, LeO (glacisref10_Head.ones k ps out) (glacisref10_Head.ones (k + 1) ps out)
  | [], out => fun r h => h
  | p :: ps, out => fun r h => by
    unfold glacisref10_Head.ones at h ⊢
    obtain ⟨t, ht, h⟩ := Option.bind_eq_some_iff.1 h
    rw [glacisref10_One.mono p k t ht]
    simp only [Option.bind_some]
    split at h
    · rename_i hc
      rw [if_pos hc]
      split at h
      · rename_i hl
        rw [if_pos hl]
        exact glacisref10_Head.ones_mono k ps _ r h
      · cases h
    · rename_i hc
      rw [if_neg hc]
      exact glacisref10_Head.ones_mono k ps _ r h
theorem glacisref10_Head.vals_mono (k : Nat) : ∀ vs out, LeO (glacisref10_Head.vals k vs out) (glacisref10_Head.vals (k + 1) vs out)
  | [], out => fun r h => h
  | v :: vs, out => fun r h => by
    unfold glacisref10_Head.vals at h ⊢
    obtain ⟨t, ht, h⟩ := Option.bind_eq_some_iff.1 h
    rw [glacisref01_Split.mono v 44 k t ht]
    obtain ⟨o, ho, h⟩ := Option.bind_eq_some_iff.1 h
    simp only [Option.bind_some]
    rw [glacisref10_Head.ones_mono k t out o ho]
    exact glacisref10_Head.vals_mono k vs _ r h
theorem glacisref10_Head.mono : ∀ l0 k, LeO (glacisref10_Head.f k l0) (glacisref10_Head.f (k + 1) l0) := by
  intro l0 k r h
  unfold glacisref10_Head.f at h ⊢
  obtain ⟨t, ht, h⟩ := Option.bind_eq_some_iff.1 h
  rw [glacisref07_Values.mono l0 _ k t ht]
  exact glacisref10_Head.vals_mono k t _ r h
/-- Between two values. -/
def glacisref10_Head.Out (k : Nat) (r : List S26) (w : World) (vv : Value) (vs : List ByteArray) (v2 vi : Value) (wr : World) : Prop :=
  ∃ (j : Nat) (out : List S26), j ≤ vs.length ∧ vi = .int .i64 j ∧ glacisref10_Head.vals k (vs.drop j) out = some r ∧ Kd.R k26 26 wr w.heap.size (fun _ => True) v2 out ∧ Kd.R Kd.string 9 wr w.heap.size (fun _ => True) vv vs ∧ Below w.heap.size w wr
/-- Between two policies of a value. -/
def glacisref10_Head.In (k : Nat) (o : List S26) (w : World) (vv vp : Value) (vs ps : List ByteArray) (v2 vk : Value) (wr : World) : Prop :=
  ∃ (j : Nat) (out : List S26), j ≤ ps.length ∧ vk = .int .i64 j ∧ glacisref10_Head.ones k (ps.drop j) out = some o ∧ Kd.R k26 26 wr w.heap.size (fun _ => True) v2 out ∧ Kd.R Kd.string 9 wr w.heap.size (fun _ => True) vv vs ∧ Kd.R Kd.string 9 wr w.heap.size (fun _ => True) vp ps ∧ Below w.heap.size w wr
theorem glacisref10_Head.meas (q n : Nat) (h : q < n) (hm : n ≤ 9223372036854775807) : n - (wrap64 ((q : Int) + 1)).toNat < n - q := by
  have e : wrap64 ((q : Int) + 1) = ((q + 1 : Nat) : Int) := by unfold wrap64; omega
  rw [e, Int.toNat_natCast]
  omega
theorem glacisref10_Head.cell {w : World} {base : Nat} {A : Option Addr} {n c : Nat} {vs : List ByteArray} (h : Kd.R Kd.string 9 w base (fun _ => True) (.slice A n c) vs) (j : Nat) (hj : j < vs.length) : ∃ ad, A = some ad ∧ w.cell? (ad.add j) = some (.string vs[j]) ∧ vs.length ≤ 9223372036854775807 := by
  obtain ⟨_, _, hC⟩ := Kd.R_reads' h
  obtain ⟨ad, c, hA, _, hK, hc⟩ := Kd.C_get hC (⟨#[]⟩ : ByteArray) (j : Int) (by omega) (by omega)
  have hgd : vs.getD j (⟨#[]⟩ : ByteArray) = vs[j] := by rw [List.getD_eq_getElem?_getD, List.getElem?_eq_getElem hj]; rfl
  simp only [Int.toNat_natCast, hgd] at hK
  obtain rfl : c = [.string vs[j]] := hK
  have hx := hc 0 _ rfl
  exact ⟨ad, hA, by simpa [show (Kd.string).sz = 1 from rfl] using hx, Kd.C_max hC⟩
set_option maxHeartbeats 4000000 in
set_option maxRecDepth 100000 in
theorem glacisref10_Head.calls (k : Nat) (A0 : Option Addr) (c0 : Nat) (l0 : List (S38)) (r : List (S26)) (w : World) (hr0 : Kd.C k38 w A0 l0.length l0) (hc0 : l0.length ≤ c0) (h : glacisref10_Head.f k l0 = some r) :
    Calls Tryd.prog 16 #[.slice A0 l0.length c0] w fun e w' => ∃ v0_ : Value, e = .returned v0_ ∧ Kd.R k26 26 w' w.heap.size (fun _ => True) v0_ r ∧ Below w.heap.size w w' := by
  unfold glacisref10_Head.f at h
  obtain ⟨vs, hvs, h⟩ := Option.bind_eq_some_iff.1 h
  have HV := Aside0.mk (glacisref07_Values.calls k A0 c0 l0 _ vs w hr0 hc0 hvs)
  have HH := Aside0.mk h
  have HS := Aside0.mk (fun v ps W2 (hp : glacisref01_Split.f k v 44 = some ps) => glacisref01_Split.calls k v 44 ps W2 hp)
  have HO := Aside0.mk (fun v r1 r2 r3 r4 W2 (hp : glacisref10_One.f k v = some (r1, r2, r3, r4)) => glacisref10_One.calls k v r1 r2 r3 r4 W2 hp)
  clear hvs h hr0 hc0
  go_enter Tryd.func16, Tryd.ntmps16
  go_wp2_with (first | (go_at_call 25; refine HV.out.mono ?_; rintro e w1 ⟨v0, rfl, hR1, hb1⟩; obtain ⟨A1, c1, hv1, hc1, _⟩ := Kd.R_reads hR1; subst hv1))
  have HR1 := Aside0.mk hR1
  have HB1 := Aside0.mk hb1
  clear hR1 hb1 HV
  go_loopw [4, 5] (fun v2 vi wr => glacisref10_Head.Out k r w (.slice A1 vs.length c1) vs v2 vi wr) (fun _ vi _ => vs.length - (intOf vi).toNat)
  case atStart => exact ⟨0, [], Nat.zero_le _, rfl, HH.out, Kd.R_nil _ _ _ _ _, HR1.out, HB1.out⟩
  case round =>
    clear HR1 HB1 HH
    obtain ⟨j, out, hj, rfl, hrest, hR2, hRv, hbw⟩ := hrel
    obtain ⟨A2, c2, hv2⟩ := Kd.R_slice hR2
    have HR2 := Aside0.mk hR2
    have HRV := Aside0.mk hRv
    have HBW := Aside0.mk hbw
    have HRS := Aside0.mk hrest
    clear hR2 hRv hbw hrest
    by_cases hlt : j < vs.length
    · obtain ⟨ad, hA, hx, hmx⟩ := glacisref10_Head.cell HRV.out j hlt
      subst hA
      have hdr : vs.drop j = vs[j] :: vs.drop (j + 1) := List.drop_eq_getElem_cons hlt
      have hh := HRS.out
      rw [hdr] at hh
      generalize vs[j] = v at *
      unfold glacisref10_Head.vals at hh
      obtain ⟨ps, hps, hh⟩ := Option.bind_eq_some_iff.1 hh
      obtain ⟨o, ho, hh⟩ := Option.bind_eq_some_iff.1 hh
      have HSv := Aside0.mk (HS.out v ps wr hps)
      have HON := Aside0.mk ho
      have HRT := Aside0.mk hh
      clear hps ho hh hdr
      go_wp2_with (first | (go_at_call 26; refine HSv.out.mono ?_; rintro e w3 ⟨v3, rfl, hR3, hb3⟩; obtain ⟨A3, c3, hv3, hc3, _⟩ := Kd.R_reads hR3; subst hv3))
      have HR3 := Aside0.mk (Kd.R_lower hR3 HBW.out.size)
      have HR2b := Aside0.mk (Kd.R_below HR2.out hb3)
      have HRVb := Aside0.mk (Kd.R_below HRV.out hb3)
      have HBWb := Aside0.mk (HBW.out.trans (hb3.mono HBW.out.size))
      clear hR3 hb3 HSv HR2 HRV HBW HRS hx
      go_loopw [4, 7] (fun v2 vk wq => glacisref10_Head.In k o w (.slice (some ad) vs.length c1) (.slice A3 ps.length c3) vs ps v2 vk wq) (fun _ vk _ => ps.length - (intOf vk).toNat)
      case atStart => exact ⟨0, out, Nat.zero_le _, rfl, HON.out, by rw [← hv2]; exact HR2b.out, HRVb.out, HR3.out, HBWb.out⟩
      case round =>
        clear HR2b HRVb HBWb HR3 HON
        obtain ⟨q, ou2, hq, rfl, hrest, hR2, hRv, hRp, hbw⟩ := hrel
        obtain ⟨A4, c4, hv4⟩ := Kd.R_slice hR2
        have HR2 := Aside0.mk hR2
        have HRV := Aside0.mk hRv
        have HRP := Aside0.mk hRp
        have HBW := Aside0.mk hbw
        clear hR2 hRv hRp hbw
        by_cases hlt2 : q < ps.length
        · obtain ⟨ad3, hA3, hx, hmx3⟩ := glacisref10_Head.cell HRP.out q hlt2
          subst hA3
          have hdr : ps.drop q = ps[q] :: ps.drop (q + 1) := List.drop_eq_getElem_cons hlt2
          rw [hdr] at hrest
          generalize ps[q] = p at *
          unfold glacisref10_Head.ones at hrest
          obtain ⟨⟨r1, r2, r3, r4⟩, hone, hrest⟩ := Option.bind_eq_some_iff.1 hrest
          have HOp := Aside0.mk (HO.out p r1 r2 r3 r4 wr hone)
          clear hone hdr
          subst hv4
          simp only at hrest
          by_cases hc : (r1 || r3) = true
          · rw [if_pos hc] at hrest
            by_cases hl : ou2.length < 2199023255551
            · rw [if_pos hl] at hrest
              have HRT2 := Aside0.mk hrest
              clear hrest
              have hcs : r1 = true ∨ (r1 = false ∧ r3 = true) := by cases r1 <;> simp_all
              clear hc
              rcases hcs with rfl | ⟨rfl, rfl⟩
              · go_wp2_with (first | (go_at_call 12; refine HOp.out.mono ?_; rintro e w5 ⟨v51, v53, rfl, hQ1, hQ3, hb5⟩; obtain ⟨A51, c51, hv51, hc51, _⟩ := Kd.Q_reads hQ1; obtain ⟨A53, c53, hv53, hc53, _⟩ := Kd.Q_reads hQ3; subst hv51 hv53; have Q1 := Aside0.mk hQ1; have Q3 := Aside0.mk hQ3; have B5 := Aside0.mk hb5; clear hQ1 hQ3 hb5) | ((with_reducible refine gate_builtin (b := .append) (xs := #[.tmp 39, .tmp 41]) rfl ?_); at_builtin; (have hbW := below_alloc (HBW.out.trans (B5.out.mono HBW.out.size)) (.cells #[.bool true, .slice A51 r2.length c51, .bool r3, .slice A53 r4.length c53] 26)); (have hR2W := Kd.R_alloc (Kd.R_below HR2.out B5.out) (.cells #[.bool true, .slice A51 r2.length c51, .bool r3, .slice A53 r4.length c53] 26)); (have hQ1W := Kd.Q_mono (Kd.Q_apart' (Kd.Q_alloc (Kd.Q_lower Q1.out HBW.out.size) (.cells #[.bool true, .slice A51 r2.length c51, .bool r3, .slice A53 r4.length c53] 26)) (Kd.R_typed hR2W) (by decide)) (fun k hk => hk.2)); (have hQ3W := Kd.Q_mono (Kd.Q_apart' (Kd.Q_alloc (Kd.Q_lower Q3.out HBW.out.size) (.cells #[.bool true, .slice A51 r2.length c51, .bool r3, .slice A53 r4.length c53] 26)) (Kd.R_typed hR2W) (by decide)) (fun k hk => hk.2)); (have hRVW := Kd.R_alloc (Kd.R_below HRV.out B5.out) (.cells #[.bool true, .slice A51 r2.length c51, .bool r3, .slice A53 r4.length c53] 26)); (have hRPW := Kd.R_alloc (Kd.R_below HRP.out B5.out) (.cells #[.bool true, .slice A51 r2.length c51, .bool r3, .slice A53 r4.length c53] 26)); refine Kd.R_append k26 (w0 := w) w.heap.size rfl (.tmp 39) (.tmp 41) 32 26 (.agg #[.bool false, .slice none 0 0, .bool false, .slice none 0 0]) 64 rfl Tryd.underlying32 info26 rfl (by decide) (by omega) (.slice A4 ou2.length c4) ou2 (⟨true, r2, r3, r4⟩ : S26) [.bool true, .slice A51 r2.length c51, .bool r3, .slice A53 r4.length c53] (fun _ => True) (fun k => some k ≠ (Value.slice A4 ou2.length c4).ownBlock) rfl ?aX ?aP (fun _ hk => ⟨trivial, hk⟩) (fun _ _ => trivial) hR2W hbW ?aS (by omega) ?_; (case aX => first | rfl | (simp [go_sem]; done)); (case aP => exact k26_mkM _ _ _ (⟨true, r2, r3, r4⟩ : S26) hQ1W hQ3W); (case aS => exact hbW.size); intro v6 w6 ho6 hb6 hg6 hat6; obtain ⟨A6, c6, hv6⟩ := Kd.R_slice ho6; (have HR6 := Aside0.mk ho6); (have HB6 := Aside0.mk hb6); (have HV6 := Aside0.mk (Kd.R_over' hRVW (Kd.R_typed hR2W) (by decide) hg6)); (have HP6 := Aside0.mk (Kd.R_over' hRPW (Kd.R_typed hR2W) (by decide) hg6)); generalize (ou2 ++ [(⟨true, r2, r3, r4⟩ : S26)]).length = n6 at hv6; subst hv6; clear ho6 hb6 hg6 hat6 hRVW hRPW hQ1W hQ3W hR2W hbW))
                go_roundw
                case rel => exact ⟨q + 1, ou2 ++ [(⟨true, r2, r3, r4⟩ : S26)], by omega, by go_num, HRT2.out, HR6.out, HV6.out, HP6.out, HB6.out⟩
                case measure => simp [intOf]; exact Nat.sub_lt_sub_left hlt2 (Nat.lt_succ_self _)
              · go_wp2_with (first | (go_at_call 12; refine HOp.out.mono ?_; rintro e w5 ⟨v51, v53, rfl, hQ1, hQ3, hb5⟩; obtain ⟨A51, c51, hv51, hc51, _⟩ := Kd.Q_reads hQ1; obtain ⟨A53, c53, hv53, hc53, _⟩ := Kd.Q_reads hQ3; subst hv51 hv53; have Q1 := Aside0.mk hQ1; have Q3 := Aside0.mk hQ3; have B5 := Aside0.mk hb5; clear hQ1 hQ3 hb5) | ((with_reducible refine gate_builtin (b := .append) (xs := #[.tmp 39, .tmp 41]) rfl ?_); at_builtin; (have hbW := below_alloc (HBW.out.trans (B5.out.mono HBW.out.size)) (.cells #[.bool false, .slice A51 r2.length c51, .bool true, .slice A53 r4.length c53] 26)); (have hR2W := Kd.R_alloc (Kd.R_below HR2.out B5.out) (.cells #[.bool false, .slice A51 r2.length c51, .bool true, .slice A53 r4.length c53] 26)); (have hQ1W := Kd.Q_mono (Kd.Q_apart' (Kd.Q_alloc (Kd.Q_lower Q1.out HBW.out.size) (.cells #[.bool false, .slice A51 r2.length c51, .bool true, .slice A53 r4.length c53] 26)) (Kd.R_typed hR2W) (by decide)) (fun k hk => hk.2)); (have hQ3W := Kd.Q_mono (Kd.Q_apart' (Kd.Q_alloc (Kd.Q_lower Q3.out HBW.out.size) (.cells #[.bool false, .slice A51 r2.length c51, .bool true, .slice A53 r4.length c53] 26)) (Kd.R_typed hR2W) (by decide)) (fun k hk => hk.2)); (have hRVW := Kd.R_alloc (Kd.R_below HRV.out B5.out) (.cells #[.bool false, .slice A51 r2.length c51, .bool true, .slice A53 r4.length c53] 26)); (have hRPW := Kd.R_alloc (Kd.R_below HRP.out B5.out) (.cells #[.bool false, .slice A51 r2.length c51, .bool true, .slice A53 r4.length c53] 26)); refine Kd.R_append k26 (w0 := w) w.heap.size rfl (.tmp 39) (.tmp 41) 32 26 (.agg #[.bool false, .slice none 0 0, .bool false, .slice none 0 0]) 64 rfl Tryd.underlying32 info26 rfl (by decide) (by omega) (.slice A4 ou2.length c4) ou2 (⟨false, r2, true, r4⟩ : S26) [.bool false, .slice A51 r2.length c51, .bool true, .slice A53 r4.length c53] (fun _ => True) (fun k => some k ≠ (Value.slice A4 ou2.length c4).ownBlock) rfl ?aX ?aP (fun _ hk => ⟨trivial, hk⟩) (fun _ _ => trivial) hR2W hbW ?aS (by omega) ?_; (case aX => first | rfl | (simp [go_sem]; done)); (case aP => exact k26_mkM _ _ _ (⟨false, r2, true, r4⟩ : S26) hQ1W hQ3W); (case aS => exact hbW.size); intro v6 w6 ho6 hb6 hg6 hat6; obtain ⟨A6, c6, hv6⟩ := Kd.R_slice ho6; (have HR6 := Aside0.mk ho6); (have HB6 := Aside0.mk hb6); (have HV6 := Aside0.mk (Kd.R_over' hRVW (Kd.R_typed hR2W) (by decide) hg6)); (have HP6 := Aside0.mk (Kd.R_over' hRPW (Kd.R_typed hR2W) (by decide) hg6)); generalize (ou2 ++ [(⟨false, r2, true, r4⟩ : S26)]).length = n6 at hv6; subst hv6; clear ho6 hb6 hg6 hat6 hRVW hRPW hQ1W hQ3W hR2W hbW))
                go_roundw
                case rel => exact ⟨q + 1, ou2 ++ [(⟨false, r2, true, r4⟩ : S26)], by omega, by go_num, HRT2.out, HR6.out, HV6.out, HP6.out, HB6.out⟩
                case measure => simp [intOf]; exact Nat.sub_lt_sub_left hlt2 (Nat.lt_succ_self _)
            · rw [if_neg hl] at hrest
              cases hrest
          · rw [if_neg hc] at hrest
            have HRT2 := Aside0.mk hrest
            clear hrest
            obtain ⟨rfl, rfl⟩ : r1 = false ∧ r3 = false := by cases r1 <;> cases r3 <;> simp_all
            go_wp2_with (first | (go_at_call 12; refine HOp.out.mono ?_; rintro e w5 ⟨v51, v53, rfl, hQ1, hQ3, hb5⟩; obtain ⟨A51, c51, hv51, hc51, _⟩ := Kd.Q_reads hQ1; obtain ⟨A53, c53, hv53, hc53, _⟩ := Kd.Q_reads hQ3; subst hv51 hv53; have Q1 := Aside0.mk hQ1; have Q3 := Aside0.mk hQ3; have B5 := Aside0.mk hb5; clear hQ1 hQ3 hb5))
            have hbW := below_alloc (HBW.out.trans (B5.out.mono HBW.out.size)) (.cells #[.bool false, .slice A51 r2.length c51, .bool false, .slice A53 r4.length c53] 26)
            go_roundw
            case rel => exact ⟨q + 1, ou2, by omega, by go_num, HRT2.out, Kd.R_alloc (Kd.R_below HR2.out B5.out) _, Kd.R_alloc (Kd.R_below HRV.out B5.out) _, Kd.R_alloc (Kd.R_below HRP.out B5.out) _, hbW⟩
            case measure => simp [intOf]; exact Nat.sub_lt_sub_left hlt2 (Nat.lt_succ_self _)
        · obtain rfl : q = ps.length := by omega
          rw [List.drop_length] at hrest
          obtain rfl : ou2 = o := by simpa [glacisref10_Head.ones] using hrest
          subst hv4
          go_wp2
          go_roundw
          case rel => exact ⟨j + 1, ou2, by omega, by go_num, HRT.out, HR2.out, HRV.out, HBW.out⟩
          case measure => simp [intOf]; exact Nat.sub_lt_sub_left hlt (Nat.lt_succ_self _)
    · obtain rfl : j = vs.length := by omega
      have hh := HRS.out
      rw [List.drop_length] at hh
      obtain rfl : out = r := by simpa [glacisref10_Head.vals] using hh
      go_wp2
      go_ret
      exact ⟨_, rfl, HR2.out, HBW.out⟩


/-! ### glacislaw10_CspparseHeads: function 4 -/
def glacislaw10_CspparseHeads.f (k : Nat) (l0 : List (S38)) : Option (Bool) := (glacislaw10_awake.f k).bind fun t222 => ((glacislaw08_Few.f k l0).bind fun t223 => (if t223 = true then ((cspparse_Head.f l0).bind fun t224 => ((glacisref10_Head.f k l0).bind fun t227 => ((glacisref10_Same.f k t224 t227).bind fun t230 => (if t222 = true then (some t230) else (some false))))) else (some t222)))
theorem glacislaw10_CspparseHeads.mono : ∀ a0 k, LeO (glacislaw10_CspparseHeads.f k a0) (glacislaw10_CspparseHeads.f (k + 1) a0) := by
  intro a0 k
  unfold glacislaw10_CspparseHeads.f
  repeat' first
      | (with_reducible exact glacislaw08_Few.mono _ _)
      | (with_reducible exact glacislaw10_awake.mono _)
      | (with_reducible exact glacisref10_Head.mono _ _)
      | (with_reducible exact glacisref10_Same.mono _ _ _)
      | (with_reducible exact LeO.refl _)
      | (with_reducible exact LeO.none _)
      | (with_reducible refine LeO.ite ?_ ?_)
      | (with_reducible refine LeO.bind ?_ (fun _ => ?_))
      | exact glacislaw08_Few.mono _ _
      | exact glacislaw10_awake.mono _
      | exact glacisref10_Head.mono _ _
      | exact glacisref10_Same.mono _ _ _
      | exact LeO.none _
      | refine LeO.ite ?_ ?_
      | refine LeO.bind ?_ (fun _ => ?_)
set_option maxHeartbeats 8000000 in
set_option maxRecDepth 100000 in
theorem glacislaw10_CspparseHeads.calls (k : Nat) (A0 : Option Addr) (c0 : Nat) (l0 : List (S38)) (r : Bool) (w : World) (hr0 : Kd.C k38 w A0 l0.length l0) (hc0 : l0.length ≤ c0) (h : glacislaw10_CspparseHeads.f k l0 = some r) :
    Calls Tryd.prog 4 #[.slice A0 l0.length c0] w fun e w' => e = .returned (.bool r) ∧ Below w.heap.size w w' := by
  have HR0 := Aside0.mk hr0
  have HC0 := Aside0.mk hc0
  clear hr0 hc0
  have HB := Aside0.mk (Below.refl w.heap.size w)
  have H : ((glacislaw10_awake.f k).bind fun t222 => ((glacislaw08_Few.f k l0).bind fun t223 => (if t223 = true then ((cspparse_Head.f l0).bind fun t224 => ((glacisref10_Head.f k l0).bind fun t227 => ((glacisref10_Same.f k t224 t227).bind fun t230 => (if t222 = true then (some t230) else (some false))))) else (some t222)))) = some r := h
  clear h
  replace H := Option.bind_eq_some_iff.mp H
  obtain ⟨t222, A20, H⟩ := H
  replace H : ((glacislaw08_Few.f k l0).bind fun t223 => (if t223 = true then ((cspparse_Head.f l0).bind fun t224 => ((glacisref10_Head.f k l0).bind fun t227 => ((glacisref10_Same.f k t224 t227).bind fun t230 => (if t222 = true then (some t230) else (some false))))) else (some t222))) = some r := H
  have A2 := Aside0.mk A20
  clear A20
  replace H := Option.bind_eq_some_iff.mp H
  obtain ⟨t223, A30, H⟩ := H
  replace H : (if t223 = true then ((cspparse_Head.f l0).bind fun t224 => ((glacisref10_Head.f k l0).bind fun t227 => ((glacisref10_Same.f k t224 t227).bind fun t230 => (if t222 = true then (some t230) else (some false))))) else (some t222)) = some r := H
  have A3 := Aside0.mk A30
  clear A30
  by_cases c4 : t223 = true
  · subst c4
    have H1 : ((cspparse_Head.f l0).bind fun t224 => ((glacisref10_Head.f k l0).bind fun t227 => ((glacisref10_Same.f k t224 t227).bind fun t230 => (if t222 = true then (some t230) else (some false))))) = some r := by rw [if_pos rfl] at H; exact H
    clear H
    have H := H1
    clear H1
    replace H := Option.bind_eq_some_iff.mp H
    obtain ⟨t224, A50, H⟩ := H
    replace H : ((glacisref10_Head.f k l0).bind fun t227 => ((glacisref10_Same.f k t224 t227).bind fun t230 => (if t222 = true then (some t230) else (some false)))) = some r := H
    have A5 := Aside0.mk A50
    clear A50
    replace H := Option.bind_eq_some_iff.mp H
    obtain ⟨t227, A60, H⟩ := H
    replace H : ((glacisref10_Same.f k t224 t227).bind fun t230 => (if t222 = true then (some t230) else (some false))) = some r := H
    have A6 := Aside0.mk A60
    clear A60
    replace H := Option.bind_eq_some_iff.mp H
    obtain ⟨t230, A70, H⟩ := H
    replace H : (if t222 = true then (some t230) else (some false)) = some r := H
    have A7 := Aside0.mk A70
    clear A70
    by_cases c8 : t222 = true
    · subst c8
      have H1 : (some t230) = some r := by rw [if_pos rfl] at H; exact H
      clear H
      have H := H1
      clear H1
      obtain rfl := Option.some.inj H
      go_enter Tryd.func4, Tryd.ntmps4
      go_wp2_with (first | ((with_reducible refine gate_callee (f := 9) rfl ?_); refine goesL_ (some 6) rfl rfl Tryd.func9 (by kernel_rfl) rfl #[] rfl (by (try simp only [List.map_toArray, List.map_cons, List.map_nil]); first | done | rfl | (simp only [List.length_drop, List.length_take]; rfl)) ?_; (with_reducible refine (glacislaw10_awake.calls k  true _ A2.out).mono ?_); rintro e w9 ⟨rfl, hb⟩; refine ⟨_, rfl, ?_⟩; have n0_ := Aside0.mk (below_step (by repeat (first | (with_reducible first | exact HB.out | apply below_alloc | apply pw_below_drewN | apply below_drew1) | exact HB.out)) hb); clear HB; have HB := n0_; clear n0_; (try clear hb); (try clear hb2); (try clear hk); (try clear hi)) | ((with_reducible refine gate_callee (f := 13) rfl ?_); refine goesL_ (some 8) rfl rfl Tryd.func13 (by kernel_rfl) rfl #[.slice A0 l0.length c0] rfl (by (try simp only [List.map_toArray, List.map_cons, List.map_nil]); first | done | rfl | (simp only [List.length_drop, List.length_take]; rfl)) ?_; (with_reducible refine (glacislaw08_Few.calls k _ _ l0 true _ ?side1 ?side2 A3.out).mono ?_); (case side1 => repeat (first | exact (Kd.C_below HR0.out HB.out) | (with_reducible refine Kd.C_alloc ?_ _) | (with_reducible refine Kd.C_drewN ?_ _) | (with_reducible refine Kd.C_drew ?_))); (case side2 => exact HC0.out); rintro e w' ⟨rfl, ⟨nd, rfl⟩⟩; refine ⟨_, rfl, ?_⟩) | ((with_reducible refine gate_callee (f := 15) rfl ?_); refine goesL_ (some 13) rfl rfl Tryd.func15 (by kernel_rfl) rfl #[.slice A0 l0.length c0] rfl (by (try simp only [List.map_toArray, List.map_cons, List.map_nil]); first | done | rfl | (simp only [List.length_drop, List.length_take]; rfl)) ?_; (with_reducible refine (cspparse_Head.calls _ _ l0 t224 _ ?side1 ?side2 A5.out).mono ?_); (case side1 => repeat (first | exact (Kd.C_below HR0.out (by repeat (first | (with_reducible first | exact HB.out | apply below_alloc | apply pw_below_drewN | apply below_drew1) | exact HB.out))) | (with_reducible refine Kd.C_alloc ?_ _) | (with_reducible refine Kd.C_drewN ?_ _) | (with_reducible refine Kd.C_drew ?_))); (case side2 => exact HC0.out); rintro e w10 ⟨v225, rfl, ho0, hb⟩; refine ⟨_, rfl, ?_⟩; have n0_ := Aside0.mk (Kd.R_lower ho0 (below_size (by repeat (first | (with_reducible first | exact HB.out | apply below_alloc | apply pw_below_drewN | apply below_drew1) | exact HB.out)))); have n1_ := Aside0.mk (below_step (by repeat (first | (with_reducible first | exact HB.out | apply below_alloc | apply pw_below_drewN | apply below_drew1) | exact HB.out)) hb); clear HB; have HO226 := n0_; have HB := n1_; clear n0_ n1_; (try clear hb); (try clear hb2); (try clear hk); (try clear hi); (try clear ho0)) | ((with_reducible refine gate_callee (f := 16) rfl ?_); refine goesL_ (some 15) rfl rfl Tryd.func16 (by kernel_rfl) rfl #[.slice A0 l0.length c0] rfl (by (try simp only [List.map_toArray, List.map_cons, List.map_nil]); first | done | rfl | (simp only [List.length_drop, List.length_take]; rfl)) ?_; (with_reducible refine (glacisref10_Head.calls k _ _ l0 t227 _ ?side1 ?side2 A6.out).mono ?_); (case side1 => repeat (first | exact (Kd.C_below HR0.out HB.out) | (with_reducible refine Kd.C_alloc ?_ _) | (with_reducible refine Kd.C_drewN ?_ _) | (with_reducible refine Kd.C_drew ?_))); (case side2 => exact HC0.out); rintro e w11 ⟨v228, rfl, ho0, hb⟩; refine ⟨_, rfl, ?_⟩; have n0_ := Aside0.mk (Kd.R_elder' (by (with_reducible repeat (first | apply Kd.R_alloc | apply Kd.R_drewN | apply Kd.R_drew)); exact HO226.out) (Kd.R_base ho0) hb); have n1_ := Aside0.mk (Kd.R_lower (Kd.R_new' ho0 (Kd.R_lt (by (with_reducible repeat (first | apply Kd.R_alloc | apply Kd.R_drewN | apply Kd.R_drew)); exact HO226.out))) (below_size (by repeat (first | (with_reducible first | exact HB.out | apply below_alloc | apply pw_below_drewN | apply below_drew1) | exact HB.out)))); have n2_ := Aside0.mk (below_step (by repeat (first | (with_reducible first | exact HB.out | apply below_alloc | apply pw_below_drewN | apply below_drew1) | exact HB.out)) hb); clear HO226; clear HB; have HO226 := n0_; have HO229 := n1_; have HB := n2_; clear n0_ n1_ n2_; (try clear hb); (try clear hb2); (try clear hk); (try clear hi); (try clear ho0); obtain ⟨Ao12, co12, eo12⟩ := Kd.R_slice HO226.out; subst eo12; obtain ⟨Ao13, co13, eo13⟩ := Kd.R_slice HO229.out; subst eo13) | ((with_reducible refine gate_callee (f := 14) rfl ?_); refine goesL_ (some 16) rfl rfl Tryd.func14 (by kernel_rfl) rfl #[.slice Ao12 t224.length co12, .slice Ao13 t227.length co13] rfl (by (try simp only [List.map_toArray, List.map_cons, List.map_nil]); first | done | rfl | (simp only [List.length_drop, List.length_take]; rfl)) ?_; (with_reducible refine (glacisref10_Same.calls k _ _ t224 _ _ t227 t230 _ ?side1 ?side2 ?side3 ?side4 A7.out).mono ?_); (case side1 => repeat (first | exact (Kd.R_reads' HO226.out).2.2 | (with_reducible refine Kd.C_alloc ?_ _) | (with_reducible refine Kd.C_drewN ?_ _) | (with_reducible refine Kd.C_drew ?_))); (case side2 => exact (Kd.R_reads' HO226.out).2.1); (case side3 => repeat (first | exact (Kd.R_reads' HO229.out).2.2 | (with_reducible refine Kd.C_alloc ?_ _) | (with_reducible refine Kd.C_drewN ?_ _) | (with_reducible refine Kd.C_drew ?_))); (case side4 => exact (Kd.R_reads' HO229.out).2.1); rintro e w14 ⟨rfl, hb⟩; refine ⟨_, rfl, ?_⟩; have n0_ := Aside0.mk (Kd.R_below (by (with_reducible repeat (first | apply Kd.R_alloc | apply Kd.R_drewN | apply Kd.R_drew)); exact HO226.out) hb); have n1_ := Aside0.mk (Kd.R_below (by (with_reducible repeat (first | apply Kd.R_alloc | apply Kd.R_drewN | apply Kd.R_drew)); exact HO229.out) hb); have n2_ := Aside0.mk (below_step (by repeat (first | (with_reducible first | exact HB.out | apply below_alloc | apply pw_below_drewN | apply below_drew1) | exact HB.out)) hb); clear HO226; clear HO229; clear HB; have HO226 := n0_; have HO229 := n1_; have HB := n2_; clear n0_ n1_ n2_; (try clear hb); (try clear hb2); (try clear hk); (try clear hi)))
      go_ret
      exact ⟨by first | rfl | (simp [errW_none, errW_some] <;> rfl) | (simp [*, errW_none, errW_some] <;> rfl) | (simp [q_ne_nil]; done), by repeat (first | (with_reducible first | exact HB.out | apply below_alloc | apply pw_below_drewN | apply below_drew1) | exact HB.out)⟩
    · replace c8 := Bool.eq_false_iff.mpr c8
      subst c8
      have H1 : (some false) = some r := by rw [if_neg (show ¬ (false = true) by decide)] at H; exact H
      clear H
      have H := H1
      clear H1
      obtain rfl := Option.some.inj H
      go_enter Tryd.func4, Tryd.ntmps4
      go_wp2_with (first | ((with_reducible refine gate_callee (f := 9) rfl ?_); refine goesL_ (some 6) rfl rfl Tryd.func9 (by kernel_rfl) rfl #[] rfl (by (try simp only [List.map_toArray, List.map_cons, List.map_nil]); first | done | rfl | (simp only [List.length_drop, List.length_take]; rfl)) ?_; (with_reducible refine (glacislaw10_awake.calls k  false _ A2.out).mono ?_); rintro e w15 ⟨rfl, hb⟩; refine ⟨_, rfl, ?_⟩; have n0_ := Aside0.mk (below_step (by repeat (first | (with_reducible first | exact HB.out | apply below_alloc | apply pw_below_drewN | apply below_drew1) | exact HB.out)) hb); clear HB; have HB := n0_; clear n0_; (try clear hb); (try clear hb2); (try clear hk); (try clear hi)) | ((with_reducible refine gate_callee (f := 13) rfl ?_); refine goesL_ (some 8) rfl rfl Tryd.func13 (by kernel_rfl) rfl #[.slice A0 l0.length c0] rfl (by (try simp only [List.map_toArray, List.map_cons, List.map_nil]); first | done | rfl | (simp only [List.length_drop, List.length_take]; rfl)) ?_; (with_reducible refine (glacislaw08_Few.calls k _ _ l0 true _ ?side1 ?side2 A3.out).mono ?_); (case side1 => repeat (first | exact (Kd.C_below HR0.out HB.out) | (with_reducible refine Kd.C_alloc ?_ _) | (with_reducible refine Kd.C_drewN ?_ _) | (with_reducible refine Kd.C_drew ?_))); (case side2 => exact HC0.out); rintro e w' ⟨rfl, ⟨nd, rfl⟩⟩; refine ⟨_, rfl, ?_⟩) | ((with_reducible refine gate_callee (f := 15) rfl ?_); refine goesL_ (some 13) rfl rfl Tryd.func15 (by kernel_rfl) rfl #[.slice A0 l0.length c0] rfl (by (try simp only [List.map_toArray, List.map_cons, List.map_nil]); first | done | rfl | (simp only [List.length_drop, List.length_take]; rfl)) ?_; (with_reducible refine (cspparse_Head.calls _ _ l0 t224 _ ?side1 ?side2 A5.out).mono ?_); (case side1 => repeat (first | exact (Kd.C_below HR0.out (by repeat (first | (with_reducible first | exact HB.out | apply below_alloc | apply pw_below_drewN | apply below_drew1) | exact HB.out))) | (with_reducible refine Kd.C_alloc ?_ _) | (with_reducible refine Kd.C_drewN ?_ _) | (with_reducible refine Kd.C_drew ?_))); (case side2 => exact HC0.out); rintro e w16 ⟨v225, rfl, ho0, hb⟩; refine ⟨_, rfl, ?_⟩; have n0_ := Aside0.mk (Kd.R_lower ho0 (below_size (by repeat (first | (with_reducible first | exact HB.out | apply below_alloc | apply pw_below_drewN | apply below_drew1) | exact HB.out)))); have n1_ := Aside0.mk (below_step (by repeat (first | (with_reducible first | exact HB.out | apply below_alloc | apply pw_below_drewN | apply below_drew1) | exact HB.out)) hb); clear HB; have HO226 := n0_; have HB := n1_; clear n0_ n1_; (try clear hb); (try clear hb2); (try clear hk); (try clear hi); (try clear ho0)) | ((with_reducible refine gate_callee (f := 16) rfl ?_); refine goesL_ (some 15) rfl rfl Tryd.func16 (by kernel_rfl) rfl #[.slice A0 l0.length c0] rfl (by (try simp only [List.map_toArray, List.map_cons, List.map_nil]); first | done | rfl | (simp only [List.length_drop, List.length_take]; rfl)) ?_; (with_reducible refine (glacisref10_Head.calls k _ _ l0 t227 _ ?side1 ?side2 A6.out).mono ?_); (case side1 => repeat (first | exact (Kd.C_below HR0.out HB.out) | (with_reducible refine Kd.C_alloc ?_ _) | (with_reducible refine Kd.C_drewN ?_ _) | (with_reducible refine Kd.C_drew ?_))); (case side2 => exact HC0.out); rintro e w17 ⟨v228, rfl, ho0, hb⟩; refine ⟨_, rfl, ?_⟩; have n0_ := Aside0.mk (Kd.R_elder' (by (with_reducible repeat (first | apply Kd.R_alloc | apply Kd.R_drewN | apply Kd.R_drew)); exact HO226.out) (Kd.R_base ho0) hb); have n1_ := Aside0.mk (Kd.R_lower (Kd.R_new' ho0 (Kd.R_lt (by (with_reducible repeat (first | apply Kd.R_alloc | apply Kd.R_drewN | apply Kd.R_drew)); exact HO226.out))) (below_size (by repeat (first | (with_reducible first | exact HB.out | apply below_alloc | apply pw_below_drewN | apply below_drew1) | exact HB.out)))); have n2_ := Aside0.mk (below_step (by repeat (first | (with_reducible first | exact HB.out | apply below_alloc | apply pw_below_drewN | apply below_drew1) | exact HB.out)) hb); clear HO226; clear HB; have HO226 := n0_; have HO229 := n1_; have HB := n2_; clear n0_ n1_ n2_; (try clear hb); (try clear hb2); (try clear hk); (try clear hi); (try clear ho0); obtain ⟨Ao18, co18, eo18⟩ := Kd.R_slice HO226.out; subst eo18; obtain ⟨Ao19, co19, eo19⟩ := Kd.R_slice HO229.out; subst eo19) | ((with_reducible refine gate_callee (f := 14) rfl ?_); refine goesL_ (some 16) rfl rfl Tryd.func14 (by kernel_rfl) rfl #[.slice Ao18 t224.length co18, .slice Ao19 t227.length co19] rfl (by (try simp only [List.map_toArray, List.map_cons, List.map_nil]); first | done | rfl | (simp only [List.length_drop, List.length_take]; rfl)) ?_; (with_reducible refine (glacisref10_Same.calls k _ _ t224 _ _ t227 t230 _ ?side1 ?side2 ?side3 ?side4 A7.out).mono ?_); (case side1 => repeat (first | exact (Kd.R_reads' HO226.out).2.2 | (with_reducible refine Kd.C_alloc ?_ _) | (with_reducible refine Kd.C_drewN ?_ _) | (with_reducible refine Kd.C_drew ?_))); (case side2 => exact (Kd.R_reads' HO226.out).2.1); (case side3 => repeat (first | exact (Kd.R_reads' HO229.out).2.2 | (with_reducible refine Kd.C_alloc ?_ _) | (with_reducible refine Kd.C_drewN ?_ _) | (with_reducible refine Kd.C_drew ?_))); (case side4 => exact (Kd.R_reads' HO229.out).2.1); rintro e w20 ⟨rfl, hb⟩; refine ⟨_, rfl, ?_⟩; have n0_ := Aside0.mk (Kd.R_below (by (with_reducible repeat (first | apply Kd.R_alloc | apply Kd.R_drewN | apply Kd.R_drew)); exact HO226.out) hb); have n1_ := Aside0.mk (Kd.R_below (by (with_reducible repeat (first | apply Kd.R_alloc | apply Kd.R_drewN | apply Kd.R_drew)); exact HO229.out) hb); have n2_ := Aside0.mk (below_step (by repeat (first | (with_reducible first | exact HB.out | apply below_alloc | apply pw_below_drewN | apply below_drew1) | exact HB.out)) hb); clear HO226; clear HO229; clear HB; have HO226 := n0_; have HO229 := n1_; have HB := n2_; clear n0_ n1_ n2_; (try clear hb); (try clear hb2); (try clear hk); (try clear hi)))
      go_ret
      exact ⟨by first | rfl | (simp [errW_none, errW_some] <;> rfl) | (simp [*, errW_none, errW_some] <;> rfl) | (simp [q_ne_nil]; done), by repeat (first | (with_reducible first | exact HB.out | apply below_alloc | apply pw_below_drewN | apply below_drew1) | exact HB.out)⟩
  · replace c4 := Bool.eq_false_iff.mpr c4
    subst c4
    have H1 : (some t222) = some r := by rw [if_neg (show ¬ (false = true) by decide)] at H; exact H
    clear H
    have H := H1
    clear H1
    obtain rfl := Option.some.inj H
    go_enter Tryd.func4, Tryd.ntmps4
    go_wp2_with (first | ((with_reducible refine gate_callee (f := 9) rfl ?_); refine goesL_ (some 6) rfl rfl Tryd.func9 (by kernel_rfl) rfl #[] rfl (by (try simp only [List.map_toArray, List.map_cons, List.map_nil]); first | done | rfl | (simp only [List.length_drop, List.length_take]; rfl)) ?_; (with_reducible refine (glacislaw10_awake.calls k  t222 _ A2.out).mono ?_); rintro e w21 ⟨rfl, hb⟩; refine ⟨_, rfl, ?_⟩; have n0_ := Aside0.mk (below_step (by repeat (first | (with_reducible first | exact HB.out | apply below_alloc | apply pw_below_drewN | apply below_drew1) | exact HB.out)) hb); clear HB; have HB := n0_; clear n0_; (try clear hb); (try clear hb2); (try clear hk); (try clear hi)) | ((with_reducible refine gate_callee (f := 13) rfl ?_); refine goesL_ (some 8) rfl rfl Tryd.func13 (by kernel_rfl) rfl #[.slice A0 l0.length c0] rfl (by (try simp only [List.map_toArray, List.map_cons, List.map_nil]); first | done | rfl | (simp only [List.length_drop, List.length_take]; rfl)) ?_; (with_reducible refine (glacislaw08_Few.calls k _ _ l0 false _ ?side1 ?side2 A3.out).mono ?_); (case side1 => repeat (first | exact (Kd.C_below HR0.out HB.out) | (with_reducible refine Kd.C_alloc ?_ _) | (with_reducible refine Kd.C_drewN ?_ _) | (with_reducible refine Kd.C_drew ?_))); (case side2 => exact HC0.out); rintro e w' ⟨rfl, ⟨nd, rfl⟩⟩; refine ⟨_, rfl, ?_⟩))
    go_ret
    exact ⟨by first | rfl | (simp [errW_none, errW_some] <;> rfl) | (simp [*, errW_none, errW_some] <;> rfl) | (simp [q_ne_nil]; done), by repeat (first | (with_reducible first | exact HB.out | apply below_alloc | apply pw_below_drewN | apply below_drew1) | exact HB.out)⟩

/-! ### glacisref10_words: function 28 -/
def glacisref10_words.l0 : Nat → ByteArray → List ByteArray → Int → Option (ByteArray)
  | 0, _, _, _ => none
  | k + 1, x0, x1, x5 => if x5 < (x1.length : Int) then (if x0.size + 1 ≤ 9223372036854775807 then (if 0 ≤ x5 then (if (x0 ++ (⟨#[32]⟩ : ByteArray)).size + (rdOf ByteArray.empty x1 x5).size ≤ 9223372036854775807 then (glacisref10_words.l0 k ((x0 ++ (⟨#[32]⟩ : ByteArray)) ++ (rdOf ByteArray.empty x1 x5)) x1 (wrap64 (x5 + 1))) else (none)) else (none)) else (none)) else (some x0)
def glacisref10_words.f (k : Nat) (a0 : ByteArray) (l1 : List ByteArray) : Option (ByteArray) := glacisref10_words.l0 k a0 l1 0
theorem glacisref10_words.mono_l : ∀ k, (∀ y0 y1 y2, LeO (glacisref10_words.l0 k y0 y1 y2) (glacisref10_words.l0 (k + 1) y0 y1 y2))
  | 0 => fun _ _ _ r h => by simp [glacisref10_words.l0] at h
  | k + 1 => by
    have ih0 := glacisref10_words.mono_l k
    · intro y0 y1 y2
      unfold glacisref10_words.l0
      repeat' first
      | (with_reducible exact ih0 _ _ _)
      | (with_reducible exact LeO.refl _)
      | (with_reducible exact LeO.none _)
      | (with_reducible refine LeO.ite ?_ ?_)
      | (with_reducible refine LeO.bind ?_ (fun _ => ?_))
      | exact ih0 _ _ _
      | exact LeO.none _
      | refine LeO.ite ?_ ?_
      | refine LeO.bind ?_ (fun _ => ?_)
theorem glacisref10_words.mono : ∀ a0 a1 k, LeO (glacisref10_words.f k a0 a1) (glacisref10_words.f (k + 1) a0 a1) := by
  intro a0 a1 k
  have ih0 := glacisref10_words.mono_l k
  unfold glacisref10_words.f
  repeat' first
      | (with_reducible exact ih0 _ _ _)
      | (with_reducible exact LeO.refl _)
      | (with_reducible exact LeO.none _)
      | (with_reducible refine LeO.ite ?_ ?_)
      | (with_reducible refine LeO.bind ?_ (fun _ => ?_))
      | exact ih0 _ _ _
      | exact LeO.none _
      | refine LeO.ite ?_ ?_
      | refine LeO.bind ?_ (fun _ => ?_)
set_option maxHeartbeats 8000000 in
set_option maxRecDepth 100000 in
theorem glacisref10_words.calls (k : Nat) (a0 : ByteArray) (A1 : Option Addr) (c1 : Nat) (l1 : List ByteArray) (r : ByteArray) (w : World) (hr1 : Kd.C Kd.string w A1 l1.length l1) (hc1 : l1.length ≤ c1) (h : glacisref10_words.f k a0 l1 = some r) :
    Calls Tryd.prog 28 #[.string a0, .slice A1 l1.length c1] w fun e w' => e = .returned (.string r) ∧ Drawn0 w w' := by
  have HR1 := Aside0.mk hr1
  have HC1 := Aside0.mk hc1
  clear hr1 hc1
  have H : (glacisref10_words.l0 k a0 l1 0) = some r := h
  clear h
  have H' := Aside0.mk H
  clear H
  go_enter Tryd.func28, Tryd.ntmps28
  go_wp2
  go_loopg [0, 5] k (fun kq v0 v5 w' => ∃ (x0_1 : ByteArray) (x5_1 : Int), v0 = .string x0_1 ∧ v5 = .int .i64 x5_1 ∧ Aside0 (glacisref10_words.l0 kq x0_1 l1 x5_1 = some r) ∧ Aside0 (kq ≤ k) ∧ Drawn0 w w')
  case atStart => exact ⟨(a0), (0), (by first | rfl | (simp; done) | (simp [*]; done) | (simp [q_ne_nil]; done)), (by first | rfl | (simp; done) | (simp [*]; done) | (simp [q_ne_nil]; done)), H', ⟨Nat.le_refl _⟩, by repeat (first | exact Drawn0.refl _ | apply Drawn0.step)⟩
  case round =>
    clear H'
    try clear c1
    try clear c2
    try clear p2
    obtain ⟨x0_1, x5_1, rfl, rfl, HA, HK1, ⟨m1, rfl⟩⟩ := hrel
    cases gk with
    | zero => exact absurd HA.out (by simp [glacisref10_words.l0])
    | succ k1 =>
      have H := HA.out
      clear HA
      simp only [glacisref10_words.l0] at H
      by_cases c3 : x5_1 < (l1.length : Int)
      · rw [if_pos c3] at H
        have c3b0 : decide (x5_1 < (l1.length : Int)) = true := decide_eq_true c3
        clear c3
        by_cases c4 : x0_1.size + 1 ≤ 9223372036854775807
        · rw [if_pos c4] at H
          have c4b0 := eq_true c4
          have c4b1 : decide (x0_1.size + 1 ≤ 9223372036854775807) = true := decide_eq_true c4
          try have c4b2 : (9223372036854775807 < x0_1.size + 1) = False := eq_false (Nat.not_lt.2 c4)
          by_cases c5 : 0 ≤ x5_1
          · rw [if_pos c5] at H
            have c5b0 : decide (0 ≤ x5_1) = true := decide_eq_true c5
            clear c5
            by_cases c6 : (x0_1 ++ (⟨#[32]⟩ : ByteArray)).size + (rdOf ByteArray.empty l1 x5_1).size ≤ 9223372036854775807
            · rw [if_pos c6] at H
              have c6b0 := eq_true c6
              have c6b1 : decide ((x0_1 ++ (⟨#[32]⟩ : ByteArray)).size + (rdOf ByteArray.empty l1 x5_1).size ≤ 9223372036854775807) = true := decide_eq_true c6
              try have c6b2 : (9223372036854775807 < (x0_1 ++ (⟨#[32]⟩ : ByteArray)).size + (rdOf ByteArray.empty l1 x5_1).size) = False := eq_false (Nat.not_lt.2 c6)
              try (have c6d : (9223372036854775807 < x0_1.size + 1 + (rdOf ByteArray.empty l1 x5_1).size) = False := eq_false (by have h_ := c6; simp only [ByteArray.size_append] at h_; exact Nat.not_lt.2 h_))
              have H' := Aside0.mk H
              clear H
              have p231 : 0 ≤ (x5_1 : Int) := of_decide_eq_true (by first | (with_reducible assumption) | assumption)
              have q231 : x5_1 < (l1.length : Int) := of_decide_eq_true (by first | (with_reducible assumption) | assumption)
              obtain ⟨ad231, e231, hx231_0⟩ := Kd.at_string HR1.out x5_1 p231 q231
              cases e231
              replace p231 := eq_true p231
              replace q231 := eq_true q231
              go_wp2
              go_roundg k1
              case measure => have := HK1.out; omega
              case rel => exact ⟨((x0_1 ++ (⟨#[32]⟩ : ByteArray)) ++ (rdOf ByteArray.empty l1 x5_1)), (wrap64 (x5_1 + 1)), (by first | rfl | (simp; done) | (simp [*]; done) | (simp [q_ne_nil]; done)), (by first | rfl | (simp; done) | (simp [*]; done) | (simp [q_ne_nil]; done)), H', ⟨by have := HK1.out; omega⟩, by repeat (first | exact Drawn0.refl _ | apply Drawn0.step)⟩
            · rw [if_neg c6] at H
              exact absurd H (by simp)
          · rw [if_neg c5] at H
            exact absurd H (by simp)
        · rw [if_neg c4] at H
          exact absurd H (by simp)
      · rw [if_neg c3] at H
        have c3b0 : decide (x5_1 < (l1.length : Int)) = false := decide_eq_false c3
        clear c3
        obtain rfl := Option.some.inj H
        go_wp2
        go_ret
        exact ⟨by first | rfl | (simp; done) | (simp [*]; done) | (simp [q_ne_nil]; done), by repeat (first | exact Drawn0.refl _ | apply Drawn0.step)⟩

end Go.Proofs.YtkjlhhhnananlaaDoor.Q
