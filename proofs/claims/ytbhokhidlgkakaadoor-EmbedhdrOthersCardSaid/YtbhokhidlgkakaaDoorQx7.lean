-- Laid by this seat's own driver (wip/tools/drive.py) out of the translation.
import Derived.Test.YtbhokhidlgkakaaDoorQx0
import Derived.Test.YtbhokhidlgkakaaDoorQx1
import Derived.Test.YtbhokhidlgkakaaDoorQx2
import Derived.Test.YtbhokhidlgkakaaDoorQx3
namespace Go.Proofs.YtbhokhidlgkakaaDoor.Q
open Go.RowKit Go.Proofs.YtbhokhidlgkakaaDoorW.PrintWords Go.Proofs.YtbhokhidlgkakaaDoorW.PrintLast Go.Proofs.YtbhokhidlgkakaaDoorW.PrintMore
attribute [local go_sem] max2_int min2_int max_two min_two max_three min_three max_four min_four   -- for this text's walks alone
set_option linter.unusedVariables false
set_option linter.unusedSimpArgs false

/-! ### glacislaw09_EmbedhdrMore: function 7 -/
mutual
def glacislaw09_EmbedhdrMore.j0 : Nat → List (S28) → ByteArray → Bool → Bool → Option (Bool)
  | 0, _, _, _, _ => none
  | k + 1, x0, x1, x5, x27 => if x27 = true then (some x5) else ((embedhdr_Xfo.f x0).bind fun t228 => ((some (([] : List (S28)) : List (S28))).bind fun y229 => (if y229.length + x0.length < 4398046511104 then ((some (y229 ++ x0 : List (S28))).bind fun y232 => ((glacislaw09_xfo.f x1).bind fun bt235 => (if y232.length < 4398046511104 then ((embedhdr_Xfo.f (y232 ++ [(⟨bt235.1, bt235.2⟩ : S28)])).bind fun t240 => (if t228 = 1 then (glacislaw09_EmbedhdrMore.j1 k x1 x5 t228 t240 (t240 != 1)) else (glacislaw09_EmbedhdrMore.j1 k x1 x5 t228 t240 false))) else (none)))) else (none))))
def glacislaw09_EmbedhdrMore.j1 : Nat → ByteArray → Bool → Int → Int → Bool → Option (Bool)
  | 0, _, _, _, _, _ => none
  | k + 1, x1, x5, x7, x8, x44 => if x44 = true then (some false) else (if x7 = 3 then (glacislaw09_EmbedhdrMore.j2 k x1 x5 x7 x8 (⟨#[97, 108, 108, 111, 119, 97, 108, 108]⟩ : ByteArray)) else (glacislaw09_EmbedhdrMore.j2 k x1 x5 x7 x8 (⟨#[115, 97, 109, 101, 111, 114, 105, 103, 105, 110]⟩ : ByteArray)))
def glacislaw09_EmbedhdrMore.j2 : Nat → ByteArray → Bool → Int → Int → ByteArray → Option (Bool)
  | 0, _, _, _, _, _ => none
  | k + 1, x1, x5, x7, x8, x9 => (glacislaw09_xfo.f x1).bind fun bt241 => ((headers_Parts.f (([(⟨bt241.1, bt241.2⟩ : S28)] : List (S28))) (⟨#[120, 45, 102, 114, 97, 109, 101, 45, 111, 112, 116, 105, 111, 110, 115]⟩ : ByteArray)).bind fun t246 => (glacislaw09_EmbedhdrMore.l0 k x5 x7 x8 x9 t246 true 0))
def glacislaw09_EmbedhdrMore.l0 : Nat → Bool → Int → Int → ByteArray → List ByteArray → Bool → Int → Option (Bool)
  | 0, _, _, _, _, _, _, _ => none
  | k + 1, x5, x7, x8, x9, x10, x11, x12 => if x12 < (x10.length : Int) then (if x11 = true then (if 0 ≤ x12 then ((octet_Lower.f (rdOf ByteArray.empty x10 x12)).bind fun t250 => (glacislaw09_EmbedhdrMore.l0 k x5 x7 x8 x9 x10 (t250.toList == x9.toList) (wrap64 (x12 + 1)))) else (none)) else (glacislaw09_EmbedhdrMore.l0 k x5 x7 x8 x9 x10 false (wrap64 (x12 + 1)))) else (if x7 = 2 then (if x5 = true then (if x11 = true then (if x8 = x7 then (some true) else (some false)) else (some (x8 == 1))) else (some false)) else (if x7 = 3 then (if x5 = true then (if x11 = true then (if x8 = x7 then (some true) else (some false)) else (some (x8 == 1))) else (some false)) else (some x5)))
end
def glacislaw09_EmbedhdrMore.f (k : Nat) (l0 : List (S28)) (a1 : ByteArray) : Option (Bool) := (glacislaw09_awake.f k).bind fun t226 => ((glacislaw08_Few.f k l0).bind fun t227 => (if t227 = true then (if (l0.length : Int) > 90 then (glacislaw09_EmbedhdrMore.j0 k l0 a1 t226 true) else (glacislaw09_EmbedhdrMore.j0 k l0 a1 t226 (decide ((a1.size : Int) > 1000)))) else (glacislaw09_EmbedhdrMore.j0 k l0 a1 t226 true)))
theorem glacislaw09_EmbedhdrMore.mono_l : ∀ k, (∀ y0 y1 y2 y3, LeO (glacislaw09_EmbedhdrMore.j0 k y0 y1 y2 y3) (glacislaw09_EmbedhdrMore.j0 (k + 1) y0 y1 y2 y3)) ∧ (∀ y0 y1 y2 y3 y4, LeO (glacislaw09_EmbedhdrMore.j1 k y0 y1 y2 y3 y4) (glacislaw09_EmbedhdrMore.j1 (k + 1) y0 y1 y2 y3 y4)) ∧ (∀ y0 y1 y2 y3 y4, LeO (glacislaw09_EmbedhdrMore.j2 k y0 y1 y2 y3 y4) (glacislaw09_EmbedhdrMore.j2 (k + 1) y0 y1 y2 y3 y4)) ∧ (∀ y0 y1 y2 y3 y4 y5 y6, LeO (glacislaw09_EmbedhdrMore.l0 k y0 y1 y2 y3 y4 y5 y6) (glacislaw09_EmbedhdrMore.l0 (k + 1) y0 y1 y2 y3 y4 y5 y6))
  | 0 => ⟨fun _ _ _ _ r h => by simp [glacislaw09_EmbedhdrMore.j0] at h, fun _ _ _ _ _ r h => by simp [glacislaw09_EmbedhdrMore.j1] at h, fun _ _ _ _ _ r h => by simp [glacislaw09_EmbedhdrMore.j2] at h, fun _ _ _ _ _ _ _ r h => by simp [glacislaw09_EmbedhdrMore.l0] at h⟩
  | k + 1 => by
    obtain ⟨ih0, ih1, ih2, ih3⟩ := glacislaw09_EmbedhdrMore.mono_l k
    refine ⟨?_, ?_, ?_, ?_⟩
    · intro y0 y1 y2 y3
      unfold glacislaw09_EmbedhdrMore.j0
      repeat' first
      | (with_reducible exact ih0 _ _ _ _)
      | (with_reducible exact ih1 _ _ _ _ _)
      | (with_reducible exact ih2 _ _ _ _ _)
      | (with_reducible exact ih3 _ _ _ _ _ _ _)
      | (with_reducible exact glacislaw08_Few.mono _ _)
      | (with_reducible exact glacislaw09_awake.mono _)
      | (with_reducible exact LeO.refl _)
      | (with_reducible exact LeO.none _)
      | (with_reducible refine LeO.ite ?_ ?_)
      | (with_reducible refine LeO.bind ?_ (fun _ => ?_))
      | exact ih0 _ _ _ _
      | exact ih1 _ _ _ _ _
      | exact ih2 _ _ _ _ _
      | exact ih3 _ _ _ _ _ _ _
      | exact glacislaw08_Few.mono _ _
      | exact glacislaw09_awake.mono _
      | exact LeO.none _
      | refine LeO.ite ?_ ?_
      | refine LeO.bind ?_ (fun _ => ?_)
    · intro y0 y1 y2 y3 y4
      unfold glacislaw09_EmbedhdrMore.j1
      repeat' first
      | (with_reducible exact ih0 _ _ _ _)
      | (with_reducible exact ih1 _ _ _ _ _)
      | (with_reducible exact ih2 _ _ _ _ _)
      | (with_reducible exact ih3 _ _ _ _ _ _ _)
      | (with_reducible exact glacislaw08_Few.mono _ _)
      | (with_reducible exact glacislaw09_awake.mono _)
      | (with_reducible exact LeO.refl _)
      | (with_reducible exact LeO.none _)
      | (with_reducible refine LeO.ite ?_ ?_)
      | (with_reducible refine LeO.bind ?_ (fun _ => ?_))
      | exact ih0 _ _ _ _
      | exact ih1 _ _ _ _ _
      | exact ih2 _ _ _ _ _
      | exact ih3 _ _ _ _ _ _ _
      | exact glacislaw08_Few.mono _ _
      | exact glacislaw09_awake.mono _
      | exact LeO.none _
      | refine LeO.ite ?_ ?_
      | refine LeO.bind ?_ (fun _ => ?_)
    · intro y0 y1 y2 y3 y4
      unfold glacislaw09_EmbedhdrMore.j2
      repeat' first
      | (with_reducible exact ih0 _ _ _ _)
      | (with_reducible exact ih1 _ _ _ _ _)
      | (with_reducible exact ih2 _ _ _ _ _)
      | (with_reducible exact ih3 _ _ _ _ _ _ _)
      | (with_reducible exact glacislaw08_Few.mono _ _)
      | (with_reducible exact glacislaw09_awake.mono _)
      | (with_reducible exact LeO.refl _)
      | (with_reducible exact LeO.none _)
      | (with_reducible refine LeO.ite ?_ ?_)
      | (with_reducible refine LeO.bind ?_ (fun _ => ?_))
      | exact ih0 _ _ _ _
      | exact ih1 _ _ _ _ _
      | exact ih2 _ _ _ _ _
      | exact ih3 _ _ _ _ _ _ _
      | exact glacislaw08_Few.mono _ _
      | exact glacislaw09_awake.mono _
      | exact LeO.none _
      | refine LeO.ite ?_ ?_
      | refine LeO.bind ?_ (fun _ => ?_)
    · intro y0 y1 y2 y3 y4 y5 y6
      unfold glacislaw09_EmbedhdrMore.l0
      repeat' first
      | (with_reducible exact ih0 _ _ _ _)
      | (with_reducible exact ih1 _ _ _ _ _)
      | (with_reducible exact ih2 _ _ _ _ _)
      | (with_reducible exact ih3 _ _ _ _ _ _ _)
      | (with_reducible exact glacislaw08_Few.mono _ _)
      | (with_reducible exact glacislaw09_awake.mono _)
      | (with_reducible exact LeO.refl _)
      | (with_reducible exact LeO.none _)
      | (with_reducible refine LeO.ite ?_ ?_)
      | (with_reducible refine LeO.bind ?_ (fun _ => ?_))
      | exact ih0 _ _ _ _
      | exact ih1 _ _ _ _ _
      | exact ih2 _ _ _ _ _
      | exact ih3 _ _ _ _ _ _ _
      | exact glacislaw08_Few.mono _ _
      | exact glacislaw09_awake.mono _
      | exact LeO.none _
      | refine LeO.ite ?_ ?_
      | refine LeO.bind ?_ (fun _ => ?_)
theorem glacislaw09_EmbedhdrMore.mono : ∀ a0 a1 k, LeO (glacislaw09_EmbedhdrMore.f k a0 a1) (glacislaw09_EmbedhdrMore.f (k + 1) a0 a1) := by
  intro a0 a1 k
  obtain ⟨ih0, ih1, ih2, ih3⟩ := glacislaw09_EmbedhdrMore.mono_l k
  unfold glacislaw09_EmbedhdrMore.f
  repeat' first
      | (with_reducible exact ih0 _ _ _ _)
      | (with_reducible exact ih1 _ _ _ _ _)
      | (with_reducible exact ih2 _ _ _ _ _)
      | (with_reducible exact ih3 _ _ _ _ _ _ _)
      | (with_reducible exact glacislaw08_Few.mono _ _)
      | (with_reducible exact glacislaw09_awake.mono _)
      | (with_reducible exact LeO.refl _)
      | (with_reducible exact LeO.none _)
      | (with_reducible refine LeO.ite ?_ ?_)
      | (with_reducible refine LeO.bind ?_ (fun _ => ?_))
      | exact ih0 _ _ _ _
      | exact ih1 _ _ _ _ _
      | exact ih2 _ _ _ _ _
      | exact ih3 _ _ _ _ _ _ _
      | exact glacislaw08_Few.mono _ _
      | exact glacislaw09_awake.mono _
      | exact LeO.none _
      | refine LeO.ite ?_ ?_
      | refine LeO.bind ?_ (fun _ => ?_)
set_option maxHeartbeats 8000000 in
set_option maxRecDepth 100000 in
theorem glacislaw09_EmbedhdrMore.calls (k : Nat) (A0 : Option Addr) (c0 : Nat) (l0 : List (S28)) (a1 : ByteArray) (r : Bool) (w : World) (hr0 : Kd.C k28 w A0 l0.length l0) (hc0 : l0.length ≤ c0) (h : glacislaw09_EmbedhdrMore.f k l0 a1 = some r) :
    Calls Tryd.prog 7 #[.slice A0 l0.length c0, .string a1] w fun e w' => e = .returned (.bool r) ∧ Below w.heap.size w w' := by
  have HR0 := Aside0.mk hr0
  have HC0 := Aside0.mk hc0
  clear hr0 hc0
  have HB := Aside0.mk (Below.refl w.heap.size w)
  have H : ((glacislaw09_awake.f k).bind fun t226 => ((glacislaw08_Few.f k l0).bind fun t227 => (if t227 = true then (if (l0.length : Int) > 90 then (glacislaw09_EmbedhdrMore.j0 k l0 a1 t226 true) else (glacislaw09_EmbedhdrMore.j0 k l0 a1 t226 (decide ((a1.size : Int) > 1000)))) else (glacislaw09_EmbedhdrMore.j0 k l0 a1 t226 true)))) = some r := h
  clear h
  replace H := Option.bind_eq_some_iff.mp H
  obtain ⟨t226, A30, H⟩ := H
  replace H : ((glacislaw08_Few.f k l0).bind fun t227 => (if t227 = true then (if (l0.length : Int) > 90 then (glacislaw09_EmbedhdrMore.j0 k l0 a1 t226 true) else (glacislaw09_EmbedhdrMore.j0 k l0 a1 t226 (decide ((a1.size : Int) > 1000)))) else (glacislaw09_EmbedhdrMore.j0 k l0 a1 t226 true))) = some r := H
  have A3 := Aside0.mk A30
  clear A30
  replace H := Option.bind_eq_some_iff.mp H
  obtain ⟨t227, A40, H⟩ := H
  replace H : (if t227 = true then (if (l0.length : Int) > 90 then (glacislaw09_EmbedhdrMore.j0 k l0 a1 t226 true) else (glacislaw09_EmbedhdrMore.j0 k l0 a1 t226 (decide ((a1.size : Int) > 1000)))) else (glacislaw09_EmbedhdrMore.j0 k l0 a1 t226 true)) = some r := H
  have A4 := Aside0.mk A40
  clear A40
  have HC5 := Aside0.mk H
  clear H
  go_enter Tryd.func7, Tryd.ntmps7
  go_upto_region 3 with (first | ((with_reducible refine gate_callee (f := 9) rfl ?_); refine goesL_ (some 13) rfl rfl Tryd.func9 (by kernel_rfl) rfl #[] rfl (by (try simp only [List.map_toArray, List.map_cons, List.map_nil]); first | done | rfl | (simp only [List.length_drop, List.length_take]; rfl)) ?_; (with_reducible refine (glacislaw09_awake.calls k  t226 _ A3.out).mono ?_); rintro e w6 ⟨rfl, hb⟩; refine ⟨_, rfl, ?_⟩; have n0_ := Aside0.mk (below_step (by repeat (first | (with_reducible first | exact HB.out | apply below_alloc | apply pw_below_drewN | apply below_drew1) | exact HB.out)) hb); clear HB; have HB := n0_; clear n0_; (try clear hb); (try clear hb2); (try clear hk); (try clear hi)) | ((with_reducible refine gate_callee (f := 10) rfl ?_); refine goesL_ (some 15) rfl rfl Tryd.func10 (by kernel_rfl) rfl #[.slice A0 l0.length c0] rfl (by (try simp only [List.map_toArray, List.map_cons, List.map_nil]); first | done | rfl | (simp only [List.length_drop, List.length_take]; rfl)) ?_; (with_reducible refine (glacislaw08_Few.calls k _ _ l0 t227 _ ?side1 ?side2 A4.out).mono ?_); (case side1 => repeat (first | exact (Kd.C_below HR0.out HB.out) | (with_reducible refine Kd.C_alloc ?_ _) | (with_reducible refine Kd.C_drewN ?_ _) | (with_reducible refine Kd.C_drew ?_))); (case side2 => exact HC0.out); rintro e w' ⟨rfl, ⟨nd, rfl⟩⟩; refine ⟨_, rfl, ?_⟩))
  (try simp only [Act.put, List.setIfInBounds_toArray, List.set_cons_zero, List.set_cons_succ])
  go_cut [27] (fun v27 wc => ∃ (kq : Nat) (x27_4 : Bool), v27 = .bool x27_4 ∧ Aside0 (glacislaw09_EmbedhdrMore.j0 kq l0 a1 t226 x27_4 = some r) ∧ Aside0 (kq ≤ k) ∧ Aside0 (Below w.heap.size w wc))
  case first =>
    have H := HC5.out
    clear HC5
    by_cases c7 : t227 = true
    · subst c7
      have H1 : (if (l0.length : Int) > 90 then (glacislaw09_EmbedhdrMore.j0 k l0 a1 t226 true) else (glacislaw09_EmbedhdrMore.j0 k l0 a1 t226 (decide ((a1.size : Int) > 1000)))) = some r := by rw [if_pos rfl] at H; exact H
      clear H
      have H := H1
      clear H1
      by_cases c8 : (l0.length : Int) > 90
      · rw [if_pos c8] at H
        have c8b0 : decide (90 < (l0.length : Int)) = true := decide_eq_true c8
        have c8b1 : decide (90 < l0.length) = true := decide_eq_true (by omega)
        clear c8
        (first | rw [c8b0] | (simp only [i64_w, i32_w]; rw [c8b0]) | skip)
        have H' := Aside0.mk H
        clear H
        go_wp2
        go_meet
        case rel => exact ⟨_, (true), (by first | rfl | (simp; done) | (simp [*]; done) | (simp [q_ne_nil]; done)), H', ⟨by first | omega | exact Nat.le_refl _⟩, ⟨by repeat (first | (with_reducible first | exact HB.out | apply below_alloc | apply pw_below_drewN | apply below_drew1) | exact HB.out)⟩⟩
      · rw [if_neg c8] at H
        have c8b0 : decide (90 < (l0.length : Int)) = false := decide_eq_false c8
        have c8b1 : decide (90 < l0.length) = false := decide_eq_false (by omega)
        clear c8
        (first | rw [c8b0] | (simp only [i64_w, i32_w]; rw [c8b0]) | skip)
        have H' := Aside0.mk H
        clear H
        go_wp2
        go_meet
        case rel => exact ⟨_, (decide ((a1.size : Int) > 1000)), (by first | rfl | (simp; done) | (simp [*]; done) | (simp [q_ne_nil]; done)), H', ⟨by first | omega | exact Nat.le_refl _⟩, ⟨by repeat (first | (with_reducible first | exact HB.out | apply below_alloc | apply pw_below_drewN | apply below_drew1) | exact HB.out)⟩⟩
    · replace c7 := Bool.eq_false_iff.mpr c7
      subst c7
      have H1 : (glacislaw09_EmbedhdrMore.j0 k l0 a1 t226 true) = some r := by rw [if_neg (show ¬ (false = true) by decide)] at H; exact H
      clear H
      have H := H1
      clear H1
      have H' := Aside0.mk H
      clear H
      go_wp2
      go_meet
      case rel => exact ⟨_, (true), (by first | rfl | (simp; done) | (simp [*]; done) | (simp [q_ne_nil]; done)), H', ⟨by first | omega | exact Nat.le_refl _⟩, ⟨by repeat (first | (with_reducible first | exact HB.out | apply below_alloc | apply pw_below_drewN | apply below_drew1) | exact HB.out)⟩⟩
  case rest =>
    clear HC5
    try clear c1
    try clear p2
    try clear c7
    try clear c8
    try clear c8b0
    try clear c8b1
    obtain ⟨kq, x27_4, rfl, HA, HJ4, HB⟩ := hcut
    cases kq with
    | zero => exact absurd HA.out (by simp [glacislaw09_EmbedhdrMore.j0])
    | succ kj4 =>
      have H := HA.out
      clear HA
      simp only [glacislaw09_EmbedhdrMore.j0] at H
      by_cases c9 : x27_4 = true
      · subst c9
        have H1 : (some t226) = some r := by rw [if_pos rfl] at H; exact H
        clear H
        have H := H1
        clear H1
        obtain rfl := Option.some.inj H
        go_wp2
        go_ret
        exact ⟨by first | rfl | (simp [errW_none, errW_some] <;> rfl) | (simp [*, errW_none, errW_some] <;> rfl) | (simp [q_ne_nil]; done), by repeat (first | (with_reducible first | exact HB.out | apply below_alloc | apply pw_below_drewN | apply below_drew1) | exact HB.out)⟩
      · replace c9 := Bool.eq_false_iff.mpr c9
        subst c9
        have H1 : ((embedhdr_Xfo.f l0).bind fun t228 => ((some (([] : List (S28)) : List (S28))).bind fun y229 => (if y229.length + l0.length < 4398046511104 then ((some (y229 ++ l0 : List (S28))).bind fun y232 => ((glacislaw09_xfo.f a1).bind fun bt235 => (if y232.length < 4398046511104 then ((embedhdr_Xfo.f (y232 ++ [(⟨bt235.1, bt235.2⟩ : S28)])).bind fun t240 => (if t228 = 1 then (glacislaw09_EmbedhdrMore.j1 kj4 a1 t226 t228 t240 (t240 != 1)) else (glacislaw09_EmbedhdrMore.j1 kj4 a1 t226 t228 t240 false))) else (none)))) else (none)))) = some r := by rw [if_neg (show ¬ (false = true) by decide)] at H; exact H
        clear H
        have H := H1
        clear H1
        replace H := Option.bind_eq_some_iff.mp H
        obtain ⟨t228, A100, H⟩ := H
        replace H : ((some (([] : List (S28)) : List (S28))).bind fun y229 => (if y229.length + l0.length < 4398046511104 then ((some (y229 ++ l0 : List (S28))).bind fun y232 => ((glacislaw09_xfo.f a1).bind fun bt235 => (if y232.length < 4398046511104 then ((embedhdr_Xfo.f (y232 ++ [(⟨bt235.1, bt235.2⟩ : S28)])).bind fun t240 => (if t228 = 1 then (glacislaw09_EmbedhdrMore.j1 kj4 a1 t226 t228 t240 (t240 != 1)) else (glacislaw09_EmbedhdrMore.j1 kj4 a1 t226 t228 t240 false))) else (none)))) else (none))) = some r := H
        have A10 := Aside0.mk A100
        clear A100
        obtain ⟨y229, hy229⟩ : ∃ y_ : List (S28), y_ = (([] : List (S28))) := ⟨_, rfl⟩
        replace H : (if y229.length + l0.length < 4398046511104 then ((some (y229 ++ l0 : List (S28))).bind fun y232 => ((glacislaw09_xfo.f a1).bind fun bt235 => (if y232.length < 4398046511104 then ((embedhdr_Xfo.f (y232 ++ [(⟨bt235.1, bt235.2⟩ : S28)])).bind fun t240 => (if t228 = 1 then (glacislaw09_EmbedhdrMore.j1 kj4 a1 t226 t228 t240 (t240 != 1)) else (glacislaw09_EmbedhdrMore.j1 kj4 a1 t226 t228 t240 false))) else (none)))) else (none)) = some r := by first | (rw [hy229]; with_reducible exact H) | (have H2_ := (Option.bind_some _ _).symm.trans H; rw [hy229]; with_reducible exact H2_) | (have H2_ := (Option.bind_some _ _).symm.trans H; with_reducible exact H2_) | with_reducible exact H | (rw [hy229]; exact H) | exact H
        have Ny229 := Aside0.mk hy229
        clear hy229
        by_cases c11 : y229.length + l0.length < 4398046511104
        · rw [if_pos c11] at H
          have LMc11 := Aside0.mk c11
          clear c11
          obtain ⟨y232, hy232⟩ : ∃ y_ : List (S28), y_ = (y229 ++ l0) := ⟨_, rfl⟩
          replace H : ((glacislaw09_xfo.f a1).bind fun bt235 => (if y232.length < 4398046511104 then ((embedhdr_Xfo.f (y232 ++ [(⟨bt235.1, bt235.2⟩ : S28)])).bind fun t240 => (if t228 = 1 then (glacislaw09_EmbedhdrMore.j1 kj4 a1 t226 t228 t240 (t240 != 1)) else (glacislaw09_EmbedhdrMore.j1 kj4 a1 t226 t228 t240 false))) else (none))) = some r := by first | (rw [hy232]; with_reducible exact H) | (have H2_ := (Option.bind_some _ _).symm.trans H; rw [hy232]; with_reducible exact H2_) | (have H2_ := (Option.bind_some _ _).symm.trans H; with_reducible exact H2_) | with_reducible exact H | (rw [hy232]; exact H) | exact H
          have Ny232 := Aside0.mk hy232
          clear hy232
          replace H := Option.bind_eq_some_iff.mp H
          obtain ⟨⟨t235, t236⟩, A120, H⟩ := H
          replace H : (if y232.length < 4398046511104 then ((embedhdr_Xfo.f (y232 ++ [(⟨t235, t236⟩ : S28)])).bind fun t240 => (if t228 = 1 then (glacislaw09_EmbedhdrMore.j1 kj4 a1 t226 t228 t240 (t240 != 1)) else (glacislaw09_EmbedhdrMore.j1 kj4 a1 t226 t228 t240 false))) else (none)) = some r := H
          have A12 := Aside0.mk A120
          clear A120
          by_cases c13 : y232.length < 4398046511104
          · rw [if_pos c13] at H
            have LMc13 := Aside0.mk c13
            clear c13
            obtain ⟨y237, hy237⟩ : ∃ y_ : List (S28), y_ = (y232 ++ [(⟨t235, t236⟩ : S28)]) := ⟨_, rfl⟩
            replace H : ((embedhdr_Xfo.f y237).bind fun t240 => (if t228 = 1 then (glacislaw09_EmbedhdrMore.j1 kj4 a1 t226 t228 t240 (t240 != 1)) else (glacislaw09_EmbedhdrMore.j1 kj4 a1 t226 t228 t240 false))) = some r := by first | (rw [hy237]; with_reducible exact H) | (have H2_ := (Option.bind_some _ _).symm.trans H; rw [hy237]; with_reducible exact H2_) | (have H2_ := (Option.bind_some _ _).symm.trans H; with_reducible exact H2_) | with_reducible exact H | (rw [hy237]; exact H) | exact H
            have Ny237 := Aside0.mk hy237
            clear hy237
            replace H := Option.bind_eq_some_iff.mp H
            obtain ⟨t240, A140, H⟩ := H
            replace H : (if t228 = 1 then (glacislaw09_EmbedhdrMore.j1 kj4 a1 t226 t228 t240 (t240 != 1)) else (glacislaw09_EmbedhdrMore.j1 kj4 a1 t226 t228 t240 false)) = some r := H
            have A14 := Aside0.mk A140
            clear A140
            have HC15 := Aside0.mk H
            clear H
            go_upto_region 7 with (first | ((with_reducible refine gate_callee (f := 13) rfl ?_); refine goesL_ (some 30) rfl rfl Tryd.func13 (by kernel_rfl) rfl #[.slice A0 l0.length c0] rfl (by (try simp only [List.map_toArray, List.map_cons, List.map_nil]); first | done | rfl | (simp only [List.length_drop, List.length_take]; rfl)) ?_; (with_reducible refine (embedhdr_Xfo.calls _ _ l0 t228 _ ?side1 ?side2 A10.out).mono ?_); (case side1 => repeat (first | exact (Kd.C_below HR0.out HB.out) | (with_reducible refine Kd.C_alloc ?_ _) | (with_reducible refine Kd.C_drewN ?_ _) | (with_reducible refine Kd.C_drew ?_))); (case side2 => exact HC0.out); rintro e w16 ⟨rfl, hb⟩; refine ⟨_, rfl, ?_⟩; have n0_ := Aside0.mk (below_step (by repeat (first | (with_reducible first | exact HB.out | apply below_alloc | apply pw_below_drewN | apply below_drew1) | exact HB.out)) hb); clear HB; have HB := n0_; clear n0_; (try clear hb); (try clear hb2); (try clear hk); (try clear hi)) | ((with_reducible refine gate_dst (N := 31) rfl ?_); (try (refine gate_guard (by rfl) ?_; dsimp only)); refine Kd.R_lit k28 _ 28 ?hg (N := 31) ?hd (xs := ([] : List (S28))) (inner := []) (ok := fun _ => True) (okp := fun _ => True) ?hr ?hp (fun _ hk => hk) trivial (Below.refl _ _) (Nat.le_refl _) (by simp) ?_; (case hd => rfl); (case hg => rfl); (case hr => first | (go_simp; done) | (go_simp; rfl)); (case hp => exact (Reps.none _ _)); intro v230 w17 ho18 hb hg_ hnew_; clear hg_ hnew_; (first | rw [← Ny229.out] at ho18 | (simp only [Int.reduceToNat] at ho18; rw [← Ny229.out] at ho18)); have n0_ := Aside0.mk (Kd.R_lower ho18 (below_size (by repeat (first | (with_reducible first | exact HB.out | apply below_alloc | apply pw_below_drewN | apply below_drew1) | exact HB.out)))); have n1_ := Aside0.mk (below_step (by repeat (first | (with_reducible first | exact HB.out | apply below_alloc | apply pw_below_drewN | apply below_drew1) | exact HB.out)) hb); clear HB; have HO231 := n0_; have HB := n1_; clear n0_ n1_; clear hb ho18) | ((with_reducible refine gate_builtin (b := .append) (xs := #[.tmp 31, .tmp 32]) rfl ?_); (try (refine gate_guard (by rfl) ?_; dsimp only)); at_builtin; refine Kd.R_append_rows k28 (w0 := w) w.heap.size rfl (.tmp 31) (.tmp 32) 23 28 (.agg #[(.string ⟨#[]⟩), (.string ⟨#[]⟩)]) 32 rfl Tryd.underlying23 info28 rfl (by decide) (by omega) v230 y229 l0 _ _ _ (fun _ => True) (fun _ => False) rfl rfl ?aO ?aR (fun _ _ h => h) (fun _ h => h.elim) ?aF ?aB ?aS ?aL ?_; (case aR => repeat (first | exact (Kd.C_below HR0.out HB.out) | (with_reducible refine Kd.C_alloc ?_ _) | (with_reducible refine Kd.C_drewN ?_ _) | (with_reducible refine Kd.C_drew ?_))); (case aB => exact (by repeat (first | (with_reducible first | exact HB.out | apply below_alloc | apply pw_below_drewN | apply below_drew1) | exact HB.out))); (case aF => exact (fun _ _ => trivial)); (case aO => exact (by (with_reducible repeat (first | apply Kd.R_alloc | apply Kd.R_drewN | apply Kd.R_drew)); exact HO231.out)); (case aS => exact (below_size (by repeat (first | (with_reducible first | exact HB.out | apply below_alloc | apply pw_below_drewN | apply below_drew1) | exact HB.out)))); (case aL => have := LMc11.out; omega); intro v233 w19 ho hb hg hat; rw [← Ny232.out] at ho; have n0_ := Aside0.mk (hb); have n1_ := Aside0.mk (ho); clear HB; clear HO231; have HB := n0_; have HO234 := n1_; clear n0_ n1_; clear ho hb hg hat) | ((with_reducible refine gate_callee (f := 15) rfl ?_); refine goesL_ (some 35) rfl rfl Tryd.func15 (by kernel_rfl) rfl #[.string a1] rfl (by (try simp only [List.map_toArray, List.map_cons, List.map_nil]); first | done | rfl | (simp only [List.length_drop, List.length_take]; rfl)) ?_; (with_reducible refine (glacislaw09_xfo.calls a1 t235 t236 _ A12.out).mono ?_); rintro e w20 ⟨rfl, hb⟩; refine ⟨_, rfl, ?_⟩; have n0_ := Aside0.mk (Kd.R_below (by (with_reducible repeat (first | apply Kd.R_alloc | apply Kd.R_drewN | apply Kd.R_drew)); exact HO234.out) hb); have n1_ := Aside0.mk (below_step (by repeat (first | (with_reducible first | exact HB.out | apply below_alloc | apply pw_below_drewN | apply below_drew1) | exact HB.out)) hb); clear HO234; clear HB; have HO234 := n0_; have HB := n1_; clear n0_ n1_; (try clear hb); (try clear hb2); (try clear hk); (try clear hi)) | ((with_reducible refine gate_builtin (b := .append) (xs := #[.tmp 33, .tmp 36]) rfl ?_); (try (refine gate_guard (by rfl) ?_; dsimp only)); at_builtin; refine Kd.R_append k28 (w0 := w) w.heap.size rfl (.tmp 33) (.tmp 36) 23 28 (.agg #[(.string ⟨#[]⟩), (.string ⟨#[]⟩)]) 32 rfl Tryd.underlying23 info28 rfl (by decide) (by omega) v233 y232 (⟨t235, t236⟩ : S28) [.string t235, .string t236] (fun _ => True) (fun _ => False) rfl rfl ?aP (fun _ hk => hk.elim) ?aF ?aO ?aB ?aS ?aL ?_; (case aP => exact k28_mkM _ _ _ (⟨t235, t236⟩ : S28)); (case aB => exact (by repeat (first | (with_reducible first | exact HB.out | apply below_alloc | apply pw_below_drewN | apply below_drew1) | exact HB.out))); (case aF => exact (fun _ _ => trivial)); (case aO => exact (by (with_reducible repeat (first | apply Kd.R_alloc | apply Kd.R_drewN | apply Kd.R_drew)); exact HO234.out)); (case aS => exact (below_size (by repeat (first | (with_reducible first | exact HB.out | apply below_alloc | apply pw_below_drewN | apply below_drew1) | exact HB.out)))); (case aL => have := LMc13.out; omega); intro v238 w21 ho hb hg hat; rw [← Ny237.out] at ho; have n0_ := Aside0.mk (hb); have n1_ := Aside0.mk (ho); clear HB; clear HO234; have HB := n0_; have HO239 := n1_; clear n0_ n1_; clear ho hb hg hat; obtain ⟨Ao22, co22, eo22⟩ := Kd.R_slice HO239.out; subst eo22) | ((with_reducible refine gate_callee (f := 13) rfl ?_); refine goesL_ (some 38) rfl rfl Tryd.func13 (by kernel_rfl) rfl #[.slice Ao22 y237.length co22] rfl (by (try simp only [List.map_toArray, List.map_cons, List.map_nil]); first | done | rfl | (simp only [List.length_drop, List.length_take]; rfl)) ?_; (with_reducible refine (embedhdr_Xfo.calls _ _ y237 t240 _ ?side1 ?side2 A14.out).mono ?_); (case side1 => repeat (first | exact (Kd.R_reads' HO239.out).2.2 | (with_reducible refine Kd.C_alloc ?_ _) | (with_reducible refine Kd.C_drewN ?_ _) | (with_reducible refine Kd.C_drew ?_))); (case side2 => exact (Kd.R_reads' HO239.out).2.1); rintro e w23 ⟨rfl, hb⟩; refine ⟨_, rfl, ?_⟩; have n0_ := Aside0.mk (Kd.R_below (by (with_reducible repeat (first | apply Kd.R_alloc | apply Kd.R_drewN | apply Kd.R_drew)); exact HO239.out) hb); have n1_ := Aside0.mk (below_step (by repeat (first | (with_reducible first | exact HB.out | apply below_alloc | apply pw_below_drewN | apply below_drew1) | exact HB.out)) hb); clear HO239; clear HB; have HO239 := n0_; have HB := n1_; clear n0_ n1_; (try clear hb); (try clear hb2); (try clear hk); (try clear hi)))
            (try simp only [Act.put, List.setIfInBounds_toArray, List.set_cons_zero, List.set_cons_succ])
            go_cut [44] (fun v44 wc => ∃ (kq : Nat) (x44_14 : Bool), v44 = .bool x44_14 ∧ Aside0 (glacislaw09_EmbedhdrMore.j1 kq a1 t226 t228 t240 x44_14 = some r) ∧ Aside0 (kq ≤ kj4) ∧ Aside0 (Below w.heap.size w wc))
            case first =>
              have H := HC15.out
              clear HC15
              by_cases c24 : t228 = 1
              · rw [if_pos c24] at H
                have c24b0 : (t228 == 1) = true := beq_iff_eq.mpr c24
                have c24b1 : (t228 != 1) = false := bne_eq_false_iff_eq.mpr c24
                clear c24
                (first | rw [c24b0] | (simp only [i64_w, i32_w]; rw [c24b0]) | skip)
                have H' := Aside0.mk H
                clear H
                go_wp2
                go_meet
                case rel => exact ⟨_, ((t240 != 1)), (by first | rfl | (simp; done) | (simp [*]; done) | (simp [q_ne_nil]; done)), H', ⟨by have := HJ4.out; first | omega | exact Nat.le_refl _⟩, ⟨by repeat (first | (with_reducible first | exact HB.out | apply below_alloc | apply pw_below_drewN | apply below_drew1) | exact HB.out)⟩⟩
              · rw [if_neg c24] at H
                have c24b0 : (t228 == 1) = false := beq_eq_false_iff_ne.mpr c24
                have c24b1 : (t228 != 1) = true := bne_iff_ne.mpr c24
                (first | rw [c24b0] | (simp only [i64_w, i32_w]; rw [c24b0]) | skip)
                have H' := Aside0.mk H
                clear H
                go_wp2
                go_meet
                case rel => exact ⟨_, (false), (by first | rfl | (simp; done) | (simp [*]; done) | (simp [q_ne_nil]; done)), H', ⟨by have := HJ4.out; first | omega | exact Nat.le_refl _⟩, ⟨by repeat (first | (with_reducible first | exact HB.out | apply below_alloc | apply pw_below_drewN | apply below_drew1) | exact HB.out)⟩⟩
            case rest =>
              clear HC15
              try clear c1
              try clear c2
              try clear p2
              try clear c7
              try clear c8
              try clear c8b0
              try clear c8b1
              try clear c9
              try clear c10
              try clear c11
              try clear c13
              try clear c15
              try clear c24
              try clear c24b0
              try clear c24b1
              try clear p2
              obtain ⟨kq, x44_14, rfl, HA, HJ14, HB⟩ := hcut
              cases kq with
              | zero => exact absurd HA.out (by simp [glacislaw09_EmbedhdrMore.j1])
              | succ kj14 =>
                have H := HA.out
                clear HA
                simp only [glacislaw09_EmbedhdrMore.j1] at H
                by_cases c25 : x44_14 = true
                · subst c25
                  have H1 : (some false) = some r := by rw [if_pos rfl] at H; exact H
                  clear H
                  have H := H1
                  clear H1
                  obtain rfl := Option.some.inj H
                  go_wp2
                  go_ret
                  exact ⟨by first | rfl | (simp [errW_none, errW_some] <;> rfl) | (simp [*, errW_none, errW_some] <;> rfl) | (simp [q_ne_nil]; done), by repeat (first | (with_reducible first | exact HB.out | apply below_alloc | apply pw_below_drewN | apply below_drew1) | exact HB.out)⟩
                · replace c25 := Bool.eq_false_iff.mpr c25
                  subst c25
                  have H1 : (if t228 = 3 then (glacislaw09_EmbedhdrMore.j2 kj14 a1 t226 t228 t240 (⟨#[97, 108, 108, 111, 119, 97, 108, 108]⟩ : ByteArray)) else (glacislaw09_EmbedhdrMore.j2 kj14 a1 t226 t228 t240 (⟨#[115, 97, 109, 101, 111, 114, 105, 103, 105, 110]⟩ : ByteArray))) = some r := by rw [if_neg (show ¬ (false = true) by decide)] at H; exact H
                  clear H
                  have H := H1
                  clear H1
                  have HC26 := Aside0.mk H
                  clear H
                  go_upto_if 46 with (fail)
                  go_cut [9] (fun v9 wc => ∃ (kq : Nat) (x9_25 : ByteArray), v9 = .string x9_25 ∧ Aside0 (glacislaw09_EmbedhdrMore.j2 kq a1 t226 t228 t240 x9_25 = some r) ∧ Aside0 (kq ≤ kj14) ∧ Aside0 (Below w.heap.size w wc))
                  case first =>
                    have H := HC26.out
                    clear HC26
                    by_cases c27 : t228 = 3
                    · rw [if_pos c27] at H
                      have c27b0 : (t228 == 3) = true := beq_iff_eq.mpr c27
                      have c27b1 : (t228 != 3) = false := bne_eq_false_iff_eq.mpr c27
                      clear c27
                      (first | rw [c27b0] | (simp only [i64_w, i32_w]; rw [c27b0]) | skip)
                      have H' := Aside0.mk H
                      clear H
                      go_wp2
                      go_meet
                      case rel => exact ⟨_, ((⟨#[97, 108, 108, 111, 119, 97, 108, 108]⟩ : ByteArray)), (by first | rfl | (simp; done) | (simp [*]; done) | (simp [q_ne_nil]; done)), H', ⟨by have := HJ4.out; have := HJ14.out; first | omega | exact Nat.le_refl _⟩, ⟨by repeat (first | (with_reducible first | exact HB.out | apply below_alloc | apply pw_below_drewN | apply below_drew1) | exact HB.out)⟩⟩
                    · rw [if_neg c27] at H
                      have c27b0 : (t228 == 3) = false := beq_eq_false_iff_ne.mpr c27
                      have c27b1 : (t228 != 3) = true := bne_iff_ne.mpr c27
                      (first | rw [c27b0] | (simp only [i64_w, i32_w]; rw [c27b0]) | skip)
                      have H' := Aside0.mk H
                      clear H
                      go_wp2
                      go_meet
                      case rel => exact ⟨_, ((⟨#[115, 97, 109, 101, 111, 114, 105, 103, 105, 110]⟩ : ByteArray)), (by first | rfl | (simp; done) | (simp [*]; done) | (simp [q_ne_nil]; done)), H', ⟨by have := HJ4.out; have := HJ14.out; first | omega | exact Nat.le_refl _⟩, ⟨by repeat (first | (with_reducible first | exact HB.out | apply below_alloc | apply pw_below_drewN | apply below_drew1) | exact HB.out)⟩⟩
                  case rest =>
                    clear HC26
                    try clear c1
                    try clear c2
                    try clear p2
                    try clear c7
                    try clear c8
                    try clear c8b0
                    try clear c8b1
                    try clear c9
                    try clear c10
                    try clear c11
                    try clear c13
                    try clear c15
                    try clear c24
                    try clear c24b0
                    try clear c24b1
                    try clear c25
                    try clear c27
                    try clear c27b0
                    try clear c27b1
                    try clear p2
                    obtain ⟨kq, x9_25, rfl, HA, HJ25, HB⟩ := hcut
                    cases kq with
                    | zero => exact absurd HA.out (by simp [glacislaw09_EmbedhdrMore.j2])
                    | succ kj25 =>
                      have H := HA.out
                      clear HA
                      simp only [glacislaw09_EmbedhdrMore.j2] at H
                      replace H := Option.bind_eq_some_iff.mp H
                      obtain ⟨⟨t241, t242⟩, A280, H⟩ := H
                      replace H : ((headers_Parts.f (([(⟨t241, t242⟩ : S28)] : List (S28))) (⟨#[120, 45, 102, 114, 97, 109, 101, 45, 111, 112, 116, 105, 111, 110, 115]⟩ : ByteArray)).bind fun t246 => (glacislaw09_EmbedhdrMore.l0 kj25 t226 t228 t240 x9_25 t246 true 0)) = some r := H
                      have A28 := Aside0.mk A280
                      clear A280
                      obtain ⟨y243, hy243⟩ : ∃ y_ : List (S28), y_ = (([(⟨t241, t242⟩ : S28)] : List (S28))) := ⟨_, rfl⟩
                      replace H : ((headers_Parts.f y243 (⟨#[120, 45, 102, 114, 97, 109, 101, 45, 111, 112, 116, 105, 111, 110, 115]⟩ : ByteArray)).bind fun t246 => (glacislaw09_EmbedhdrMore.l0 kj25 t226 t228 t240 x9_25 t246 true 0)) = some r := by first | (rw [hy243]; with_reducible exact H) | (have H2_ := (Option.bind_some _ _).symm.trans H; rw [hy243]; with_reducible exact H2_) | (have H2_ := (Option.bind_some _ _).symm.trans H; with_reducible exact H2_) | with_reducible exact H | (rw [hy243]; exact H) | exact H
                      have Ny243 := Aside0.mk hy243
                      clear hy243
                      replace H := Option.bind_eq_some_iff.mp H
                      obtain ⟨t246, A290, H⟩ := H
                      replace H : (glacislaw09_EmbedhdrMore.l0 kj25 t226 t228 t240 x9_25 t246 true 0) = some r := H
                      have A29 := Aside0.mk A290
                      clear A290
                      have H' := Aside0.mk H
                      clear H
                      go_wp2_with (first | ((with_reducible refine gate_callee (f := 15) rfl ?_); refine goesL_ (some 48) rfl rfl Tryd.func15 (by kernel_rfl) rfl #[.string a1] rfl (by (try simp only [List.map_toArray, List.map_cons, List.map_nil]); first | done | rfl | (simp only [List.length_drop, List.length_take]; rfl)) ?_; (with_reducible refine (glacislaw09_xfo.calls a1 t241 t242 _ A28.out).mono ?_); rintro e w30 ⟨rfl, hb⟩; refine ⟨_, rfl, ?_⟩; have n0_ := Aside0.mk (below_step (by repeat (first | (with_reducible first | exact HB.out | apply below_alloc | apply pw_below_drewN | apply below_drew1) | exact HB.out)) hb); clear HB; have HB := n0_; clear n0_; (try clear hb); (try clear hb2); (try clear hk); (try clear hi)) | ((with_reducible refine gate_dst (N := 49) rfl ?_); (try (refine gate_guard (by rfl) ?_; dsimp only)); refine Kd.R_lit k28 _ 28 ?hg (N := 49) ?hd (xs := ([(⟨t241, t242⟩ : S28)] : List (S28))) (inner := [.string t241, .string t242]) (ok := fun _ => True) (okp := fun _ => True) ?hr ?hp (fun _ hk => hk) trivial (Below.refl _ _) (Nat.le_refl _) (by simp) ?_; (case hd => rfl); (case hg => rfl); (case hr => first | (go_simp; done) | (go_simp; rfl)); (case hp => exact (Reps.c2 (show Kd.M k28 _ _ _ (⟨t241, t242⟩ : S28) [.string t241, .string t242] from (k28_mkM _ _ _ (⟨t241, t242⟩ : S28) )) (Reps.none _ _))); intro v244 w31 ho32 hb hg_ hnew_; clear hg_ hnew_; (first | rw [← Ny243.out] at ho32 | (simp only [Int.reduceToNat] at ho32; rw [← Ny243.out] at ho32)); have n0_ := Aside0.mk (Kd.R_lower ho32 (below_size (by repeat (first | (with_reducible first | exact HB.out | apply below_alloc | apply pw_below_drewN | apply below_drew1) | exact HB.out)))); have n1_ := Aside0.mk (below_step (by repeat (first | (with_reducible first | exact HB.out | apply below_alloc | apply pw_below_drewN | apply below_drew1) | exact HB.out)) hb); clear HB; have HO245 := n0_; have HB := n1_; clear n0_ n1_; clear hb ho32; obtain ⟨Ao33, co33, eo33⟩ := Kd.R_slice HO245.out; subst eo33) | ((with_reducible refine gate_callee (f := 19) rfl ?_); refine goesL_ (some 50) rfl rfl Tryd.func19 (by kernel_rfl) rfl #[.slice Ao33 y243.length co33, .string (⟨#[120, 45, 102, 114, 97, 109, 101, 45, 111, 112, 116, 105, 111, 110, 115]⟩ : ByteArray)] rfl (by (try simp only [List.map_toArray, List.map_cons, List.map_nil]); first | done | rfl | (simp only [List.length_drop, List.length_take]; rfl)) ?_; (with_reducible refine (headers_Parts.calls _ _ y243 (⟨#[120, 45, 102, 114, 97, 109, 101, 45, 111, 112, 116, 105, 111, 110, 115]⟩ : ByteArray) t246 _ ?side1 ?side2 A29.out).mono ?_); (case side1 => repeat (first | exact (Kd.R_reads' HO245.out).2.2 | (with_reducible refine Kd.C_alloc ?_ _) | (with_reducible refine Kd.C_drewN ?_ _) | (with_reducible refine Kd.C_drew ?_))); (case side2 => exact (Kd.R_reads' HO245.out).2.1); rintro e w34 ⟨v247, rfl, ho0, hb⟩; refine ⟨_, rfl, ?_⟩; have n0_ := Aside0.mk (Kd.R_below (by (with_reducible repeat (first | apply Kd.R_alloc | apply Kd.R_drewN | apply Kd.R_drew)); exact HO245.out) hb); have n1_ := Aside0.mk (Kd.R_lower ho0 (below_size (by repeat (first | (with_reducible first | exact HB.out | apply below_alloc | apply pw_below_drewN | apply below_drew1) | exact HB.out)))); have n2_ := Aside0.mk (below_step (by repeat (first | (with_reducible first | exact HB.out | apply below_alloc | apply pw_below_drewN | apply below_drew1) | exact HB.out)) hb); clear HO245; clear HB; have HO245 := n0_; have HO248 := n1_; have HB := n2_; clear n0_ n1_ n2_; (try clear hb); (try clear hb2); (try clear hk); (try clear hi); (try clear ho0)))
                      go_loopg [11, 12] kj25 (fun kq v11 v12 w' => ∃ (x11_4 : Bool) (x12_4 : Int), v11 = .bool x11_4 ∧ v12 = .int .i64 x12_4 ∧ Aside0 (glacislaw09_EmbedhdrMore.l0 kq t226 t228 t240 x9_25 t246 x11_4 x12_4 = some r) ∧ Aside0 (kq ≤ kj25) ∧ Aside0 (Kd.R Kd.string 9 w' w.heap.size (fun _ => True) v247 t246) ∧ Aside0 (Below w.heap.size w w'))
                      case atStart => exact ⟨(true), (0), (by first | rfl | (simp; done) | (simp [*]; done) | (simp [q_ne_nil]; done)), (by first | rfl | (simp; done) | (simp [*]; done) | (simp [q_ne_nil]; done)), H', ⟨Nat.le_refl _⟩, ⟨by (with_reducible repeat (first | apply Kd.R_alloc | apply Kd.R_drewN | apply Kd.R_drew)); exact HO248.out⟩, ⟨by repeat (first | (with_reducible first | exact HB.out | apply below_alloc | apply pw_below_drewN | apply below_drew1) | exact HB.out)⟩⟩
                      case round =>
                        clear H'
                        try clear c1
                        try clear c2
                        try clear p2
                        try clear c7
                        try clear c8
                        try clear c8b0
                        try clear c8b1
                        try clear c9
                        try clear c10
                        try clear c11
                        try clear c13
                        try clear c15
                        try clear c19
                        try clear c24
                        try clear c24b0
                        try clear c24b1
                        try clear c25
                        try clear c27
                        try clear c27b0
                        try clear c27b1
                        try clear p2
                        obtain ⟨x11_4, x12_4, rfl, rfl, HA, HK4, HO_10, HB⟩ := hrel
                        cases gk with
                        | zero => exact absurd HA.out (by simp [glacislaw09_EmbedhdrMore.l0])
                        | succ k4 =>
                          have H := HA.out
                          clear HA
                          simp only [glacislaw09_EmbedhdrMore.l0] at H
                          by_cases c35 : x12_4 < (t246.length : Int)
                          · rw [if_pos c35] at H
                            have c35b0 : decide (x12_4 < (t246.length : Int)) = true := decide_eq_true c35
                            clear c35
                            by_cases c36 : x11_4 = true
                            · subst c36
                              have H1 : (if 0 ≤ x12_4 then ((octet_Lower.f (rdOf ByteArray.empty t246 x12_4)).bind fun t250 => (glacislaw09_EmbedhdrMore.l0 k4 t226 t228 t240 x9_25 t246 (t250.toList == x9_25.toList) (wrap64 (x12_4 + 1)))) else (none)) = some r := by rw [if_pos rfl] at H; exact H
                              clear H
                              have H := H1
                              clear H1
                              by_cases c37 : 0 ≤ x12_4
                              · rw [if_pos c37] at H
                                have c37b0 : decide (0 ≤ x12_4) = true := decide_eq_true c37
                                clear c37
                                replace H := Option.bind_eq_some_iff.mp H
                                obtain ⟨t250, A380, H⟩ := H
                                replace H : (glacislaw09_EmbedhdrMore.l0 k4 t226 t228 t240 x9_25 t246 (t250.toList == x9_25.toList) (wrap64 (x12_4 + 1))) = some r := H
                                have A38 := Aside0.mk A380
                                clear A380
                                have H' := Aside0.mk H
                                clear H
                                obtain ⟨Ao39, co39, eo39⟩ := Kd.R_slice HO_10.out
                                subst eo39
                                have p249 : 0 ≤ (x12_4 : Int) := of_decide_eq_true (by first | (with_reducible assumption) | assumption)
                                have q249 : x12_4 < (t246.length : Int) := of_decide_eq_true (by first | (with_reducible assumption) | assumption)
                                obtain ⟨ad249, e249, hx249_0⟩ := Kd.at_string (Kd.R_reads' HO_10.out).2.2 x12_4 p249 q249
                                cases e249
                                replace p249 := eq_true p249
                                replace q249 := eq_true q249
                                go_wp2_with (first | (go_at_call 16; (with_reducible refine (octet_Lower.calls (rdOf ByteArray.empty t246 x12_4) t250 _ A38.out).mono ?_); rintro e w40 ⟨rfl, hb⟩; have n0_ := Aside0.mk (Kd.R_below (by (with_reducible repeat (first | apply Kd.R_alloc | apply Kd.R_drewN | apply Kd.R_drew)); exact HO_10.out) hb); have n1_ := Aside0.mk (below_step (by repeat (first | (with_reducible first | exact HB.out | apply below_alloc | apply pw_below_drewN | apply below_drew1) | exact HB.out)) hb); clear HO_10; clear HB; have HO_10 := n0_; have HB := n1_; clear n0_ n1_; (try clear hb); (try clear hb2); (try clear hk); (try clear hi)))
                                go_roundg k4
                                case measure => have := HJ4.out; have := HJ14.out; have := HJ25.out; have := HK4.out; omega
                                case rel => exact ⟨((t250.toList == x9_25.toList)), (wrap64 (x12_4 + 1)), (by first | rfl | (simp; done) | (simp [*]; done) | (simp [q_ne_nil]; done)), (by first | rfl | (simp; done) | (simp [*]; done) | (simp [q_ne_nil]; done)), H', ⟨by have := HJ4.out; have := HJ14.out; have := HJ25.out; have := HK4.out; omega⟩, ⟨by (with_reducible repeat (first | apply Kd.R_alloc | apply Kd.R_drewN | apply Kd.R_drew)); exact HO_10.out⟩, ⟨by repeat (first | (with_reducible first | exact HB.out | apply below_alloc | apply pw_below_drewN | apply below_drew1) | exact HB.out)⟩⟩
                              · rw [if_neg c37] at H
                                exact absurd H (by simp)
                            · replace c36 := Bool.eq_false_iff.mpr c36
                              subst c36
                              have H1 : (glacislaw09_EmbedhdrMore.l0 k4 t226 t228 t240 x9_25 t246 false (wrap64 (x12_4 + 1))) = some r := by rw [if_neg (show ¬ (false = true) by decide)] at H; exact H
                              clear H
                              have H := H1
                              clear H1
                              have H' := Aside0.mk H
                              clear H
                              obtain ⟨Ao41, co41, eo41⟩ := Kd.R_slice HO_10.out
                              subst eo41
                              go_wp2
                              go_roundg k4
                              case measure => have := HJ4.out; have := HJ14.out; have := HJ25.out; have := HK4.out; omega
                              case rel => exact ⟨(false), (wrap64 (x12_4 + 1)), (by first | rfl | (simp; done) | (simp [*]; done) | (simp [q_ne_nil]; done)), (by first | rfl | (simp; done) | (simp [*]; done) | (simp [q_ne_nil]; done)), H', ⟨by have := HJ4.out; have := HJ14.out; have := HJ25.out; have := HK4.out; omega⟩, ⟨by (with_reducible repeat (first | apply Kd.R_alloc | apply Kd.R_drewN | apply Kd.R_drew)); exact HO_10.out⟩, ⟨by repeat (first | (with_reducible first | exact HB.out | apply below_alloc | apply pw_below_drewN | apply below_drew1) | exact HB.out)⟩⟩
                          · rw [if_neg c35] at H
                            have c35b0 : decide (x12_4 < (t246.length : Int)) = false := decide_eq_false c35
                            clear c35
                            by_cases c42 : t228 = 2
                            · rw [if_pos c42] at H
                              have c42b0 : (t228 == 2) = true := beq_iff_eq.mpr c42
                              have c42b1 : (t228 != 2) = false := bne_eq_false_iff_eq.mpr c42
                              clear c42
                              by_cases c43 : t226 = true
                              · subst c43
                                have H1 : (if x11_4 = true then (if t240 = t228 then (some true) else (some false)) else (some (t240 == 1))) = some r := by rw [if_pos rfl] at H; exact H
                                clear H
                                have H := H1
                                clear H1
                                by_cases c44 : x11_4 = true
                                · subst c44
                                  have H1 : (if t240 = t228 then (some true) else (some false)) = some r := by rw [if_pos rfl] at H; exact H
                                  clear H
                                  have H := H1
                                  clear H1
                                  by_cases c45 : t240 = t228
                                  · rw [if_pos c45] at H
                                    have c45b0 : (t240 == t228) = true := beq_iff_eq.mpr c45
                                    have c45b1 : (t240 != t228) = false := bne_eq_false_iff_eq.mpr c45
                                    clear c45
                                    obtain rfl := Option.some.inj H
                                    obtain ⟨Ao46, co46, eo46⟩ := Kd.R_slice HO_10.out
                                    subst eo46
                                    go_wp2
                                    go_ret
                                    exact ⟨by first | rfl | (simp [errW_none, errW_some] <;> rfl) | (simp [*, errW_none, errW_some] <;> rfl) | (simp [q_ne_nil]; done), by repeat (first | (with_reducible first | exact HB.out | apply below_alloc | apply pw_below_drewN | apply below_drew1) | exact HB.out)⟩
                                  · rw [if_neg c45] at H
                                    have c45b0 : (t240 == t228) = false := beq_eq_false_iff_ne.mpr c45
                                    have c45b1 : (t240 != t228) = true := bne_iff_ne.mpr c45
                                    obtain rfl := Option.some.inj H
                                    obtain ⟨Ao47, co47, eo47⟩ := Kd.R_slice HO_10.out
                                    subst eo47
                                    go_wp2
                                    go_ret
                                    exact ⟨by first | rfl | (simp [errW_none, errW_some] <;> rfl) | (simp [*, errW_none, errW_some] <;> rfl) | (simp [q_ne_nil]; done), by repeat (first | (with_reducible first | exact HB.out | apply below_alloc | apply pw_below_drewN | apply below_drew1) | exact HB.out)⟩
                                · replace c44 := Bool.eq_false_iff.mpr c44
                                  subst c44
                                  have H1 : (some (t240 == 1)) = some r := by rw [if_neg (show ¬ (false = true) by decide)] at H; exact H
                                  clear H
                                  have H := H1
                                  clear H1
                                  obtain rfl := Option.some.inj H
                                  obtain ⟨Ao48, co48, eo48⟩ := Kd.R_slice HO_10.out
                                  subst eo48
                                  go_wp2
                                  go_ret
                                  exact ⟨by first | rfl | (simp [errW_none, errW_some] <;> rfl) | (simp [*, errW_none, errW_some] <;> rfl) | (simp [q_ne_nil]; done), by repeat (first | (with_reducible first | exact HB.out | apply below_alloc | apply pw_below_drewN | apply below_drew1) | exact HB.out)⟩
                              · replace c43 := Bool.eq_false_iff.mpr c43
                                subst c43
                                have H1 : (some false) = some r := by rw [if_neg (show ¬ (false = true) by decide)] at H; exact H
                                clear H
                                have H := H1
                                clear H1
                                obtain rfl := Option.some.inj H
                                obtain ⟨Ao49, co49, eo49⟩ := Kd.R_slice HO_10.out
                                subst eo49
                                go_wp2
                                go_ret
                                exact ⟨by first | rfl | (simp [errW_none, errW_some] <;> rfl) | (simp [*, errW_none, errW_some] <;> rfl) | (simp [q_ne_nil]; done), by repeat (first | (with_reducible first | exact HB.out | apply below_alloc | apply pw_below_drewN | apply below_drew1) | exact HB.out)⟩
                            · rw [if_neg c42] at H
                              have c42b0 : (t228 == 2) = false := beq_eq_false_iff_ne.mpr c42
                              have c42b1 : (t228 != 2) = true := bne_iff_ne.mpr c42
                              by_cases c50 : t228 = 3
                              · rw [if_pos c50] at H
                                have c50b0 : (t228 == 3) = true := beq_iff_eq.mpr c50
                                have c50b1 : (t228 != 3) = false := bne_eq_false_iff_eq.mpr c50
                                clear c50
                                by_cases c51 : t226 = true
                                · subst c51
                                  have H1 : (if x11_4 = true then (if t240 = t228 then (some true) else (some false)) else (some (t240 == 1))) = some r := by rw [if_pos rfl] at H; exact H
                                  clear H
                                  have H := H1
                                  clear H1
                                  by_cases c52 : x11_4 = true
                                  · subst c52
                                    have H1 : (if t240 = t228 then (some true) else (some false)) = some r := by rw [if_pos rfl] at H; exact H
                                    clear H
                                    have H := H1
                                    clear H1
                                    by_cases c53 : t240 = t228
                                    · rw [if_pos c53] at H
                                      have c53b0 : (t240 == t228) = true := beq_iff_eq.mpr c53
                                      have c53b1 : (t240 != t228) = false := bne_eq_false_iff_eq.mpr c53
                                      clear c53
                                      obtain rfl := Option.some.inj H
                                      obtain ⟨Ao54, co54, eo54⟩ := Kd.R_slice HO_10.out
                                      subst eo54
                                      go_wp2
                                      go_ret
                                      exact ⟨by first | rfl | (simp [errW_none, errW_some] <;> rfl) | (simp [*, errW_none, errW_some] <;> rfl) | (simp [q_ne_nil]; done), by repeat (first | (with_reducible first | exact HB.out | apply below_alloc | apply pw_below_drewN | apply below_drew1) | exact HB.out)⟩
                                    · rw [if_neg c53] at H
                                      have c53b0 : (t240 == t228) = false := beq_eq_false_iff_ne.mpr c53
                                      have c53b1 : (t240 != t228) = true := bne_iff_ne.mpr c53
                                      obtain rfl := Option.some.inj H
                                      obtain ⟨Ao55, co55, eo55⟩ := Kd.R_slice HO_10.out
                                      subst eo55
                                      go_wp2
                                      go_ret
                                      exact ⟨by first | rfl | (simp [errW_none, errW_some] <;> rfl) | (simp [*, errW_none, errW_some] <;> rfl) | (simp [q_ne_nil]; done), by repeat (first | (with_reducible first | exact HB.out | apply below_alloc | apply pw_below_drewN | apply below_drew1) | exact HB.out)⟩
                                  · replace c52 := Bool.eq_false_iff.mpr c52
                                    subst c52
                                    have H1 : (some (t240 == 1)) = some r := by rw [if_neg (show ¬ (false = true) by decide)] at H; exact H
                                    clear H
                                    have H := H1
                                    clear H1
                                    obtain rfl := Option.some.inj H
                                    obtain ⟨Ao56, co56, eo56⟩ := Kd.R_slice HO_10.out
                                    subst eo56
                                    go_wp2
                                    go_ret
                                    exact ⟨by first | rfl | (simp [errW_none, errW_some] <;> rfl) | (simp [*, errW_none, errW_some] <;> rfl) | (simp [q_ne_nil]; done), by repeat (first | (with_reducible first | exact HB.out | apply below_alloc | apply pw_below_drewN | apply below_drew1) | exact HB.out)⟩
                                · replace c51 := Bool.eq_false_iff.mpr c51
                                  subst c51
                                  have H1 : (some false) = some r := by rw [if_neg (show ¬ (false = true) by decide)] at H; exact H
                                  clear H
                                  have H := H1
                                  clear H1
                                  obtain rfl := Option.some.inj H
                                  obtain ⟨Ao57, co57, eo57⟩ := Kd.R_slice HO_10.out
                                  subst eo57
                                  go_wp2
                                  go_ret
                                  exact ⟨by first | rfl | (simp [errW_none, errW_some] <;> rfl) | (simp [*, errW_none, errW_some] <;> rfl) | (simp [q_ne_nil]; done), by repeat (first | (with_reducible first | exact HB.out | apply below_alloc | apply pw_below_drewN | apply below_drew1) | exact HB.out)⟩
                              · rw [if_neg c50] at H
                                have c50b0 : (t228 == 3) = false := beq_eq_false_iff_ne.mpr c50
                                have c50b1 : (t228 != 3) = true := bne_iff_ne.mpr c50
                                obtain rfl := Option.some.inj H
                                obtain ⟨Ao58, co58, eo58⟩ := Kd.R_slice HO_10.out
                                subst eo58
                                go_wp2
                                go_ret
                                exact ⟨by first | rfl | (simp [errW_none, errW_some] <;> rfl) | (simp [*, errW_none, errW_some] <;> rfl) | (simp [q_ne_nil]; done), by repeat (first | (with_reducible first | exact HB.out | apply below_alloc | apply pw_below_drewN | apply below_drew1) | exact HB.out)⟩
          · rw [if_neg c13] at H
            exact absurd H (by simp)
        · rw [if_neg c11] at H
          exact absurd H (by simp)

end Go.Proofs.YtbhokhidlgkakaaDoor.Q
