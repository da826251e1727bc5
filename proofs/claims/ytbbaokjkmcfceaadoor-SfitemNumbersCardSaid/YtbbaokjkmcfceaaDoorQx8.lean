-- Laid by this seat's own driver (wip/tools/drive.py) out of the translation.
import Derived.Test.YtbbaokjkmcfceaaDoorQx0
import Derived.Test.YtbbaokjkmcfceaaDoorQx4
namespace Go.Proofs.YtbbaokjkmcfceaaDoor.Q
open Go.RowKit Go.Proofs.YtbbaokjkmcfceaaDoorW.PrintWords Go.Proofs.YtbbaokjkmcfceaaDoorW.PrintLast Go.Proofs.YtbbaokjkmcfceaaDoorW.PrintMore
attribute [local go_sem] max2_int min2_int max_two min_two max_three min_three max_four min_four   -- for this text's walks alone
set_option linter.unusedVariables false
set_option linter.unusedSimpArgs false

/-! ### glacislaw05_SfitemNumbers: function 7 -/
def glacislaw05_SfitemNumbers.j0 : Nat → Int → Bool → Bool → Option (Bool)
  | 0, _, _, _ => none
  | k + 1, x0, x3, x4 => (sfitem_Text.f 1 x0 (⟨#[]⟩ : ByteArray) ([] : List (S38))).bind fun bt239 => ((sfitem_Text.f 2 x0 (⟨#[]⟩ : ByteArray) ([] : List (S38))).bind fun bt241 => (if x4 = true then ((sfitem_Parse.f bt239.1).bind fun bt243 => ((sfitem_Parse.f bt241.1).bind fun bt251 => (if bt243.1 = 1 then (if bt243.2.1 = x0 then (if bt251.1 = 2 then (if bt251.2.1 = x0 then (if x3 = true then (if bt239.2 = 0 then (if bt241.2 = 0 then (if bt243.2.2.2.2 = 0 then (if bt251.2.2.2.2 = 0 then (if (bt243.2.2.2.1.length : Int) = 0 then (some ((bt251.2.2.2.1.length : Int) == 0)) else (none)) else (none)) else (none)) else (none)) else (none)) else (none)) else (if x3 = true then (if bt239.2 = 0 then (if bt241.2 = 0 then (if bt243.2.2.2.2 = 0 then (if bt251.2.2.2.2 = 0 then (if (bt243.2.2.2.1.length : Int) = 0 then (none) else (none)) else (none)) else (none)) else (none)) else (none)) else (none))) else (if x3 = true then (if bt239.2 = 0 then (if bt241.2 = 0 then (if bt243.2.2.2.2 = 0 then (if bt251.2.2.2.2 = 0 then (if (bt243.2.2.2.1.length : Int) = 0 then (none) else (none)) else (none)) else (none)) else (none)) else (none)) else (none))) else (if bt251.1 = 2 then (if bt251.2.1 = x0 then (if x3 = true then (if bt239.2 = 0 then (if bt241.2 = 0 then (if bt243.2.2.2.2 = 0 then (if bt251.2.2.2.2 = 0 then (none) else (none)) else (none)) else (none)) else (none)) else (none)) else (if x3 = true then (if bt239.2 = 0 then (if bt241.2 = 0 then (if bt243.2.2.2.2 = 0 then (if bt251.2.2.2.2 = 0 then (none) else (none)) else (none)) else (none)) else (none)) else (none))) else (if x3 = true then (if bt239.2 = 0 then (if bt241.2 = 0 then (if bt243.2.2.2.2 = 0 then (if bt251.2.2.2.2 = 0 then (none) else (none)) else (none)) else (none)) else (none)) else (none)))) else (if bt251.1 = 2 then (if bt251.2.1 = x0 then (if x3 = true then (if bt239.2 = 0 then (if bt241.2 = 0 then (if bt243.2.2.2.2 = 0 then (if bt251.2.2.2.2 = 0 then (none) else (none)) else (none)) else (none)) else (none)) else (none)) else (if x3 = true then (if bt239.2 = 0 then (if bt241.2 = 0 then (if bt243.2.2.2.2 = 0 then (if bt251.2.2.2.2 = 0 then (none) else (none)) else (none)) else (none)) else (none)) else (none))) else (if x3 = true then (if bt239.2 = 0 then (if bt241.2 = 0 then (if bt243.2.2.2.2 = 0 then (if bt251.2.2.2.2 = 0 then (none) else (none)) else (none)) else (none)) else (none)) else (none)))))) else (if x3 = true then (if bt239.2 = 50 then (if bt241.2 = 50 then (if bt239.1.toList = ([] : List UInt8) then (some (bt241.1.toList == ([] : List UInt8))) else (none)) else (none)) else (none)) else (none))))
def glacislaw05_SfitemNumbers.f (k : Nat) (a0 : Int) : Option (Bool) := (glacislaw05_awake.f).bind fun t238 => (if a0 ≥ (-999999999999999) then (glacislaw05_SfitemNumbers.j0 k a0 t238 (decide (a0 ≤ 999999999999999))) else (glacislaw05_SfitemNumbers.j0 k a0 t238 false))
theorem glacislaw05_SfitemNumbers.mono_l : ∀ k, (∀ y0 y1 y2, LeO (glacislaw05_SfitemNumbers.j0 k y0 y1 y2) (glacislaw05_SfitemNumbers.j0 (k + 1) y0 y1 y2))
  | 0 => fun _ _ _ r h => by simp [glacislaw05_SfitemNumbers.j0] at h
  | k + 1 => by
    have ih0 := glacislaw05_SfitemNumbers.mono_l k
    · intro y0 y1 y2
      unfold glacislaw05_SfitemNumbers.j0
      repeat' first
      | (with_reducible exact ih0 _ _ _)
      | (with_reducible exact LeO.refl _)
      | (with_reducible exact LeO.none _)
      | (with_reducible refine LeO.ite ?_ ?_)
      | (with_reducible refine LeO.bind ?_ (fun _ => ?_))
      | exact ih0 _ _ _
      | exact LeO.none _
      | refine LeO.ite ?_ ?_
      | refine LeO.bind ?_ (fun _ => ?_)
theorem glacislaw05_SfitemNumbers.mono : ∀ a0 k, LeO (glacislaw05_SfitemNumbers.f k a0) (glacislaw05_SfitemNumbers.f (k + 1) a0) := by
  intro a0 k
  have ih0 := glacislaw05_SfitemNumbers.mono_l k
  unfold glacislaw05_SfitemNumbers.f
  repeat' first
      | (with_reducible exact ih0 _ _ _)
      | (with_reducible exact LeO.refl _)
      | (with_reducible exact LeO.none _)
      | (with_reducible refine LeO.ite ?_ ?_)
      | (with_reducible refine LeO.bind ?_ (fun _ => ?_))
      | exact ih0 _ _ _
      | exact LeO.none _
      | refine LeO.ite ?_ ?_
      | refine LeO.bind ?_ (fun _ => ?_)
set_option maxHeartbeats 8000000 in
set_option maxRecDepth 100000 in
theorem glacislaw05_SfitemNumbers.calls (k : Nat) (a0 : Int) (r : Bool) (w : World) (hT_ : Aside0 (TabW w)) (h : glacislaw05_SfitemNumbers.f k a0 = some r) :
    Calls Tryd.prog 7 #[.int .i64 a0] w fun e w' => e = .returned (.bool r) ∧ Below w.heap.size w w' := by
  have hu25 := Tryd.underlying25
  have HB := Aside0.mk (Below.refl w.heap.size w)
  have H : ((glacislaw05_awake.f).bind fun t238 => (if a0 ≥ (-999999999999999) then (glacislaw05_SfitemNumbers.j0 k a0 t238 (decide (a0 ≤ 999999999999999))) else (glacislaw05_SfitemNumbers.j0 k a0 t238 false))) = some r := h
  clear h
  replace H := Option.bind_eq_some_iff.mp H
  obtain ⟨t238, A20, H⟩ := H
  replace H : (if a0 ≥ (-999999999999999) then (glacislaw05_SfitemNumbers.j0 k a0 t238 (decide (a0 ≤ 999999999999999))) else (glacislaw05_SfitemNumbers.j0 k a0 t238 false)) = some r := H
  have A2 := Aside0.mk A20
  clear A20
  have HC3 := Aside0.mk H
  clear H
  go_enter Tryd.func7, Tryd.ntmps7
  go_upto_region 2 with (first | ((with_reducible refine gate_callee (f := 9) rfl ?_); refine goesL_ (some 15) rfl rfl Tryd.func9 (by kernel_rfl) rfl #[] rfl (by (try simp only [List.map_toArray, List.map_cons, List.map_nil]); first | done | rfl | (simp only [List.length_drop, List.length_take]; rfl)) ?_; (with_reducible refine (glacislaw05_awake.calls  t238 _ (tab_ hT_ ?hTab) A2.out).mono ?_); (case hTab => exact (by repeat (first | (with_reducible first | exact HB.out | apply below_alloc | apply pw_below_drewN | apply below_drew1) | exact HB.out))); rintro e w4 ⟨rfl, hb⟩; refine ⟨_, rfl, ?_⟩; have n0_ := Aside0.mk (below_step (by repeat (first | (with_reducible first | exact HB.out | apply below_alloc | apply pw_below_drewN | apply below_drew1) | exact HB.out)) hb); clear HB; have HB := n0_; clear n0_; (try clear hb); (try clear hb2); (try clear hk); (try clear hi)))
  (try simp only [Act.put, List.setIfInBounds_toArray, List.set_cons_zero, List.set_cons_succ])
  go_cut [4] (fun v4 wc => ∃ (kq : Nat) (x4_2 : Bool), v4 = .bool x4_2 ∧ Aside0 (glacislaw05_SfitemNumbers.j0 kq a0 t238 x4_2 = some r) ∧ Aside0 (kq ≤ k) ∧ Aside0 (Below w.heap.size w wc))
  case first =>
    have H := HC3.out
    clear HC3
    by_cases c5 : a0 ≥ (-999999999999999)
    · rw [if_pos c5] at H
      have c5b0 : decide ((-999999999999999) ≤ a0) = true := decide_eq_true c5
      clear c5
      (first | rw [c5b0] | (simp only [i64_w, i32_w]; rw [c5b0]) | skip)
      have H' := Aside0.mk H
      clear H
      go_wp2
      go_meet
      case rel => exact ⟨_, (decide (a0 ≤ 999999999999999)), (by first | rfl | (simp; done) | (simp [*]; done) | (simp [q_ne_nil]; done)), H', ⟨by first | omega | exact Nat.le_refl _⟩, ⟨by repeat (first | (with_reducible first | exact HB.out | apply below_alloc | apply pw_below_drewN | apply below_drew1) | exact HB.out)⟩⟩
    · rw [if_neg c5] at H
      have c5b0 : decide ((-999999999999999) ≤ a0) = false := decide_eq_false c5
      clear c5
      (first | rw [c5b0] | (simp only [i64_w, i32_w]; rw [c5b0]) | skip)
      have H' := Aside0.mk H
      clear H
      go_wp2
      go_meet
      case rel => exact ⟨_, (false), (by first | rfl | (simp; done) | (simp [*]; done) | (simp [q_ne_nil]; done)), H', ⟨by first | omega | exact Nat.le_refl _⟩, ⟨by repeat (first | (with_reducible first | exact HB.out | apply below_alloc | apply pw_below_drewN | apply below_drew1) | exact HB.out)⟩⟩
  case rest =>
    clear HC3
    try clear p2
    try clear c5
    try clear c5b0
    obtain ⟨kq, x4_2, rfl, HA, HJ2, HB⟩ := hcut
    cases kq with
    | zero => exact absurd HA.out (by simp [glacislaw05_SfitemNumbers.j0])
    | succ kj2 =>
      have H := HA.out
      clear HA
      simp only [glacislaw05_SfitemNumbers.j0] at H
      replace H := Option.bind_eq_some_iff.mp H
      obtain ⟨⟨t239, t240⟩, A60, H⟩ := H
      replace H : ((sfitem_Text.f 2 a0 (⟨#[]⟩ : ByteArray) ([] : List (S38))).bind fun bt241 => (if x4_2 = true then ((sfitem_Parse.f t239).bind fun bt243 => ((sfitem_Parse.f bt241.1).bind fun bt251 => (if bt243.1 = 1 then (if bt243.2.1 = a0 then (if bt251.1 = 2 then (if bt251.2.1 = a0 then (if t238 = true then (if t240 = 0 then (if bt241.2 = 0 then (if bt243.2.2.2.2 = 0 then (if bt251.2.2.2.2 = 0 then (if (bt243.2.2.2.1.length : Int) = 0 then (some ((bt251.2.2.2.1.length : Int) == 0)) else (none)) else (none)) else (none)) else (none)) else (none)) else (none)) else (if t238 = true then (if t240 = 0 then (if bt241.2 = 0 then (if bt243.2.2.2.2 = 0 then (if bt251.2.2.2.2 = 0 then (if (bt243.2.2.2.1.length : Int) = 0 then (none) else (none)) else (none)) else (none)) else (none)) else (none)) else (none))) else (if t238 = true then (if t240 = 0 then (if bt241.2 = 0 then (if bt243.2.2.2.2 = 0 then (if bt251.2.2.2.2 = 0 then (if (bt243.2.2.2.1.length : Int) = 0 then (none) else (none)) else (none)) else (none)) else (none)) else (none)) else (none))) else (if bt251.1 = 2 then (if bt251.2.1 = a0 then (if t238 = true then (if t240 = 0 then (if bt241.2 = 0 then (if bt243.2.2.2.2 = 0 then (if bt251.2.2.2.2 = 0 then (none) else (none)) else (none)) else (none)) else (none)) else (none)) else (if t238 = true then (if t240 = 0 then (if bt241.2 = 0 then (if bt243.2.2.2.2 = 0 then (if bt251.2.2.2.2 = 0 then (none) else (none)) else (none)) else (none)) else (none)) else (none))) else (if t238 = true then (if t240 = 0 then (if bt241.2 = 0 then (if bt243.2.2.2.2 = 0 then (if bt251.2.2.2.2 = 0 then (none) else (none)) else (none)) else (none)) else (none)) else (none)))) else (if bt251.1 = 2 then (if bt251.2.1 = a0 then (if t238 = true then (if t240 = 0 then (if bt241.2 = 0 then (if bt243.2.2.2.2 = 0 then (if bt251.2.2.2.2 = 0 then (none) else (none)) else (none)) else (none)) else (none)) else (none)) else (if t238 = true then (if t240 = 0 then (if bt241.2 = 0 then (if bt243.2.2.2.2 = 0 then (if bt251.2.2.2.2 = 0 then (none) else (none)) else (none)) else (none)) else (none)) else (none))) else (if t238 = true then (if t240 = 0 then (if bt241.2 = 0 then (if bt243.2.2.2.2 = 0 then (if bt251.2.2.2.2 = 0 then (none) else (none)) else (none)) else (none)) else (none)) else (none)))))) else (if t238 = true then (if t240 = 50 then (if bt241.2 = 50 then (if t239.toList = ([] : List UInt8) then (some (bt241.1.toList == ([] : List UInt8))) else (none)) else (none)) else (none)) else (none)))) = some r := H
      have A6 := Aside0.mk A60
      clear A60
      replace H := Option.bind_eq_some_iff.mp H
      obtain ⟨⟨t241, t242⟩, A70, H⟩ := H
      replace H : (if x4_2 = true then ((sfitem_Parse.f t239).bind fun bt243 => ((sfitem_Parse.f t241).bind fun bt251 => (if bt243.1 = 1 then (if bt243.2.1 = a0 then (if bt251.1 = 2 then (if bt251.2.1 = a0 then (if t238 = true then (if t240 = 0 then (if t242 = 0 then (if bt243.2.2.2.2 = 0 then (if bt251.2.2.2.2 = 0 then (if (bt243.2.2.2.1.length : Int) = 0 then (some ((bt251.2.2.2.1.length : Int) == 0)) else (none)) else (none)) else (none)) else (none)) else (none)) else (none)) else (if t238 = true then (if t240 = 0 then (if t242 = 0 then (if bt243.2.2.2.2 = 0 then (if bt251.2.2.2.2 = 0 then (if (bt243.2.2.2.1.length : Int) = 0 then (none) else (none)) else (none)) else (none)) else (none)) else (none)) else (none))) else (if t238 = true then (if t240 = 0 then (if t242 = 0 then (if bt243.2.2.2.2 = 0 then (if bt251.2.2.2.2 = 0 then (if (bt243.2.2.2.1.length : Int) = 0 then (none) else (none)) else (none)) else (none)) else (none)) else (none)) else (none))) else (if bt251.1 = 2 then (if bt251.2.1 = a0 then (if t238 = true then (if t240 = 0 then (if t242 = 0 then (if bt243.2.2.2.2 = 0 then (if bt251.2.2.2.2 = 0 then (none) else (none)) else (none)) else (none)) else (none)) else (none)) else (if t238 = true then (if t240 = 0 then (if t242 = 0 then (if bt243.2.2.2.2 = 0 then (if bt251.2.2.2.2 = 0 then (none) else (none)) else (none)) else (none)) else (none)) else (none))) else (if t238 = true then (if t240 = 0 then (if t242 = 0 then (if bt243.2.2.2.2 = 0 then (if bt251.2.2.2.2 = 0 then (none) else (none)) else (none)) else (none)) else (none)) else (none)))) else (if bt251.1 = 2 then (if bt251.2.1 = a0 then (if t238 = true then (if t240 = 0 then (if t242 = 0 then (if bt243.2.2.2.2 = 0 then (if bt251.2.2.2.2 = 0 then (none) else (none)) else (none)) else (none)) else (none)) else (none)) else (if t238 = true then (if t240 = 0 then (if t242 = 0 then (if bt243.2.2.2.2 = 0 then (if bt251.2.2.2.2 = 0 then (none) else (none)) else (none)) else (none)) else (none)) else (none))) else (if t238 = true then (if t240 = 0 then (if t242 = 0 then (if bt243.2.2.2.2 = 0 then (if bt251.2.2.2.2 = 0 then (none) else (none)) else (none)) else (none)) else (none)) else (none)))))) else (if t238 = true then (if t240 = 50 then (if t242 = 50 then (if t239.toList = ([] : List UInt8) then (some (t241.toList == ([] : List UInt8))) else (none)) else (none)) else (none)) else (none))) = some r := H
      have A7 := Aside0.mk A70
      clear A70
      by_cases c8 : x4_2 = true
      · subst c8
        have H1 : ((sfitem_Parse.f t239).bind fun bt243 => ((sfitem_Parse.f t241).bind fun bt251 => (if bt243.1 = 1 then (if bt243.2.1 = a0 then (if bt251.1 = 2 then (if bt251.2.1 = a0 then (if t238 = true then (if t240 = 0 then (if t242 = 0 then (if bt243.2.2.2.2 = 0 then (if bt251.2.2.2.2 = 0 then (if (bt243.2.2.2.1.length : Int) = 0 then (some ((bt251.2.2.2.1.length : Int) == 0)) else (none)) else (none)) else (none)) else (none)) else (none)) else (none)) else (if t238 = true then (if t240 = 0 then (if t242 = 0 then (if bt243.2.2.2.2 = 0 then (if bt251.2.2.2.2 = 0 then (if (bt243.2.2.2.1.length : Int) = 0 then (none) else (none)) else (none)) else (none)) else (none)) else (none)) else (none))) else (if t238 = true then (if t240 = 0 then (if t242 = 0 then (if bt243.2.2.2.2 = 0 then (if bt251.2.2.2.2 = 0 then (if (bt243.2.2.2.1.length : Int) = 0 then (none) else (none)) else (none)) else (none)) else (none)) else (none)) else (none))) else (if bt251.1 = 2 then (if bt251.2.1 = a0 then (if t238 = true then (if t240 = 0 then (if t242 = 0 then (if bt243.2.2.2.2 = 0 then (if bt251.2.2.2.2 = 0 then (none) else (none)) else (none)) else (none)) else (none)) else (none)) else (if t238 = true then (if t240 = 0 then (if t242 = 0 then (if bt243.2.2.2.2 = 0 then (if bt251.2.2.2.2 = 0 then (none) else (none)) else (none)) else (none)) else (none)) else (none))) else (if t238 = true then (if t240 = 0 then (if t242 = 0 then (if bt243.2.2.2.2 = 0 then (if bt251.2.2.2.2 = 0 then (none) else (none)) else (none)) else (none)) else (none)) else (none)))) else (if bt251.1 = 2 then (if bt251.2.1 = a0 then (if t238 = true then (if t240 = 0 then (if t242 = 0 then (if bt243.2.2.2.2 = 0 then (if bt251.2.2.2.2 = 0 then (none) else (none)) else (none)) else (none)) else (none)) else (none)) else (if t238 = true then (if t240 = 0 then (if t242 = 0 then (if bt243.2.2.2.2 = 0 then (if bt251.2.2.2.2 = 0 then (none) else (none)) else (none)) else (none)) else (none)) else (none))) else (if t238 = true then (if t240 = 0 then (if t242 = 0 then (if bt243.2.2.2.2 = 0 then (if bt251.2.2.2.2 = 0 then (none) else (none)) else (none)) else (none)) else (none)) else (none)))))) = some r := by rw [if_pos rfl] at H; exact H
        clear H
        have H := H1
        clear H1
        replace H := Option.bind_eq_some_iff.mp H
        obtain ⟨⟨t243, t244, t245, t246, t249⟩, A90, H⟩ := H
        replace H : ((sfitem_Parse.f t241).bind fun bt251 => (if t243 = 1 then (if t244 = a0 then (if bt251.1 = 2 then (if bt251.2.1 = a0 then (if t238 = true then (if t240 = 0 then (if t242 = 0 then (if t249 = 0 then (if bt251.2.2.2.2 = 0 then (if (t246.length : Int) = 0 then (some ((bt251.2.2.2.1.length : Int) == 0)) else (none)) else (none)) else (none)) else (none)) else (none)) else (none)) else (if t238 = true then (if t240 = 0 then (if t242 = 0 then (if t249 = 0 then (if bt251.2.2.2.2 = 0 then (if (t246.length : Int) = 0 then (none) else (none)) else (none)) else (none)) else (none)) else (none)) else (none))) else (if t238 = true then (if t240 = 0 then (if t242 = 0 then (if t249 = 0 then (if bt251.2.2.2.2 = 0 then (if (t246.length : Int) = 0 then (none) else (none)) else (none)) else (none)) else (none)) else (none)) else (none))) else (if bt251.1 = 2 then (if bt251.2.1 = a0 then (if t238 = true then (if t240 = 0 then (if t242 = 0 then (if t249 = 0 then (if bt251.2.2.2.2 = 0 then (none) else (none)) else (none)) else (none)) else (none)) else (none)) else (if t238 = true then (if t240 = 0 then (if t242 = 0 then (if t249 = 0 then (if bt251.2.2.2.2 = 0 then (none) else (none)) else (none)) else (none)) else (none)) else (none))) else (if t238 = true then (if t240 = 0 then (if t242 = 0 then (if t249 = 0 then (if bt251.2.2.2.2 = 0 then (none) else (none)) else (none)) else (none)) else (none)) else (none)))) else (if bt251.1 = 2 then (if bt251.2.1 = a0 then (if t238 = true then (if t240 = 0 then (if t242 = 0 then (if t249 = 0 then (if bt251.2.2.2.2 = 0 then (none) else (none)) else (none)) else (none)) else (none)) else (none)) else (if t238 = true then (if t240 = 0 then (if t242 = 0 then (if t249 = 0 then (if bt251.2.2.2.2 = 0 then (none) else (none)) else (none)) else (none)) else (none)) else (none))) else (if t238 = true then (if t240 = 0 then (if t242 = 0 then (if t249 = 0 then (if bt251.2.2.2.2 = 0 then (none) else (none)) else (none)) else (none)) else (none)) else (none))))) = some r := H
        have A9 := Aside0.mk A90
        clear A90
        replace H := Option.bind_eq_some_iff.mp H
        obtain ⟨⟨t251, t252, t253, t254, t257⟩, A100, H⟩ := H
        replace H : (if t243 = 1 then (if t244 = a0 then (if t251 = 2 then (if t252 = a0 then (if t238 = true then (if t240 = 0 then (if t242 = 0 then (if t249 = 0 then (if t257 = 0 then (if (t246.length : Int) = 0 then (some ((t254.length : Int) == 0)) else (none)) else (none)) else (none)) else (none)) else (none)) else (none)) else (if t238 = true then (if t240 = 0 then (if t242 = 0 then (if t249 = 0 then (if t257 = 0 then (if (t246.length : Int) = 0 then (none) else (none)) else (none)) else (none)) else (none)) else (none)) else (none))) else (if t238 = true then (if t240 = 0 then (if t242 = 0 then (if t249 = 0 then (if t257 = 0 then (if (t246.length : Int) = 0 then (none) else (none)) else (none)) else (none)) else (none)) else (none)) else (none))) else (if t251 = 2 then (if t252 = a0 then (if t238 = true then (if t240 = 0 then (if t242 = 0 then (if t249 = 0 then (if t257 = 0 then (none) else (none)) else (none)) else (none)) else (none)) else (none)) else (if t238 = true then (if t240 = 0 then (if t242 = 0 then (if t249 = 0 then (if t257 = 0 then (none) else (none)) else (none)) else (none)) else (none)) else (none))) else (if t238 = true then (if t240 = 0 then (if t242 = 0 then (if t249 = 0 then (if t257 = 0 then (none) else (none)) else (none)) else (none)) else (none)) else (none)))) else (if t251 = 2 then (if t252 = a0 then (if t238 = true then (if t240 = 0 then (if t242 = 0 then (if t249 = 0 then (if t257 = 0 then (none) else (none)) else (none)) else (none)) else (none)) else (none)) else (if t238 = true then (if t240 = 0 then (if t242 = 0 then (if t249 = 0 then (if t257 = 0 then (none) else (none)) else (none)) else (none)) else (none)) else (none))) else (if t238 = true then (if t240 = 0 then (if t242 = 0 then (if t249 = 0 then (if t257 = 0 then (none) else (none)) else (none)) else (none)) else (none)) else (none)))) = some r := H
        have A10 := Aside0.mk A100
        clear A100
        by_cases c11 : t243 = 1
        · rw [if_pos c11] at H
          have c11b0 : (t243 == 1) = true := beq_iff_eq.mpr c11
          have c11b1 : (t243 != 1) = false := bne_eq_false_iff_eq.mpr c11
          clear c11
          by_cases c12 : t244 = a0
          · rw [if_pos c12] at H
            have c12b0 : (t244 == a0) = true := beq_iff_eq.mpr c12
            have c12b1 : (t244 != a0) = false := bne_eq_false_iff_eq.mpr c12
            clear c12
            by_cases c13 : t251 = 2
            · rw [if_pos c13] at H
              have c13b0 : (t251 == 2) = true := beq_iff_eq.mpr c13
              have c13b1 : (t251 != 2) = false := bne_eq_false_iff_eq.mpr c13
              clear c13
              by_cases c14 : t252 = a0
              · rw [if_pos c14] at H
                have c14b0 : (t252 == a0) = true := beq_iff_eq.mpr c14
                have c14b1 : (t252 != a0) = false := bne_eq_false_iff_eq.mpr c14
                clear c14
                by_cases c15 : t238 = true
                · subst c15
                  have H1 : (if t240 = 0 then (if t242 = 0 then (if t249 = 0 then (if t257 = 0 then (if (t246.length : Int) = 0 then (some ((t254.length : Int) == 0)) else (none)) else (none)) else (none)) else (none)) else (none)) = some r := by rw [if_pos rfl] at H; exact H
                  clear H
                  have H := H1
                  clear H1
                  by_cases c16 : t240 = 0
                  · rw [if_pos c16] at H
                    have c16b0 : (t240 == 0) = true := beq_iff_eq.mpr c16
                    have c16b1 : (t240 != 0) = false := bne_eq_false_iff_eq.mpr c16
                    clear c16
                    by_cases c17 : t242 = 0
                    · rw [if_pos c17] at H
                      have c17b0 : (t242 == 0) = true := beq_iff_eq.mpr c17
                      have c17b1 : (t242 != 0) = false := bne_eq_false_iff_eq.mpr c17
                      clear c17
                      by_cases c18 : t249 = 0
                      · rw [if_pos c18] at H
                        have c18b0 : (t249 == 0) = true := beq_iff_eq.mpr c18
                        have c18b1 : (t249 != 0) = false := bne_eq_false_iff_eq.mpr c18
                        clear c18
                        by_cases c19 : t257 = 0
                        · rw [if_pos c19] at H
                          have c19b0 : (t257 == 0) = true := beq_iff_eq.mpr c19
                          have c19b1 : (t257 != 0) = false := bne_eq_false_iff_eq.mpr c19
                          clear c19
                          by_cases c20 : (t246.length : Int) = 0
                          · rw [if_pos c20] at H
                            have c20b0 : ((t246.length : Int) == 0) = true := beq_iff_eq.mpr c20
                            have c20b1 : ((t246.length : Int) != 0) = false := bne_eq_false_iff_eq.mpr c20
                            clear c20
                            obtain rfl := Option.some.inj H
                            go_wp2_with (first | ((with_reducible refine gate_callee (f := 11) rfl ?_); refine goesL_ (some 25) rfl rfl Tryd.func11 (by kernel_rfl) rfl #[.agg #[.int .i64 1, .int .i64 a0, .string (⟨#[]⟩ : ByteArray), .slice none 0 0]] rfl (by (try simp only [List.map_toArray, List.map_cons, List.map_nil]); first | done | rfl | (simp only [List.length_drop, List.length_take]; rfl)) ?_; (refine (sfitem_Text.calls 1 a0 (⟨#[]⟩ : ByteArray) _ _ ([] : List (S38)) t239 t240 _ (tab_ hT_ ?hTab) ?side1 ?side2 A6.out).mono ?_); (case hTab => exact (by repeat (first | (with_reducible first | exact HB.out | apply below_alloc | apply pw_below_drewN | apply below_drew1) | exact HB.out))); (case side1 => exact Kd.C_nil _ _); (case side2 => exact Nat.le_refl _); rintro e w21 ⟨rfl, hb⟩; refine ⟨_, rfl, ?_⟩; have n0_ := Aside0.mk (below_step (by repeat (first | (with_reducible first | exact HB.out | apply below_alloc | apply pw_below_drewN | apply below_drew1) | exact HB.out)) hb); clear HB; have HB := n0_; clear n0_; (try clear hb); (try clear hb2); (try clear hk); (try clear hi)) | ((with_reducible refine gate_callee (f := 11) rfl ?_); refine goesL_ (some 31) rfl rfl Tryd.func11 (by kernel_rfl) rfl #[.agg #[.int .i64 2, .int .i64 a0, .string (⟨#[]⟩ : ByteArray), .slice none 0 0]] rfl (by (try simp only [List.map_toArray, List.map_cons, List.map_nil]); first | done | rfl | (simp only [List.length_drop, List.length_take]; rfl)) ?_; (refine (sfitem_Text.calls 2 a0 (⟨#[]⟩ : ByteArray) _ _ ([] : List (S38)) t241 t242 _ (tab_ hT_ ?hTab) ?side1 ?side2 A7.out).mono ?_); (case hTab => exact (by repeat (first | (with_reducible first | exact HB.out | apply below_alloc | apply pw_below_drewN | apply below_drew1) | exact HB.out))); (case side1 => exact Kd.C_nil _ _); (case side2 => exact Nat.le_refl _); rintro e w22 ⟨rfl, hb⟩; refine ⟨_, rfl, ?_⟩; have n0_ := Aside0.mk (below_step (by repeat (first | (with_reducible first | exact HB.out | apply below_alloc | apply pw_below_drewN | apply below_drew1) | exact HB.out)) hb); clear HB; have HB := n0_; clear n0_; (try clear hb); (try clear hb2); (try clear hk); (try clear hi)) | ((with_reducible refine gate_callee (f := 12) rfl ?_); refine goesL_ (some 55) rfl rfl Tryd.func12 (by kernel_rfl) rfl #[.string t239] rfl (by (try simp only [List.map_toArray, List.map_cons, List.map_nil]); first | done | rfl | (simp only [List.length_drop, List.length_take]; rfl)) ?_; (with_reducible refine (sfitem_Parse.calls t239 t243 t244 t245 t246 t249 _ A9.out).mono ?_); rintro e w23 ⟨v247, rfl, ho0, hb⟩; refine ⟨_, rfl, ?_⟩; have n0_ := Aside0.mk (Kd.R_lower ho0 (below_size (by repeat (first | (with_reducible first | exact HB.out | apply below_alloc | apply pw_below_drewN | apply below_drew1) | exact HB.out)))); have n1_ := Aside0.mk (below_step (by repeat (first | (with_reducible first | exact HB.out | apply below_alloc | apply pw_below_drewN | apply below_drew1) | exact HB.out)) hb); clear HB; have HO248 := n0_; have HB := n1_; clear n0_ n1_; (try clear hb); (try clear hb2); (try clear hk); (try clear hi); (try clear ho0)) | ((with_reducible refine gate_dst (N := 9) rfl ?_); (try (refine gate_guard (by rfl) ?_; dsimp only)); refine box_event ?hg (N := 9) ?hd (cs := #[.int .i64 0, .int .i64 0, .string (⟨#[]⟩ : ByteArray), .slice none 0 0]) (t := 25) ?hr ?_; (case hd => rfl); (case hg => rfl); (case hr => first | (go_simp; done) | (go_simp; rfl)); intro gb250 hg w24 hbox hb; have n0_ := Aside0.mk (Kd.R_below (by (with_reducible repeat (first | apply Kd.R_alloc | apply Kd.R_drewN | apply Kd.R_drew)); exact HO248.out) hb); have n1_ := Aside0.mk (below_step (by repeat (first | (with_reducible first | exact HB.out | apply below_alloc | apply pw_below_drewN | apply below_drew1) | exact HB.out)) hb); have n2_ := Aside0.mk (hbox); have n3_ := Aside0.mk ((by rw [hg]; exact (below_size (by repeat (first | (with_reducible first | exact HB.out | apply below_alloc | apply pw_below_drewN | apply below_drew1) | exact HB.out))) : w.heap.size ≤ gb250)); have n4_ := Aside0.mk ((by rw [hg]; exact (below_size (by repeat (first | (with_reducible first | exact HB.out | apply below_alloc | apply pw_below_drewN | apply below_drew1) | exact HB.out))) : w.heap.size ≤ gb250)); clear HO248; clear HB; have HO248 := n0_; have HB := n1_; have BK250 := n2_; have GW250 := n3_; have GE250 := n4_; clear n0_ n1_ n2_ n3_ n4_; clear hb hbox hg; have hcz25_0 : w24.cell? ⟨gb250, 0, none⟩ = some (.int .i64 0) := (blk_cell BK250.out 0).trans rfl; have hcz25_1 : w24.cell? ⟨gb250, 1, none⟩ = some (.int .i64 0) := (blk_cell BK250.out 1).trans rfl; have hcz25_2 : w24.cell? ⟨gb250, 2, none⟩ = some (.string (⟨#[]⟩ : ByteArray)) := (blk_cell BK250.out 2).trans rfl; have hcz25_3 : w24.cell? ⟨gb250, 3, none⟩ = some (.slice none 0 0) := (blk_cell BK250.out 3).trans rfl; have hfz25_0 := blk_frozen BK250.out 0; have hfz25_1 := blk_frozen BK250.out 1; have hfz25_2 := blk_frozen BK250.out 2; have hfz25_3 := blk_frozen BK250.out 3; obtain ⟨Ao26, co26, eo26⟩ := Kd.R_slice HO248.out; subst eo26) | ((with_reducible refine gate_callee (f := 12) rfl ?_); refine goesL_ (some 60) rfl rfl Tryd.func12 (by kernel_rfl) rfl #[.string t241] rfl (by (try simp only [List.map_toArray, List.map_cons, List.map_nil]); first | done | rfl | (simp only [List.length_drop, List.length_take]; rfl)) ?_; (with_reducible refine (sfitem_Parse.calls t241 t251 t252 t253 t254 t257 _ A10.out).mono ?_); rintro e w27 ⟨v255, rfl, ho0, hb⟩; refine ⟨_, rfl, ?_⟩; have n0_ := Aside0.mk (Kd.R_elder' (by (with_reducible repeat (first | apply Kd.R_alloc | apply Kd.R_drewN | apply Kd.R_drew)); exact (Kd.R_mono (Kd.R_far (p := ⟨gb250, 3, none⟩) (Kd.R_far (p := ⟨gb250, 2, none⟩) (Kd.R_far (p := ⟨gb250, 1, none⟩) (Kd.R_far (p := ⟨gb250, 0, none⟩) (Kd.R_types HO248.out BK250.out (by decide)) (fun _ hk => hk.2) (.int .i64 t243)) (fun _ hk => hk.2) (.int .i64 t244)) (fun _ hk => hk.2) (.string t245)) (fun _ hk => hk.2) (.slice Ao26 t246.length co26)) (fun _ h_ => h_.1))) (Kd.R_base ho0) hb); have n1_ := Aside0.mk (Kd.R_lower (Kd.R_new' ho0 (Kd.R_lt (by (with_reducible repeat (first | apply Kd.R_alloc | apply Kd.R_drewN | apply Kd.R_drew)); exact (Kd.R_mono (Kd.R_far (p := ⟨gb250, 3, none⟩) (Kd.R_far (p := ⟨gb250, 2, none⟩) (Kd.R_far (p := ⟨gb250, 1, none⟩) (Kd.R_far (p := ⟨gb250, 0, none⟩) (Kd.R_types HO248.out BK250.out (by decide)) (fun _ hk => hk.2) (.int .i64 t243)) (fun _ hk => hk.2) (.int .i64 t244)) (fun _ hk => hk.2) (.string t245)) (fun _ hk => hk.2) (.slice Ao26 t246.length co26)) (fun _ h_ => h_.1))))) (below_size (by repeat (first | (with_reducible first | exact HB.out | apply below_alloc | apply pw_below_drewN | apply below_drew1 | refine below_set ?_ GE250.out) | exact HB.out)))); have n2_ := Aside0.mk (blk_below (g := gb250) (o := .cells #[.int .i64 t243, .int .i64 t244, .string t245, .slice Ao26 t246.length co26] 25 (0, 0)) (by (with_reducible repeat (first | refine blk_drewN ?_ _ | refine blk_drew ?_ | refine blk_alloc ?_ _)); refine blk_put (cs := #[.int .i64 t243, .int .i64 t244, .string t245, .slice none 0 0]) ?_ 3 _ rfl; (with_reducible repeat (first | refine blk_drewN ?_ _ | refine blk_drew ?_ | refine blk_alloc ?_ _)); refine blk_put (cs := #[.int .i64 t243, .int .i64 t244, .string (⟨#[]⟩ : ByteArray), .slice none 0 0]) ?_ 2 _ rfl; (with_reducible repeat (first | refine blk_drewN ?_ _ | refine blk_drew ?_ | refine blk_alloc ?_ _)); refine blk_put (cs := #[.int .i64 t243, .int .i64 0, .string (⟨#[]⟩ : ByteArray), .slice none 0 0]) ?_ 1 _ rfl; (with_reducible repeat (first | refine blk_drewN ?_ _ | refine blk_drew ?_ | refine blk_alloc ?_ _)); refine blk_put (cs := #[.int .i64 0, .int .i64 0, .string (⟨#[]⟩ : ByteArray), .slice none 0 0]) ?_ 0 _ rfl; (with_reducible repeat (first | refine blk_drewN ?_ _ | refine blk_drew ?_ | refine blk_alloc ?_ _)); exact BK250.out) hb); have n3_ := Aside0.mk (below_step (by repeat (first | (with_reducible first | exact HB.out | apply below_alloc | apply pw_below_drewN | apply below_drew1 | refine below_set ?_ GE250.out) | exact HB.out)) hb); clear HO248; clear BK250; clear HB; have HO248 := n0_; have HO256 := n1_; have BK250 := n2_; have HB := n3_; clear n0_ n1_ n2_ n3_; (try clear hb); (try clear hb2); (try clear hk); (try clear hi); (try clear ho0)) | ((with_reducible refine gate_dst (N := 11) rfl ?_); (try (refine gate_guard (by rfl) ?_; dsimp only)); refine box_event ?hg (N := 11) ?hd (cs := #[.int .i64 0, .int .i64 0, .string (⟨#[]⟩ : ByteArray), .slice none 0 0]) (t := 25) ?hr ?_; (case hd => rfl); (case hg => rfl); (case hr => first | (go_simp; done) | (go_simp; rfl)); intro gb258 hg w28 hbox hb; have n0_ := Aside0.mk (Kd.R_below (by (with_reducible repeat (first | apply Kd.R_alloc | apply Kd.R_drewN | apply Kd.R_drew)); exact HO248.out) hb); have n1_ := Aside0.mk (Kd.R_below (by (with_reducible repeat (first | apply Kd.R_alloc | apply Kd.R_drewN | apply Kd.R_drew)); exact HO256.out) hb); have n2_ := Aside0.mk (blk_below (g := gb250) (o := .cells #[.int .i64 t243, .int .i64 t244, .string t245, .slice Ao26 t246.length co26] 25 (0, 0)) (by (with_reducible repeat (first | refine blk_drewN ?_ _ | refine blk_drew ?_ | refine blk_alloc ?_ _)); exact BK250.out) hb); have n3_ := Aside0.mk (below_step (by repeat (first | (with_reducible first | exact HB.out | apply below_alloc | apply pw_below_drewN | apply below_drew1 | refine below_set ?_ GE250.out) | exact HB.out)) hb); have n4_ := Aside0.mk (hbox); have n5_ := Aside0.mk ((by rw [hg]; exact (below_size (by repeat (first | (with_reducible first | exact HB.out | apply below_alloc | apply pw_below_drewN | apply below_drew1 | refine below_set ?_ GE250.out) | exact HB.out))) : w.heap.size ≤ gb258)); have n6_ := Aside0.mk ((by rw [hg]; exact (below_size (by repeat (first | (with_reducible first | exact HB.out | apply below_alloc | apply pw_below_drewN | apply below_drew1 | refine below_set ?_ GE250.out) | exact HB.out))) : w.heap.size ≤ gb258)); have n7_ := Aside0.mk ((by rw [hg]; exact Nat.ne_of_lt (blk_lt (g := gb250) (o := .cells #[.int .i64 t243, .int .i64 t244, .string t245, .slice Ao26 t246.length co26] 25 (0, 0)) (by (with_reducible repeat (first | refine blk_drewN ?_ _ | refine blk_drew ?_ | refine blk_alloc ?_ _)); exact BK250.out)) : gb250 ≠ gb258)); have n8_ := Aside0.mk ((by rw [hg]; exact Nat.ne_of_gt (blk_lt (g := gb250) (o := .cells #[.int .i64 t243, .int .i64 t244, .string t245, .slice Ao26 t246.length co26] 25 (0, 0)) (by (with_reducible repeat (first | refine blk_drewN ?_ _ | refine blk_drew ?_ | refine blk_alloc ?_ _)); exact BK250.out)) : gb258 ≠ gb250)); clear HO248; clear HO256; clear BK250; clear HB; have HO248 := n0_; have HO256 := n1_; have BK250 := n2_; have HB := n3_; have BK258 := n4_; have GW258 := n5_; have GE258 := n6_; have NB250_258 := n7_; have NB258_250 := n8_; clear n0_ n1_ n2_ n3_ n4_ n5_ n6_ n7_ n8_; clear hb hbox hg; have hnb29 := NB258_250.out; have hnc29 := NB250_258.out; have hcz30_0 : w28.cell? ⟨gb258, 0, none⟩ = some (.int .i64 0) := (blk_cell BK258.out 0).trans rfl; have hcz30_1 : w28.cell? ⟨gb258, 1, none⟩ = some (.int .i64 0) := (blk_cell BK258.out 1).trans rfl; have hcz30_2 : w28.cell? ⟨gb258, 2, none⟩ = some (.string (⟨#[]⟩ : ByteArray)) := (blk_cell BK258.out 2).trans rfl; have hcz30_3 : w28.cell? ⟨gb258, 3, none⟩ = some (.slice none 0 0) := (blk_cell BK258.out 3).trans rfl; have hfz30_0 := blk_frozen BK258.out 0; have hfz30_1 := blk_frozen BK258.out 1; have hfz30_2 := blk_frozen BK258.out 2; have hfz30_3 := blk_frozen BK258.out 3; obtain ⟨Ao31, co31, eo31⟩ := Kd.R_slice HO256.out; subst eo31; have hcz32_0 : w28.cell? ⟨gb250, 0, none⟩ = some (.int .i64 t243) := (blk_cell BK250.out 0).trans rfl; have hcz32_1 : w28.cell? ⟨gb250, 1, none⟩ = some (.int .i64 t244) := (blk_cell BK250.out 1).trans rfl; have hcz32_2 : w28.cell? ⟨gb250, 2, none⟩ = some (.string t245) := (blk_cell BK250.out 2).trans rfl; have hcz32_3 : w28.cell? ⟨gb250, 3, none⟩ = some (.slice Ao26 t246.length co26) := (blk_cell BK250.out 3).trans rfl; have hfz32_0 := blk_frozen BK250.out 0; have hfz32_1 := blk_frozen BK250.out 1; have hfz32_2 := blk_frozen BK250.out 2; have hfz32_3 := blk_frozen BK250.out 3))
                            go_ret
                            exact ⟨by first | rfl | (simp [errW_none, errW_some] <;> rfl) | (simp [*, errW_none, errW_some] <;> rfl) | (simp [q_ne_nil]; done), by repeat (first | (with_reducible first | exact HB.out | apply below_alloc | apply pw_below_drewN | apply below_drew1 | refine below_set ?_ GE250.out | refine below_set ?_ GE258.out) | exact HB.out)⟩
                          · exact absurd H (by rw [if_neg c20]; simp)
                        · exact absurd H (by rw [if_neg c19]; simp)
                      · exact absurd H (by rw [if_neg c18]; simp)
                    · exact absurd H (by rw [if_neg c17]; simp)
                  · exact absurd H (by rw [if_neg c16]; simp)
                · exact absurd H (by rw [if_neg c15]; simp)
              · rw [if_neg c14] at H
                have c14b0 : (t252 == a0) = false := beq_eq_false_iff_ne.mpr c14
                have c14b1 : (t252 != a0) = true := bne_iff_ne.mpr c14
                by_cases c105 : t238 = true
                · subst c105
                  have H1 : (if t240 = 0 then (if t242 = 0 then (if t249 = 0 then (if t257 = 0 then (if (t246.length : Int) = 0 then (none) else (none)) else (none)) else (none)) else (none)) else (none)) = some r := by rw [if_pos rfl] at H; exact H
                  clear H
                  have H := H1
                  clear H1
                  by_cases c106 : t240 = 0
                  · rw [if_pos c106] at H
                    have c106b0 : (t240 == 0) = true := beq_iff_eq.mpr c106
                    have c106b1 : (t240 != 0) = false := bne_eq_false_iff_eq.mpr c106
                    clear c106
                    by_cases c107 : t242 = 0
                    · rw [if_pos c107] at H
                      have c107b0 : (t242 == 0) = true := beq_iff_eq.mpr c107
                      have c107b1 : (t242 != 0) = false := bne_eq_false_iff_eq.mpr c107
                      clear c107
                      by_cases c108 : t249 = 0
                      · rw [if_pos c108] at H
                        have c108b0 : (t249 == 0) = true := beq_iff_eq.mpr c108
                        have c108b1 : (t249 != 0) = false := bne_eq_false_iff_eq.mpr c108
                        clear c108
                        by_cases c109 : t257 = 0
                        · rw [if_pos c109] at H
                          have c109b0 : (t257 == 0) = true := beq_iff_eq.mpr c109
                          have c109b1 : (t257 != 0) = false := bne_eq_false_iff_eq.mpr c109
                          clear c109
                          by_cases c110 : (t246.length : Int) = 0
                          · exact absurd H (by rw [if_pos c110]; simp)
                          · exact absurd H (by rw [if_neg c110]; simp)
                        · exact absurd H (by rw [if_neg c109]; simp)
                      · exact absurd H (by rw [if_neg c108]; simp)
                    · exact absurd H (by rw [if_neg c107]; simp)
                  · exact absurd H (by rw [if_neg c106]; simp)
                · exact absurd H (by rw [if_neg c105]; simp)
            · rw [if_neg c13] at H
              have c13b0 : (t251 == 2) = false := beq_eq_false_iff_ne.mpr c13
              have c13b1 : (t251 != 2) = true := bne_iff_ne.mpr c13
              by_cases c195 : t238 = true
              · subst c195
                have H1 : (if t240 = 0 then (if t242 = 0 then (if t249 = 0 then (if t257 = 0 then (if (t246.length : Int) = 0 then (none) else (none)) else (none)) else (none)) else (none)) else (none)) = some r := by rw [if_pos rfl] at H; exact H
                clear H
                have H := H1
                clear H1
                by_cases c196 : t240 = 0
                · rw [if_pos c196] at H
                  have c196b0 : (t240 == 0) = true := beq_iff_eq.mpr c196
                  have c196b1 : (t240 != 0) = false := bne_eq_false_iff_eq.mpr c196
                  clear c196
                  by_cases c197 : t242 = 0
                  · rw [if_pos c197] at H
                    have c197b0 : (t242 == 0) = true := beq_iff_eq.mpr c197
                    have c197b1 : (t242 != 0) = false := bne_eq_false_iff_eq.mpr c197
                    clear c197
                    by_cases c198 : t249 = 0
                    · rw [if_pos c198] at H
                      have c198b0 : (t249 == 0) = true := beq_iff_eq.mpr c198
                      have c198b1 : (t249 != 0) = false := bne_eq_false_iff_eq.mpr c198
                      clear c198
                      by_cases c199 : t257 = 0
                      · rw [if_pos c199] at H
                        have c199b0 : (t257 == 0) = true := beq_iff_eq.mpr c199
                        have c199b1 : (t257 != 0) = false := bne_eq_false_iff_eq.mpr c199
                        clear c199
                        by_cases c200 : (t246.length : Int) = 0
                        · exact absurd H (by rw [if_pos c200]; simp)
                        · exact absurd H (by rw [if_neg c200]; simp)
                      · exact absurd H (by rw [if_neg c199]; simp)
                    · exact absurd H (by rw [if_neg c198]; simp)
                  · exact absurd H (by rw [if_neg c197]; simp)
                · exact absurd H (by rw [if_neg c196]; simp)
              · exact absurd H (by rw [if_neg c195]; simp)
          · rw [if_neg c12] at H
            have c12b0 : (t244 == a0) = false := beq_eq_false_iff_ne.mpr c12
            have c12b1 : (t244 != a0) = true := bne_iff_ne.mpr c12
            by_cases c285 : t251 = 2
            · rw [if_pos c285] at H
              have c285b0 : (t251 == 2) = true := beq_iff_eq.mpr c285
              have c285b1 : (t251 != 2) = false := bne_eq_false_iff_eq.mpr c285
              clear c285
              by_cases c286 : t252 = a0
              · rw [if_pos c286] at H
                have c286b0 : (t252 == a0) = true := beq_iff_eq.mpr c286
                have c286b1 : (t252 != a0) = false := bne_eq_false_iff_eq.mpr c286
                clear c286
                by_cases c287 : t238 = true
                · subst c287
                  have H1 : (if t240 = 0 then (if t242 = 0 then (if t249 = 0 then (if t257 = 0 then (none) else (none)) else (none)) else (none)) else (none)) = some r := by rw [if_pos rfl] at H; exact H
                  clear H
                  have H := H1
                  clear H1
                  by_cases c288 : t240 = 0
                  · rw [if_pos c288] at H
                    have c288b0 : (t240 == 0) = true := beq_iff_eq.mpr c288
                    have c288b1 : (t240 != 0) = false := bne_eq_false_iff_eq.mpr c288
                    clear c288
                    by_cases c289 : t242 = 0
                    · rw [if_pos c289] at H
                      have c289b0 : (t242 == 0) = true := beq_iff_eq.mpr c289
                      have c289b1 : (t242 != 0) = false := bne_eq_false_iff_eq.mpr c289
                      clear c289
                      by_cases c290 : t249 = 0
                      · rw [if_pos c290] at H
                        have c290b0 : (t249 == 0) = true := beq_iff_eq.mpr c290
                        have c290b1 : (t249 != 0) = false := bne_eq_false_iff_eq.mpr c290
                        clear c290
                        by_cases c291 : t257 = 0
                        · exact absurd H (by rw [if_pos c291]; simp)
                        · exact absurd H (by rw [if_neg c291]; simp)
                      · exact absurd H (by rw [if_neg c290]; simp)
                    · exact absurd H (by rw [if_neg c289]; simp)
                  · exact absurd H (by rw [if_neg c288]; simp)
                · exact absurd H (by rw [if_neg c287]; simp)
              · rw [if_neg c286] at H
                have c286b0 : (t252 == a0) = false := beq_eq_false_iff_ne.mpr c286
                have c286b1 : (t252 != a0) = true := bne_iff_ne.mpr c286
                by_cases c364 : t238 = true
                · subst c364
                  have H1 : (if t240 = 0 then (if t242 = 0 then (if t249 = 0 then (if t257 = 0 then (none) else (none)) else (none)) else (none)) else (none)) = some r := by rw [if_pos rfl] at H; exact H
                  clear H
                  have H := H1
                  clear H1
                  by_cases c365 : t240 = 0
                  · rw [if_pos c365] at H
                    have c365b0 : (t240 == 0) = true := beq_iff_eq.mpr c365
                    have c365b1 : (t240 != 0) = false := bne_eq_false_iff_eq.mpr c365
                    clear c365
                    by_cases c366 : t242 = 0
                    · rw [if_pos c366] at H
                      have c366b0 : (t242 == 0) = true := beq_iff_eq.mpr c366
                      have c366b1 : (t242 != 0) = false := bne_eq_false_iff_eq.mpr c366
                      clear c366
                      by_cases c367 : t249 = 0
                      · rw [if_pos c367] at H
                        have c367b0 : (t249 == 0) = true := beq_iff_eq.mpr c367
                        have c367b1 : (t249 != 0) = false := bne_eq_false_iff_eq.mpr c367
                        clear c367
                        by_cases c368 : t257 = 0
                        · exact absurd H (by rw [if_pos c368]; simp)
                        · exact absurd H (by rw [if_neg c368]; simp)
                      · exact absurd H (by rw [if_neg c367]; simp)
                    · exact absurd H (by rw [if_neg c366]; simp)
                  · exact absurd H (by rw [if_neg c365]; simp)
                · exact absurd H (by rw [if_neg c364]; simp)
            · rw [if_neg c285] at H
              have c285b0 : (t251 == 2) = false := beq_eq_false_iff_ne.mpr c285
              have c285b1 : (t251 != 2) = true := bne_iff_ne.mpr c285
              by_cases c441 : t238 = true
              · subst c441
                have H1 : (if t240 = 0 then (if t242 = 0 then (if t249 = 0 then (if t257 = 0 then (none) else (none)) else (none)) else (none)) else (none)) = some r := by rw [if_pos rfl] at H; exact H
                clear H
                have H := H1
                clear H1
                by_cases c442 : t240 = 0
                · rw [if_pos c442] at H
                  have c442b0 : (t240 == 0) = true := beq_iff_eq.mpr c442
                  have c442b1 : (t240 != 0) = false := bne_eq_false_iff_eq.mpr c442
                  clear c442
                  by_cases c443 : t242 = 0
                  · rw [if_pos c443] at H
                    have c443b0 : (t242 == 0) = true := beq_iff_eq.mpr c443
                    have c443b1 : (t242 != 0) = false := bne_eq_false_iff_eq.mpr c443
                    clear c443
                    by_cases c444 : t249 = 0
                    · rw [if_pos c444] at H
                      have c444b0 : (t249 == 0) = true := beq_iff_eq.mpr c444
                      have c444b1 : (t249 != 0) = false := bne_eq_false_iff_eq.mpr c444
                      clear c444
                      by_cases c445 : t257 = 0
                      · exact absurd H (by rw [if_pos c445]; simp)
                      · exact absurd H (by rw [if_neg c445]; simp)
                    · exact absurd H (by rw [if_neg c444]; simp)
                  · exact absurd H (by rw [if_neg c443]; simp)
                · exact absurd H (by rw [if_neg c442]; simp)
              · exact absurd H (by rw [if_neg c441]; simp)
        · rw [if_neg c11] at H
          have c11b0 : (t243 == 1) = false := beq_eq_false_iff_ne.mpr c11
          have c11b1 : (t243 != 1) = true := bne_iff_ne.mpr c11
          by_cases c518 : t251 = 2
          · rw [if_pos c518] at H
            have c518b0 : (t251 == 2) = true := beq_iff_eq.mpr c518
            have c518b1 : (t251 != 2) = false := bne_eq_false_iff_eq.mpr c518
            clear c518
            by_cases c519 : t252 = a0
            · rw [if_pos c519] at H
              have c519b0 : (t252 == a0) = true := beq_iff_eq.mpr c519
              have c519b1 : (t252 != a0) = false := bne_eq_false_iff_eq.mpr c519
              clear c519
              by_cases c520 : t238 = true
              · subst c520
                have H1 : (if t240 = 0 then (if t242 = 0 then (if t249 = 0 then (if t257 = 0 then (none) else (none)) else (none)) else (none)) else (none)) = some r := by rw [if_pos rfl] at H; exact H
                clear H
                have H := H1
                clear H1
                by_cases c521 : t240 = 0
                · rw [if_pos c521] at H
                  have c521b0 : (t240 == 0) = true := beq_iff_eq.mpr c521
                  have c521b1 : (t240 != 0) = false := bne_eq_false_iff_eq.mpr c521
                  clear c521
                  by_cases c522 : t242 = 0
                  · rw [if_pos c522] at H
                    have c522b0 : (t242 == 0) = true := beq_iff_eq.mpr c522
                    have c522b1 : (t242 != 0) = false := bne_eq_false_iff_eq.mpr c522
                    clear c522
                    by_cases c523 : t249 = 0
                    · rw [if_pos c523] at H
                      have c523b0 : (t249 == 0) = true := beq_iff_eq.mpr c523
                      have c523b1 : (t249 != 0) = false := bne_eq_false_iff_eq.mpr c523
                      clear c523
                      by_cases c524 : t257 = 0
                      · exact absurd H (by rw [if_pos c524]; simp)
                      · exact absurd H (by rw [if_neg c524]; simp)
                    · exact absurd H (by rw [if_neg c523]; simp)
                  · exact absurd H (by rw [if_neg c522]; simp)
                · exact absurd H (by rw [if_neg c521]; simp)
              · exact absurd H (by rw [if_neg c520]; simp)
            · rw [if_neg c519] at H
              have c519b0 : (t252 == a0) = false := beq_eq_false_iff_ne.mpr c519
              have c519b1 : (t252 != a0) = true := bne_iff_ne.mpr c519
              by_cases c597 : t238 = true
              · subst c597
                have H1 : (if t240 = 0 then (if t242 = 0 then (if t249 = 0 then (if t257 = 0 then (none) else (none)) else (none)) else (none)) else (none)) = some r := by rw [if_pos rfl] at H; exact H
                clear H
                have H := H1
                clear H1
                by_cases c598 : t240 = 0
                · rw [if_pos c598] at H
                  have c598b0 : (t240 == 0) = true := beq_iff_eq.mpr c598
                  have c598b1 : (t240 != 0) = false := bne_eq_false_iff_eq.mpr c598
                  clear c598
                  by_cases c599 : t242 = 0
                  · rw [if_pos c599] at H
                    have c599b0 : (t242 == 0) = true := beq_iff_eq.mpr c599
                    have c599b1 : (t242 != 0) = false := bne_eq_false_iff_eq.mpr c599
                    clear c599
                    by_cases c600 : t249 = 0
                    · rw [if_pos c600] at H
                      have c600b0 : (t249 == 0) = true := beq_iff_eq.mpr c600
                      have c600b1 : (t249 != 0) = false := bne_eq_false_iff_eq.mpr c600
                      clear c600
                      by_cases c601 : t257 = 0
                      · exact absurd H (by rw [if_pos c601]; simp)
                      · exact absurd H (by rw [if_neg c601]; simp)
                    · exact absurd H (by rw [if_neg c600]; simp)
                  · exact absurd H (by rw [if_neg c599]; simp)
                · exact absurd H (by rw [if_neg c598]; simp)
              · exact absurd H (by rw [if_neg c597]; simp)
          · rw [if_neg c518] at H
            have c518b0 : (t251 == 2) = false := beq_eq_false_iff_ne.mpr c518
            have c518b1 : (t251 != 2) = true := bne_iff_ne.mpr c518
            by_cases c674 : t238 = true
            · subst c674
              have H1 : (if t240 = 0 then (if t242 = 0 then (if t249 = 0 then (if t257 = 0 then (none) else (none)) else (none)) else (none)) else (none)) = some r := by rw [if_pos rfl] at H; exact H
              clear H
              have H := H1
              clear H1
              by_cases c675 : t240 = 0
              · rw [if_pos c675] at H
                have c675b0 : (t240 == 0) = true := beq_iff_eq.mpr c675
                have c675b1 : (t240 != 0) = false := bne_eq_false_iff_eq.mpr c675
                clear c675
                by_cases c676 : t242 = 0
                · rw [if_pos c676] at H
                  have c676b0 : (t242 == 0) = true := beq_iff_eq.mpr c676
                  have c676b1 : (t242 != 0) = false := bne_eq_false_iff_eq.mpr c676
                  clear c676
                  by_cases c677 : t249 = 0
                  · rw [if_pos c677] at H
                    have c677b0 : (t249 == 0) = true := beq_iff_eq.mpr c677
                    have c677b1 : (t249 != 0) = false := bne_eq_false_iff_eq.mpr c677
                    clear c677
                    by_cases c678 : t257 = 0
                    · exact absurd H (by rw [if_pos c678]; simp)
                    · exact absurd H (by rw [if_neg c678]; simp)
                  · exact absurd H (by rw [if_neg c677]; simp)
                · exact absurd H (by rw [if_neg c676]; simp)
              · exact absurd H (by rw [if_neg c675]; simp)
            · exact absurd H (by rw [if_neg c674]; simp)
      · replace c8 := Bool.eq_false_iff.mpr c8
        subst c8
        have H1 : (if t238 = true then (if t240 = 50 then (if t242 = 50 then (if t239.toList = ([] : List UInt8) then (some (t241.toList == ([] : List UInt8))) else (none)) else (none)) else (none)) else (none)) = some r := by rw [if_neg (show ¬ (false = true) by decide)] at H; exact H
        clear H
        have H := H1
        clear H1
        by_cases c751 : t238 = true
        · subst c751
          have H1 : (if t240 = 50 then (if t242 = 50 then (if t239.toList = ([] : List UInt8) then (some (t241.toList == ([] : List UInt8))) else (none)) else (none)) else (none)) = some r := by rw [if_pos rfl] at H; exact H
          clear H
          have H := H1
          clear H1
          by_cases c752 : t240 = 50
          · rw [if_pos c752] at H
            have c752b0 : (t240 == 50) = true := beq_iff_eq.mpr c752
            have c752b1 : (t240 != 50) = false := bne_eq_false_iff_eq.mpr c752
            clear c752
            by_cases c753 : t242 = 50
            · rw [if_pos c753] at H
              have c753b0 : (t242 == 50) = true := beq_iff_eq.mpr c753
              have c753b1 : (t242 != 50) = false := bne_eq_false_iff_eq.mpr c753
              clear c753
              by_cases c754 : t239.toList = ([] : List UInt8)
              · rw [if_pos c754] at H
                have c754b0 : (t239.toList == ([] : List UInt8)) = true := beq_iff_eq.mpr c754
                have c754b1 : (t239.toList != ([] : List UInt8)) = false := bne_eq_false_iff_eq.mpr c754
                clear c754
                obtain rfl := Option.some.inj H
                go_wp2_with (first | ((with_reducible refine gate_callee (f := 11) rfl ?_); refine goesL_ (some 25) rfl rfl Tryd.func11 (by kernel_rfl) rfl #[.agg #[.int .i64 1, .int .i64 a0, .string (⟨#[]⟩ : ByteArray), .slice none 0 0]] rfl (by (try simp only [List.map_toArray, List.map_cons, List.map_nil]); first | done | rfl | (simp only [List.length_drop, List.length_take]; rfl)) ?_; (refine (sfitem_Text.calls 1 a0 (⟨#[]⟩ : ByteArray) _ _ ([] : List (S38)) t239 t240 _ (tab_ hT_ ?hTab) ?side1 ?side2 A6.out).mono ?_); (case hTab => exact (by repeat (first | (with_reducible first | exact HB.out | apply below_alloc | apply pw_below_drewN | apply below_drew1) | exact HB.out))); (case side1 => exact Kd.C_nil _ _); (case side2 => exact Nat.le_refl _); rintro e w755 ⟨rfl, hb⟩; refine ⟨_, rfl, ?_⟩; have n0_ := Aside0.mk (below_step (by repeat (first | (with_reducible first | exact HB.out | apply below_alloc | apply pw_below_drewN | apply below_drew1) | exact HB.out)) hb); clear HB; have HB := n0_; clear n0_; (try clear hb); (try clear hb2); (try clear hk); (try clear hi)) | ((with_reducible refine gate_callee (f := 11) rfl ?_); refine goesL_ (some 31) rfl rfl Tryd.func11 (by kernel_rfl) rfl #[.agg #[.int .i64 2, .int .i64 a0, .string (⟨#[]⟩ : ByteArray), .slice none 0 0]] rfl (by (try simp only [List.map_toArray, List.map_cons, List.map_nil]); first | done | rfl | (simp only [List.length_drop, List.length_take]; rfl)) ?_; (refine (sfitem_Text.calls 2 a0 (⟨#[]⟩ : ByteArray) _ _ ([] : List (S38)) t241 t242 _ (tab_ hT_ ?hTab) ?side1 ?side2 A7.out).mono ?_); (case hTab => exact (by repeat (first | (with_reducible first | exact HB.out | apply below_alloc | apply pw_below_drewN | apply below_drew1) | exact HB.out))); (case side1 => exact Kd.C_nil _ _); (case side2 => exact Nat.le_refl _); rintro e w756 ⟨rfl, hb⟩; refine ⟨_, rfl, ?_⟩; have n0_ := Aside0.mk (below_step (by repeat (first | (with_reducible first | exact HB.out | apply below_alloc | apply pw_below_drewN | apply below_drew1) | exact HB.out)) hb); clear HB; have HB := n0_; clear n0_; (try clear hb); (try clear hb2); (try clear hk); (try clear hi)))
                go_ret
                exact ⟨by first | rfl | (simp [errW_none, errW_some] <;> rfl) | (simp [*, errW_none, errW_some] <;> rfl) | (simp [q_ne_nil]; done), by repeat (first | (with_reducible first | exact HB.out | apply below_alloc | apply pw_below_drewN | apply below_drew1) | exact HB.out)⟩
              · exact absurd H (by rw [if_neg c754]; simp)
            · exact absurd H (by rw [if_neg c753]; simp)
          · exact absurd H (by rw [if_neg c752]; simp)
        · exact absurd H (by rw [if_neg c751]; simp)

end Go.Proofs.YtbbaokjkmcfceaaDoor.Q
