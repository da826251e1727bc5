-- Laid by this seat's own driver (wip/tools/drive.py) out of the translation.
import Derived.Test.YtkjlhhhnananlaaDoorQx0
import Derived.Test.YtkjlhhhnananlaaDoorQx1
import Derived.Test.YtkjlhhhnananlaaDoorQx2
import Derived.Test.YtkjlhhhnananlaaDoorQx3
namespace Go.Proofs.YtkjlhhhnananlaaDoor.Q
open Go.RowKit Go.Proofs.YtkjlhhhnananlaaDoorW.PrintWords Go.Proofs.YtkjlhhhnananlaaDoorW.PrintLast Go.Proofs.YtkjlhhhnananlaaDoorW.PrintMore
attribute [local go_sem] max2_int min2_int max_two min_two max_three min_three max_four min_four   -- for this text's walks alone
set_option linter.unusedVariables false
set_option linter.unusedSimpArgs false

/-! ### glacislaw10_CspparseFirst: function 7 -/
mutual
def glacislaw10_CspparseFirst.j0 : Nat → ByteArray → ByteArray → Bool → Bool → Option (Bool)
  | 0, _, _, _, _ => none
  | k + 1, x0, x1, x5, x20 => if x20 = true then (some x5) else ((cspparse_One.f x0).bind fun bt272 => ((cspparse_One.f x1).bind fun bt281 => (if x0.size + 1 ≤ 9223372036854775807 then (if (x0 ++ (⟨#[59]⟩ : ByteArray)).size + x1.size ≤ 9223372036854775807 then ((cspparse_One.f ((x0 ++ (⟨#[59]⟩ : ByteArray)) ++ x1)).bind fun bt290 => (if bt272.1 = true then (glacislaw10_CspparseFirst.j1 k x0 x5 bt272.1 bt272.2.1 bt272.2.2.1 bt272.2.2.2 bt281.1 bt281.2.1 bt281.2.2.1 bt281.2.2.2 bt290.1 bt290.2.1 bt290.2.2.1 bt290.2.2.2 bt272.1 bt272.2.1 bt272.2.2.1 bt272.2.2.2) else (glacislaw10_CspparseFirst.j1 k x0 x5 bt272.1 bt272.2.1 bt272.2.2.1 bt272.2.2.2 bt281.1 bt281.2.1 bt281.2.2.1 bt281.2.2.2 bt290.1 bt290.2.1 bt290.2.2.1 bt290.2.2.2 bt281.1 bt281.2.1 bt272.2.2.1 bt272.2.2.2))) else (none)) else (none))))
def glacislaw10_CspparseFirst.j1 : Nat → ByteArray → Bool → Bool → List ByteArray → Bool → List ByteArray → Bool → List ByteArray → Bool → List ByteArray → Bool → List ByteArray → Bool → List ByteArray → Bool → List ByteArray → Bool → List ByteArray → Option (Bool)
  | 0, _, _, _, _, _, _, _, _, _, _, _, _, _, _, _, _, _, _ => none
  | k + 1, x0, x5, x281000, x281001, x281002, x281003, x290000, x290001, x290002, x290003, x299000, x299001, x299002, x299003, x300000, x300001, x300002, x300003 => if x281002 = true then ((glacisref10_SameOne.f k x299000 x299001 x299002 x299003 x300000 x300001 x300002 x300003).bind fun t300 => (if 10 + x0.size ≤ 9223372036854775807 then ((cspparse_One.f ((⟨#[105, 109, 103, 45, 115, 114, 99, 32, 120, 59]⟩ : ByteArray) ++ x0)).bind fun bt301 => ((glacisref10_SameOne.f k bt301.1 bt301.2.1 bt301.2.2.1 bt301.2.2.2 x281000 x281001 x281002 x281003).bind fun t309 => (if x5 = true then (if t300 = true then (some t309) else (none)) else (none)))) else (none))) else ((glacisref10_SameOne.f k x299000 x299001 x299002 x299003 x300000 x300001 x290002 x290003).bind fun t310 => (if 10 + x0.size ≤ 9223372036854775807 then ((cspparse_One.f ((⟨#[105, 109, 103, 45, 115, 114, 99, 32, 120, 59]⟩ : ByteArray) ++ x0)).bind fun bt311 => ((glacisref10_SameOne.f k bt311.1 bt311.2.1 bt311.2.2.1 bt311.2.2.2 x281000 x281001 x281002 x281003).bind fun t319 => (if x5 = true then (if t310 = true then (some t319) else (none)) else (none)))) else (none)))
end
def glacislaw10_CspparseFirst.f (k : Nat) (a0 : ByteArray) (a1 : ByteArray) : Option (Bool) := (glacislaw10_awake.f k).bind fun t271 => (if (a0.size : Int) > 2000 then (glacislaw10_CspparseFirst.j0 k a0 a1 t271 true) else (glacislaw10_CspparseFirst.j0 k a0 a1 t271 (decide ((a1.size : Int) > 2000))))
theorem glacislaw10_CspparseFirst.mono_l : ∀ k, (∀ y0 y1 y2 y3, LeO (glacislaw10_CspparseFirst.j0 k y0 y1 y2 y3) (glacislaw10_CspparseFirst.j0 (k + 1) y0 y1 y2 y3)) ∧ (∀ y0 y1 y2 y3 y4 y5 y6 y7 y8 y9 y10 y11 y12 y13 y14 y15 y16 y17, LeO (glacislaw10_CspparseFirst.j1 k y0 y1 y2 y3 y4 y5 y6 y7 y8 y9 y10 y11 y12 y13 y14 y15 y16 y17) (glacislaw10_CspparseFirst.j1 (k + 1) y0 y1 y2 y3 y4 y5 y6 y7 y8 y9 y10 y11 y12 y13 y14 y15 y16 y17))
  | 0 => ⟨fun _ _ _ _ r h => by simp [glacislaw10_CspparseFirst.j0] at h, fun _ _ _ _ _ _ _ _ _ _ _ _ _ _ _ _ _ _ r h => by simp [glacislaw10_CspparseFirst.j1] at h⟩
  | k + 1 => by
    obtain ⟨ih0, ih1⟩ := glacislaw10_CspparseFirst.mono_l k
    refine ⟨?_, ?_⟩
    · intro y0 y1 y2 y3
      unfold glacislaw10_CspparseFirst.j0
      repeat' first
      | (with_reducible exact ih0 _ _ _ _)
      | (with_reducible exact ih1 _ _ _ _ _ _ _ _ _ _ _ _ _ _ _ _ _ _)
      | (with_reducible exact glacislaw10_awake.mono _)
      | (with_reducible exact glacisref10_SameOne.mono _ _ _ _ _ _ _ _ _)
      | (with_reducible exact LeO.refl _)
      | (with_reducible exact LeO.none _)
      | (with_reducible refine LeO.ite ?_ ?_)
      | (with_reducible refine LeO.bind ?_ (fun _ => ?_))
      | exact ih0 _ _ _ _
      | exact ih1 _ _ _ _ _ _ _ _ _ _ _ _ _ _ _ _ _ _
      | exact glacislaw10_awake.mono _
      | exact glacisref10_SameOne.mono _ _ _ _ _ _ _ _ _
      | exact LeO.none _
      | refine LeO.ite ?_ ?_
      | refine LeO.bind ?_ (fun _ => ?_)
    · intro y0 y1 y2 y3 y4 y5 y6 y7 y8 y9 y10 y11 y12 y13 y14 y15 y16 y17
      unfold glacislaw10_CspparseFirst.j1
      repeat' first
      | (with_reducible exact ih0 _ _ _ _)
      | (with_reducible exact ih1 _ _ _ _ _ _ _ _ _ _ _ _ _ _ _ _ _ _)
      | (with_reducible exact glacislaw10_awake.mono _)
      | (with_reducible exact glacisref10_SameOne.mono _ _ _ _ _ _ _ _ _)
      | (with_reducible exact LeO.refl _)
      | (with_reducible exact LeO.none _)
      | (with_reducible refine LeO.ite ?_ ?_)
      | (with_reducible refine LeO.bind ?_ (fun _ => ?_))
      | exact ih0 _ _ _ _
      | exact ih1 _ _ _ _ _ _ _ _ _ _ _ _ _ _ _ _ _ _
      | exact glacislaw10_awake.mono _
      | exact glacisref10_SameOne.mono _ _ _ _ _ _ _ _ _
      | exact LeO.none _
      | refine LeO.ite ?_ ?_
      | refine LeO.bind ?_ (fun _ => ?_)
theorem glacislaw10_CspparseFirst.mono : ∀ a0 a1 k, LeO (glacislaw10_CspparseFirst.f k a0 a1) (glacislaw10_CspparseFirst.f (k + 1) a0 a1) := by
  intro a0 a1 k
  obtain ⟨ih0, ih1⟩ := glacislaw10_CspparseFirst.mono_l k
  unfold glacislaw10_CspparseFirst.f
  repeat' first
      | (with_reducible exact ih0 _ _ _ _)
      | (with_reducible exact ih1 _ _ _ _ _ _ _ _ _ _ _ _ _ _ _ _ _ _)
      | (with_reducible exact glacislaw10_awake.mono _)
      | (with_reducible exact glacisref10_SameOne.mono _ _ _ _ _ _ _ _ _)
      | (with_reducible exact LeO.refl _)
      | (with_reducible exact LeO.none _)
      | (with_reducible refine LeO.ite ?_ ?_)
      | (with_reducible refine LeO.bind ?_ (fun _ => ?_))
      | exact ih0 _ _ _ _
      | exact ih1 _ _ _ _ _ _ _ _ _ _ _ _ _ _ _ _ _ _
      | exact glacislaw10_awake.mono _
      | exact glacisref10_SameOne.mono _ _ _ _ _ _ _ _ _
      | exact LeO.none _
      | refine LeO.ite ?_ ?_
      | refine LeO.bind ?_ (fun _ => ?_)
set_option maxHeartbeats 8000000 in
set_option maxRecDepth 100000 in
theorem glacislaw10_CspparseFirst.calls (k : Nat) (a0 : ByteArray) (a1 : ByteArray) (r : Bool) (w : World) (h : glacislaw10_CspparseFirst.f k a0 a1 = some r) :
    Calls Tryd.prog 7 #[.string a0, .string a1] w fun e w' => e = .returned (.bool r) ∧ Below w.heap.size w w' := by
  have hu26 := Tryd.underlying26
  have HB := Aside0.mk (Below.refl w.heap.size w)
  have H : ((glacislaw10_awake.f k).bind fun t271 => (if (a0.size : Int) > 2000 then (glacislaw10_CspparseFirst.j0 k a0 a1 t271 true) else (glacislaw10_CspparseFirst.j0 k a0 a1 t271 (decide ((a1.size : Int) > 2000))))) = some r := h
  clear h
  replace H := Option.bind_eq_some_iff.mp H
  obtain ⟨t271, A30, H⟩ := H
  replace H : (if (a0.size : Int) > 2000 then (glacislaw10_CspparseFirst.j0 k a0 a1 t271 true) else (glacislaw10_CspparseFirst.j0 k a0 a1 t271 (decide ((a1.size : Int) > 2000)))) = some r := H
  have A3 := Aside0.mk A30
  clear A30
  have HC4 := Aside0.mk H
  clear H
  go_enter Tryd.func7, Tryd.ntmps7
  go_upto_region 2 with (first | ((with_reducible refine gate_callee (f := 9) rfl ?_); refine goesL_ (some 12) rfl rfl Tryd.func9 (by kernel_rfl) rfl #[] rfl (by (try simp only [List.map_toArray, List.map_cons, List.map_nil]); first | done | rfl | (simp only [List.length_drop, List.length_take]; rfl)) ?_; (with_reducible refine (glacislaw10_awake.calls k  t271 _ A3.out).mono ?_); rintro e w5 ⟨rfl, hb⟩; refine ⟨_, rfl, ?_⟩; have n0_ := Aside0.mk (below_step (by repeat (first | (with_reducible first | exact HB.out | apply below_alloc | apply pw_below_drewN | apply below_drew1) | exact HB.out)) hb); clear HB; have HB := n0_; clear n0_; (try clear hb); (try clear hb2); (try clear hk); (try clear hi)))
  (try simp only [Act.put, List.setIfInBounds_toArray, List.set_cons_zero, List.set_cons_succ])
  go_cut [20] (fun v20 wc => ∃ (kq : Nat) (x20_3 : Bool), v20 = .bool x20_3 ∧ Aside0 (glacislaw10_CspparseFirst.j0 kq a0 a1 t271 x20_3 = some r) ∧ Aside0 (kq ≤ k) ∧ Aside0 (Below w.heap.size w wc))
  case first =>
    have H := HC4.out
    clear HC4
    by_cases c6 : (a0.size : Int) > 2000
    · rw [if_pos c6] at H
      have c6b0 : decide (2000 < (a0.size : Int)) = true := decide_eq_true c6
      have c6b1 : decide (2000 < a0.size) = true := decide_eq_true (by omega)
      clear c6
      (first | rw [c6b0] | (simp only [i64_w, i32_w]; rw [c6b0]) | skip)
      have H' := Aside0.mk H
      clear H
      go_wp2
      go_meet
      case rel => exact ⟨_, (true), (by first | rfl | (simp; done) | (simp [*]; done) | (simp [q_ne_nil]; done)), H', ⟨by first | omega | exact Nat.le_refl _⟩, ⟨by repeat (first | (with_reducible first | exact HB.out | apply below_alloc | apply pw_below_drewN | apply below_drew1) | exact HB.out)⟩⟩
    · rw [if_neg c6] at H
      have c6b0 : decide (2000 < (a0.size : Int)) = false := decide_eq_false c6
      have c6b1 : decide (2000 < a0.size) = false := decide_eq_false (by omega)
      clear c6
      (first | rw [c6b0] | (simp only [i64_w, i32_w]; rw [c6b0]) | skip)
      have H' := Aside0.mk H
      clear H
      go_wp2
      go_meet
      case rel => exact ⟨_, (decide ((a1.size : Int) > 2000)), (by first | rfl | (simp; done) | (simp [*]; done) | (simp [q_ne_nil]; done)), H', ⟨by first | omega | exact Nat.le_refl _⟩, ⟨by repeat (first | (with_reducible first | exact HB.out | apply below_alloc | apply pw_below_drewN | apply below_drew1) | exact HB.out)⟩⟩
  case rest =>
    clear HC4
    try clear p2
    try clear c6
    try clear c6b0
    try clear c6b1
    obtain ⟨kq, x20_3, rfl, HA, HJ3, HB⟩ := hcut
    cases kq with
    | zero => exact absurd HA.out (by simp [glacislaw10_CspparseFirst.j0])
    | succ kj3 =>
      have H := HA.out
      clear HA
      simp only [glacislaw10_CspparseFirst.j0] at H
      by_cases c7 : x20_3 = true
      · subst c7
        have H1 : (some t271) = some r := by rw [if_pos rfl] at H; exact H
        clear H
        have H := H1
        clear H1
        obtain rfl := Option.some.inj H
        go_wp2
        go_ret
        exact ⟨by first | rfl | (simp [errW_none, errW_some] <;> rfl) | (simp [*, errW_none, errW_some] <;> rfl) | (simp [q_ne_nil]; done), by repeat (first | (with_reducible first | exact HB.out | apply below_alloc | apply pw_below_drewN | apply below_drew1) | exact HB.out)⟩
      · replace c7 := Bool.eq_false_iff.mpr c7
        subst c7
        have H1 : ((cspparse_One.f a0).bind fun bt272 => ((cspparse_One.f a1).bind fun bt281 => (if a0.size + 1 ≤ 9223372036854775807 then (if (a0 ++ (⟨#[59]⟩ : ByteArray)).size + a1.size ≤ 9223372036854775807 then ((cspparse_One.f ((a0 ++ (⟨#[59]⟩ : ByteArray)) ++ a1)).bind fun bt290 => (if bt272.1 = true then (glacislaw10_CspparseFirst.j1 kj3 a0 t271 bt272.1 bt272.2.1 bt272.2.2.1 bt272.2.2.2 bt281.1 bt281.2.1 bt281.2.2.1 bt281.2.2.2 bt290.1 bt290.2.1 bt290.2.2.1 bt290.2.2.2 bt272.1 bt272.2.1 bt272.2.2.1 bt272.2.2.2) else (glacislaw10_CspparseFirst.j1 kj3 a0 t271 bt272.1 bt272.2.1 bt272.2.2.1 bt272.2.2.2 bt281.1 bt281.2.1 bt281.2.2.1 bt281.2.2.2 bt290.1 bt290.2.1 bt290.2.2.1 bt290.2.2.2 bt281.1 bt281.2.1 bt272.2.2.1 bt272.2.2.2))) else (none)) else (none)))) = some r := by rw [if_neg (show ¬ (false = true) by decide)] at H; exact H
        clear H
        have H := H1
        clear H1
        replace H := Option.bind_eq_some_iff.mp H
        obtain ⟨⟨t272, t273, t276, t277⟩, A80, H⟩ := H
        replace H : ((cspparse_One.f a1).bind fun bt281 => (if a0.size + 1 ≤ 9223372036854775807 then (if (a0 ++ (⟨#[59]⟩ : ByteArray)).size + a1.size ≤ 9223372036854775807 then ((cspparse_One.f ((a0 ++ (⟨#[59]⟩ : ByteArray)) ++ a1)).bind fun bt290 => (if t272 = true then (glacislaw10_CspparseFirst.j1 kj3 a0 t271 t272 t273 t276 t277 bt281.1 bt281.2.1 bt281.2.2.1 bt281.2.2.2 bt290.1 bt290.2.1 bt290.2.2.1 bt290.2.2.2 t272 t273 t276 t277) else (glacislaw10_CspparseFirst.j1 kj3 a0 t271 t272 t273 t276 t277 bt281.1 bt281.2.1 bt281.2.2.1 bt281.2.2.2 bt290.1 bt290.2.1 bt290.2.2.1 bt290.2.2.2 bt281.1 bt281.2.1 t276 t277))) else (none)) else (none))) = some r := H
        have A8 := Aside0.mk A80
        clear A80
        replace H := Option.bind_eq_some_iff.mp H
        obtain ⟨⟨t281, t282, t285, t286⟩, A90, H⟩ := H
        replace H : (if a0.size + 1 ≤ 9223372036854775807 then (if (a0 ++ (⟨#[59]⟩ : ByteArray)).size + a1.size ≤ 9223372036854775807 then ((cspparse_One.f ((a0 ++ (⟨#[59]⟩ : ByteArray)) ++ a1)).bind fun bt290 => (if t272 = true then (glacislaw10_CspparseFirst.j1 kj3 a0 t271 t272 t273 t276 t277 t281 t282 t285 t286 bt290.1 bt290.2.1 bt290.2.2.1 bt290.2.2.2 t272 t273 t276 t277) else (glacislaw10_CspparseFirst.j1 kj3 a0 t271 t272 t273 t276 t277 t281 t282 t285 t286 bt290.1 bt290.2.1 bt290.2.2.1 bt290.2.2.2 t281 t282 t276 t277))) else (none)) else (none)) = some r := H
        have A9 := Aside0.mk A90
        clear A90
        by_cases c10 : a0.size + 1 ≤ 9223372036854775807
        · rw [if_pos c10] at H
          have c10b0 := eq_true c10
          have c10b1 : decide (a0.size + 1 ≤ 9223372036854775807) = true := decide_eq_true c10
          try have c10b2 : (9223372036854775807 < a0.size + 1) = False := eq_false (Nat.not_lt.2 c10)
          by_cases c11 : (a0 ++ (⟨#[59]⟩ : ByteArray)).size + a1.size ≤ 9223372036854775807
          · rw [if_pos c11] at H
            have c11b0 := eq_true c11
            have c11b1 : decide ((a0 ++ (⟨#[59]⟩ : ByteArray)).size + a1.size ≤ 9223372036854775807) = true := decide_eq_true c11
            try have c11b2 : (9223372036854775807 < (a0 ++ (⟨#[59]⟩ : ByteArray)).size + a1.size) = False := eq_false (Nat.not_lt.2 c11)
            try (have c11d : (9223372036854775807 < a0.size + 1 + a1.size) = False := eq_false (by have h_ := c11; simp only [ByteArray.size_append] at h_; exact Nat.not_lt.2 h_))
            replace H := Option.bind_eq_some_iff.mp H
            obtain ⟨⟨t290, t291, t294, t295⟩, A120, H⟩ := H
            replace H : (if t272 = true then (glacislaw10_CspparseFirst.j1 kj3 a0 t271 t272 t273 t276 t277 t281 t282 t285 t286 t290 t291 t294 t295 t272 t273 t276 t277) else (glacislaw10_CspparseFirst.j1 kj3 a0 t271 t272 t273 t276 t277 t281 t282 t285 t286 t290 t291 t294 t295 t281 t282 t276 t277)) = some r := H
            have A12 := Aside0.mk A120
            clear A120
            have HC13 := Aside0.mk H
            clear H
            go_upto_if 34 with (first | ((with_reducible refine gate_callee (f := 11) rfl ?_); refine goesL_ (some 23) rfl rfl Tryd.func11 (by kernel_rfl) rfl #[.string a0] rfl (by (try simp only [List.map_toArray, List.map_cons, List.map_nil]); first | done | rfl | (simp only [List.length_drop, List.length_take]; rfl)) ?_; (with_reducible refine (cspparse_One.calls a0 t272 t273 t276 t277 _ A8.out).mono ?_); rintro e w14 ⟨v274, v278, rfl, ho0, ho1, hb⟩; refine ⟨_, rfl, ?_⟩; have n0_ := Aside0.mk (Kd.Q_lower ho0 (below_size (by repeat (first | (with_reducible first | exact HB.out | apply below_alloc | apply pw_below_drewN | apply below_drew1) | exact HB.out)))); have n1_ := Aside0.mk (Kd.Q_lower ho1 (below_size (by repeat (first | (with_reducible first | exact HB.out | apply below_alloc | apply pw_below_drewN | apply below_drew1) | exact HB.out)))); have n2_ := Aside0.mk (below_step (by repeat (first | (with_reducible first | exact HB.out | apply below_alloc | apply pw_below_drewN | apply below_drew1) | exact HB.out)) hb); clear HB; have HO275 := n0_; have HO279 := n1_; have HB := n2_; clear n0_ n1_ n2_; (try clear hb); (try clear hb2); (try clear hk); (try clear hi); (try clear ho0); (try clear ho1)) | ((with_reducible refine gate_dst (N := 6) rfl ?_); (try (refine gate_guard (by rfl) ?_; dsimp only)); refine box_event ?hg (N := 6) ?hd (cs := #[.bool false, .slice none 0 0, .bool false, .slice none 0 0]) (t := 26) ?hr ?_; (case hd => rfl); (case hg => rfl); (case hr => first | (go_simp; done) | (go_simp; rfl)); intro gb280 hg w15 hbox hb; have n0_ := Aside0.mk (Kd.Q_below (by (with_reducible repeat (first | apply Kd.Q_alloc | apply Kd.Q_drewN | apply Kd.Q_drew)); exact HO275.out) hb); have n1_ := Aside0.mk (Kd.Q_below (by (with_reducible repeat (first | apply Kd.Q_alloc | apply Kd.Q_drewN | apply Kd.Q_drew)); exact HO279.out) hb); have n2_ := Aside0.mk (below_step (by repeat (first | (with_reducible first | exact HB.out | apply below_alloc | apply pw_below_drewN | apply below_drew1) | exact HB.out)) hb); have n3_ := Aside0.mk (hbox); have n4_ := Aside0.mk ((by rw [hg]; exact (below_size (by repeat (first | (with_reducible first | exact HB.out | apply below_alloc | apply pw_below_drewN | apply below_drew1) | exact HB.out))) : w.heap.size ≤ gb280)); have n5_ := Aside0.mk ((by rw [hg]; exact (below_size (by repeat (first | (with_reducible first | exact HB.out | apply below_alloc | apply pw_below_drewN | apply below_drew1) | exact HB.out))) : w.heap.size ≤ gb280)); clear HO275; clear HO279; clear HB; have HO275 := n0_; have HO279 := n1_; have HB := n2_; have BK280 := n3_; have GW280 := n4_; have GE280 := n5_; clear n0_ n1_ n2_ n3_ n4_ n5_; clear hb hbox hg; have hcz16_0 : w15.cell? ⟨gb280, 0, none⟩ = some (.bool false) := (blk_cell BK280.out 0).trans rfl; have hcz16_1 : w15.cell? ⟨gb280, 1, none⟩ = some (.slice none 0 0) := (blk_cell BK280.out 1).trans rfl; have hcz16_2 : w15.cell? ⟨gb280, 2, none⟩ = some (.bool false) := (blk_cell BK280.out 2).trans rfl; have hcz16_3 : w15.cell? ⟨gb280, 3, none⟩ = some (.slice none 0 0) := (blk_cell BK280.out 3).trans rfl; have hfz16_0 := blk_frozen BK280.out 0; have hfz16_1 := blk_frozen BK280.out 1; have hfz16_2 := blk_frozen BK280.out 2; have hfz16_3 := blk_frozen BK280.out 3; obtain ⟨Ao17, co17, eo17, _⟩ := Kd.Q_slice HO275.out; subst eo17; obtain ⟨Ao18, co18, eo18, _⟩ := Kd.Q_slice HO279.out; subst eo18) | ((with_reducible refine gate_callee (f := 11) rfl ?_); refine goesL_ (some 25) rfl rfl Tryd.func11 (by kernel_rfl) rfl #[.string a1] rfl (by (try simp only [List.map_toArray, List.map_cons, List.map_nil]); first | done | rfl | (simp only [List.length_drop, List.length_take]; rfl)) ?_; (with_reducible refine (cspparse_One.calls a1 t281 t282 t285 t286 _ A9.out).mono ?_); rintro e w19 ⟨v283, v287, rfl, ho0, ho1, hb⟩; refine ⟨_, rfl, ?_⟩; have n0_ := Aside0.mk (Kd.Q_mono (Kd.Q_told (Kd.Q_told (Kd.Q_old (by (with_reducible repeat (first | apply Kd.Q_alloc | apply Kd.Q_drewN | apply Kd.Q_drew)); exact (Kd.Q_mono (Kd.Q_far (p := ⟨gb280, 3, none⟩) (Kd.Q_far (p := ⟨gb280, 2, none⟩) (Kd.Q_far (p := ⟨gb280, 1, none⟩) (Kd.Q_far (p := ⟨gb280, 0, none⟩) (Kd.Q_types HO275.out BK280.out (by decide)) (fun _ hk => hk.2) (.bool t272)) (fun _ hk => hk.2) (.slice Ao17 t273.length co17)) (fun _ hk => hk.2) (.bool t276)) (fun _ hk => hk.2) (.slice Ao18 t277.length co18)) (fun _ h_ => h_.1))) hb) (Kd.Q_base ho0)) (Kd.Q_base ho1)) (fun _ h_ => h_.1)); have n1_ := Aside0.mk (Kd.Q_mono (Kd.Q_told (Kd.Q_told (Kd.Q_old (by (with_reducible repeat (first | apply Kd.Q_alloc | apply Kd.Q_drewN | apply Kd.Q_drew)); exact (Kd.Q_mono (Kd.Q_far (p := ⟨gb280, 3, none⟩) (Kd.Q_far (p := ⟨gb280, 2, none⟩) (Kd.Q_far (p := ⟨gb280, 1, none⟩) (Kd.Q_far (p := ⟨gb280, 0, none⟩) (Kd.Q_types HO279.out BK280.out (by decide)) (fun _ hk => hk.2) (.bool t272)) (fun _ hk => hk.2) (.slice Ao17 t273.length co17)) (fun _ hk => hk.2) (.bool t276)) (fun _ hk => hk.2) (.slice Ao18 t277.length co18)) (fun _ h_ => h_.1))) hb) (Kd.Q_base ho0)) (Kd.Q_base ho1)) (fun _ h_ => h_.1)); have n2_ := Aside0.mk (Kd.Q_lower (Kd.Q_new' (Kd.Q_new' ho0 (Kd.Q_lt (by (with_reducible repeat (first | apply Kd.Q_alloc | apply Kd.Q_drewN | apply Kd.Q_drew)); exact (Kd.Q_mono (Kd.Q_far (p := ⟨gb280, 3, none⟩) (Kd.Q_far (p := ⟨gb280, 2, none⟩) (Kd.Q_far (p := ⟨gb280, 1, none⟩) (Kd.Q_far (p := ⟨gb280, 0, none⟩) (Kd.Q_types HO275.out BK280.out (by decide)) (fun _ hk => hk.2) (.bool t272)) (fun _ hk => hk.2) (.slice Ao17 t273.length co17)) (fun _ hk => hk.2) (.bool t276)) (fun _ hk => hk.2) (.slice Ao18 t277.length co18)) (fun _ h_ => h_.1))))) (Kd.Q_lt (by (with_reducible repeat (first | apply Kd.Q_alloc | apply Kd.Q_drewN | apply Kd.Q_drew)); exact (Kd.Q_mono (Kd.Q_far (p := ⟨gb280, 3, none⟩) (Kd.Q_far (p := ⟨gb280, 2, none⟩) (Kd.Q_far (p := ⟨gb280, 1, none⟩) (Kd.Q_far (p := ⟨gb280, 0, none⟩) (Kd.Q_types HO279.out BK280.out (by decide)) (fun _ hk => hk.2) (.bool t272)) (fun _ hk => hk.2) (.slice Ao17 t273.length co17)) (fun _ hk => hk.2) (.bool t276)) (fun _ hk => hk.2) (.slice Ao18 t277.length co18)) (fun _ h_ => h_.1))))) (below_size (by repeat (first | (with_reducible first | exact HB.out | apply below_alloc | apply pw_below_drewN | apply below_drew1 | refine below_set ?_ GE280.out) | exact HB.out)))); have n3_ := Aside0.mk (Kd.Q_lower (Kd.Q_new' (Kd.Q_new' ho1 (Kd.Q_lt (by (with_reducible repeat (first | apply Kd.Q_alloc | apply Kd.Q_drewN | apply Kd.Q_drew)); exact (Kd.Q_mono (Kd.Q_far (p := ⟨gb280, 3, none⟩) (Kd.Q_far (p := ⟨gb280, 2, none⟩) (Kd.Q_far (p := ⟨gb280, 1, none⟩) (Kd.Q_far (p := ⟨gb280, 0, none⟩) (Kd.Q_types HO275.out BK280.out (by decide)) (fun _ hk => hk.2) (.bool t272)) (fun _ hk => hk.2) (.slice Ao17 t273.length co17)) (fun _ hk => hk.2) (.bool t276)) (fun _ hk => hk.2) (.slice Ao18 t277.length co18)) (fun _ h_ => h_.1))))) (Kd.Q_lt (by (with_reducible repeat (first | apply Kd.Q_alloc | apply Kd.Q_drewN | apply Kd.Q_drew)); exact (Kd.Q_mono (Kd.Q_far (p := ⟨gb280, 3, none⟩) (Kd.Q_far (p := ⟨gb280, 2, none⟩) (Kd.Q_far (p := ⟨gb280, 1, none⟩) (Kd.Q_far (p := ⟨gb280, 0, none⟩) (Kd.Q_types HO279.out BK280.out (by decide)) (fun _ hk => hk.2) (.bool t272)) (fun _ hk => hk.2) (.slice Ao17 t273.length co17)) (fun _ hk => hk.2) (.bool t276)) (fun _ hk => hk.2) (.slice Ao18 t277.length co18)) (fun _ h_ => h_.1))))) (below_size (by repeat (first | (with_reducible first | exact HB.out | apply below_alloc | apply pw_below_drewN | apply below_drew1 | refine below_set ?_ GE280.out) | exact HB.out)))); have n4_ := Aside0.mk (blk_below (g := gb280) (o := .cells #[.bool t272, .slice Ao17 t273.length co17, .bool t276, .slice Ao18 t277.length co18] 26 (0, 0)) (by (with_reducible repeat (first | refine blk_drewN ?_ _ | refine blk_drew ?_ | refine blk_alloc ?_ _)); refine blk_put (cs := #[.bool t272, .slice Ao17 t273.length co17, .bool t276, .slice none 0 0]) ?_ 3 _ rfl; (with_reducible repeat (first | refine blk_drewN ?_ _ | refine blk_drew ?_ | refine blk_alloc ?_ _)); refine blk_put (cs := #[.bool t272, .slice Ao17 t273.length co17, .bool false, .slice none 0 0]) ?_ 2 _ rfl; (with_reducible repeat (first | refine blk_drewN ?_ _ | refine blk_drew ?_ | refine blk_alloc ?_ _)); refine blk_put (cs := #[.bool t272, .slice none 0 0, .bool false, .slice none 0 0]) ?_ 1 _ rfl; (with_reducible repeat (first | refine blk_drewN ?_ _ | refine blk_drew ?_ | refine blk_alloc ?_ _)); refine blk_put (cs := #[.bool false, .slice none 0 0, .bool false, .slice none 0 0]) ?_ 0 _ rfl; (with_reducible repeat (first | refine blk_drewN ?_ _ | refine blk_drew ?_ | refine blk_alloc ?_ _)); exact BK280.out) hb); have n5_ := Aside0.mk (below_step (by repeat (first | (with_reducible first | exact HB.out | apply below_alloc | apply pw_below_drewN | apply below_drew1 | refine below_set ?_ GE280.out) | exact HB.out)) hb); clear HO275; clear HO279; clear BK280; clear HB; have HO275 := n0_; have HO279 := n1_; have HO284 := n2_; have HO288 := n3_; have BK280 := n4_; have HB := n5_; clear n0_ n1_ n2_ n3_ n4_ n5_; (try clear hb); (try clear hb2); (try clear hk); (try clear hi); (try clear ho0); (try clear ho1)) | ((with_reducible refine gate_dst (N := 7) rfl ?_); (try (refine gate_guard (by rfl) ?_; dsimp only)); refine box_event ?hg (N := 7) ?hd (cs := #[.bool false, .slice none 0 0, .bool false, .slice none 0 0]) (t := 26) ?hr ?_; (case hd => rfl); (case hg => rfl); (case hr => first | (go_simp; done) | (go_simp; rfl)); intro gb289 hg w20 hbox hb; have n0_ := Aside0.mk (Kd.Q_below (by (with_reducible repeat (first | apply Kd.Q_alloc | apply Kd.Q_drewN | apply Kd.Q_drew)); exact HO275.out) hb); have n1_ := Aside0.mk (Kd.Q_below (by (with_reducible repeat (first | apply Kd.Q_alloc | apply Kd.Q_drewN | apply Kd.Q_drew)); exact HO279.out) hb); have n2_ := Aside0.mk (Kd.Q_below (by (with_reducible repeat (first | apply Kd.Q_alloc | apply Kd.Q_drewN | apply Kd.Q_drew)); exact HO284.out) hb); have n3_ := Aside0.mk (Kd.Q_below (by (with_reducible repeat (first | apply Kd.Q_alloc | apply Kd.Q_drewN | apply Kd.Q_drew)); exact HO288.out) hb); have n4_ := Aside0.mk (blk_below (g := gb280) (o := .cells #[.bool t272, .slice Ao17 t273.length co17, .bool t276, .slice Ao18 t277.length co18] 26 (0, 0)) (by (with_reducible repeat (first | refine blk_drewN ?_ _ | refine blk_drew ?_ | refine blk_alloc ?_ _)); exact BK280.out) hb); have n5_ := Aside0.mk (below_step (by repeat (first | (with_reducible first | exact HB.out | apply below_alloc | apply pw_below_drewN | apply below_drew1 | refine below_set ?_ GE280.out) | exact HB.out)) hb); have n6_ := Aside0.mk (hbox); have n7_ := Aside0.mk ((by rw [hg]; exact (below_size (by repeat (first | (with_reducible first | exact HB.out | apply below_alloc | apply pw_below_drewN | apply below_drew1 | refine below_set ?_ GE280.out) | exact HB.out))) : w.heap.size ≤ gb289)); have n8_ := Aside0.mk ((by rw [hg]; exact (below_size (by repeat (first | (with_reducible first | exact HB.out | apply below_alloc | apply pw_below_drewN | apply below_drew1 | refine below_set ?_ GE280.out) | exact HB.out))) : w.heap.size ≤ gb289)); have n9_ := Aside0.mk ((by rw [hg]; exact Nat.ne_of_lt (blk_lt (g := gb280) (o := .cells #[.bool t272, .slice Ao17 t273.length co17, .bool t276, .slice Ao18 t277.length co18] 26 (0, 0)) (by (with_reducible repeat (first | refine blk_drewN ?_ _ | refine blk_drew ?_ | refine blk_alloc ?_ _)); exact BK280.out)) : gb280 ≠ gb289)); have n10_ := Aside0.mk ((by rw [hg]; exact Nat.ne_of_gt (blk_lt (g := gb280) (o := .cells #[.bool t272, .slice Ao17 t273.length co17, .bool t276, .slice Ao18 t277.length co18] 26 (0, 0)) (by (with_reducible repeat (first | refine blk_drewN ?_ _ | refine blk_drew ?_ | refine blk_alloc ?_ _)); exact BK280.out)) : gb289 ≠ gb280)); clear HO275; clear HO279; clear HO284; clear HO288; clear BK280; clear HB; have HO275 := n0_; have HO279 := n1_; have HO284 := n2_; have HO288 := n3_; have BK280 := n4_; have HB := n5_; have BK289 := n6_; have GW289 := n7_; have GE289 := n8_; have NB280_289 := n9_; have NB289_280 := n10_; clear n0_ n1_ n2_ n3_ n4_ n5_ n6_ n7_ n8_ n9_ n10_; clear hb hbox hg; have hnb21 := NB289_280.out; have hnc21 := NB280_289.out; have hcz22_0 : w20.cell? ⟨gb289, 0, none⟩ = some (.bool false) := (blk_cell BK289.out 0).trans rfl; have hcz22_1 : w20.cell? ⟨gb289, 1, none⟩ = some (.slice none 0 0) := (blk_cell BK289.out 1).trans rfl; have hcz22_2 : w20.cell? ⟨gb289, 2, none⟩ = some (.bool false) := (blk_cell BK289.out 2).trans rfl; have hcz22_3 : w20.cell? ⟨gb289, 3, none⟩ = some (.slice none 0 0) := (blk_cell BK289.out 3).trans rfl; have hfz22_0 := blk_frozen BK289.out 0; have hfz22_1 := blk_frozen BK289.out 1; have hfz22_2 := blk_frozen BK289.out 2; have hfz22_3 := blk_frozen BK289.out 3; obtain ⟨Ao23, co23, eo23, _⟩ := Kd.Q_slice HO284.out; subst eo23; obtain ⟨Ao24, co24, eo24, _⟩ := Kd.Q_slice HO288.out; subst eo24) | ((with_reducible refine gate_callee (f := 11) rfl ?_); refine goesL_ (some 30) rfl rfl Tryd.func11 (by kernel_rfl) rfl #[.string ((a0 ++ (⟨#[59]⟩ : ByteArray)) ++ a1)] rfl (by (try simp only [List.map_toArray, List.map_cons, List.map_nil]); first | done | rfl | (simp only [List.length_drop, List.length_take]; rfl)) ?_; (with_reducible refine (cspparse_One.calls ((a0 ++ (⟨#[59]⟩ : ByteArray)) ++ a1) t290 t291 t294 t295 _ A12.out).mono ?_); rintro e w25 ⟨v292, v296, rfl, ho0, ho1, hb⟩; refine ⟨_, rfl, ?_⟩; have n0_ := Aside0.mk (Kd.Q_mono (Kd.Q_told (Kd.Q_told (Kd.Q_old (by (with_reducible repeat (first | apply Kd.Q_alloc | apply Kd.Q_drewN | apply Kd.Q_drew)); exact (Kd.Q_mono (Kd.Q_far (p := ⟨gb289, 3, none⟩) (Kd.Q_far (p := ⟨gb289, 2, none⟩) (Kd.Q_far (p := ⟨gb289, 1, none⟩) (Kd.Q_far (p := ⟨gb289, 0, none⟩) (Kd.Q_types HO275.out BK289.out (by decide)) (fun _ hk => hk.2) (.bool t281)) (fun _ hk => hk.2) (.slice Ao23 t282.length co23)) (fun _ hk => hk.2) (.bool t285)) (fun _ hk => hk.2) (.slice Ao24 t286.length co24)) (fun _ h_ => h_.1))) hb) (Kd.Q_base ho0)) (Kd.Q_base ho1)) (fun _ h_ => h_.1)); have n1_ := Aside0.mk (Kd.Q_mono (Kd.Q_told (Kd.Q_told (Kd.Q_old (by (with_reducible repeat (first | apply Kd.Q_alloc | apply Kd.Q_drewN | apply Kd.Q_drew)); exact (Kd.Q_mono (Kd.Q_far (p := ⟨gb289, 3, none⟩) (Kd.Q_far (p := ⟨gb289, 2, none⟩) (Kd.Q_far (p := ⟨gb289, 1, none⟩) (Kd.Q_far (p := ⟨gb289, 0, none⟩) (Kd.Q_types HO279.out BK289.out (by decide)) (fun _ hk => hk.2) (.bool t281)) (fun _ hk => hk.2) (.slice Ao23 t282.length co23)) (fun _ hk => hk.2) (.bool t285)) (fun _ hk => hk.2) (.slice Ao24 t286.length co24)) (fun _ h_ => h_.1))) hb) (Kd.Q_base ho0)) (Kd.Q_base ho1)) (fun _ h_ => h_.1)); have n2_ := Aside0.mk (Kd.Q_mono (Kd.Q_told (Kd.Q_told (Kd.Q_old (by (with_reducible repeat (first | apply Kd.Q_alloc | apply Kd.Q_drewN | apply Kd.Q_drew)); exact (Kd.Q_mono (Kd.Q_far (p := ⟨gb289, 3, none⟩) (Kd.Q_far (p := ⟨gb289, 2, none⟩) (Kd.Q_far (p := ⟨gb289, 1, none⟩) (Kd.Q_far (p := ⟨gb289, 0, none⟩) (Kd.Q_types HO284.out BK289.out (by decide)) (fun _ hk => hk.2) (.bool t281)) (fun _ hk => hk.2) (.slice Ao23 t282.length co23)) (fun _ hk => hk.2) (.bool t285)) (fun _ hk => hk.2) (.slice Ao24 t286.length co24)) (fun _ h_ => h_.1))) hb) (Kd.Q_base ho0)) (Kd.Q_base ho1)) (fun _ h_ => h_.1)); have n3_ := Aside0.mk (Kd.Q_mono (Kd.Q_told (Kd.Q_told (Kd.Q_old (by (with_reducible repeat (first | apply Kd.Q_alloc | apply Kd.Q_drewN | apply Kd.Q_drew)); exact (Kd.Q_mono (Kd.Q_far (p := ⟨gb289, 3, none⟩) (Kd.Q_far (p := ⟨gb289, 2, none⟩) (Kd.Q_far (p := ⟨gb289, 1, none⟩) (Kd.Q_far (p := ⟨gb289, 0, none⟩) (Kd.Q_types HO288.out BK289.out (by decide)) (fun _ hk => hk.2) (.bool t281)) (fun _ hk => hk.2) (.slice Ao23 t282.length co23)) (fun _ hk => hk.2) (.bool t285)) (fun _ hk => hk.2) (.slice Ao24 t286.length co24)) (fun _ h_ => h_.1))) hb) (Kd.Q_base ho0)) (Kd.Q_base ho1)) (fun _ h_ => h_.1)); have n4_ := Aside0.mk (Kd.Q_lower (Kd.Q_new' (Kd.Q_new' (Kd.Q_new' (Kd.Q_new' ho0 (Kd.Q_lt (by (with_reducible repeat (first | apply Kd.Q_alloc | apply Kd.Q_drewN | apply Kd.Q_drew)); exact (Kd.Q_mono (Kd.Q_far (p := ⟨gb289, 3, none⟩) (Kd.Q_far (p := ⟨gb289, 2, none⟩) (Kd.Q_far (p := ⟨gb289, 1, none⟩) (Kd.Q_far (p := ⟨gb289, 0, none⟩) (Kd.Q_types HO275.out BK289.out (by decide)) (fun _ hk => hk.2) (.bool t281)) (fun _ hk => hk.2) (.slice Ao23 t282.length co23)) (fun _ hk => hk.2) (.bool t285)) (fun _ hk => hk.2) (.slice Ao24 t286.length co24)) (fun _ h_ => h_.1))))) (Kd.Q_lt (by (with_reducible repeat (first | apply Kd.Q_alloc | apply Kd.Q_drewN | apply Kd.Q_drew)); exact (Kd.Q_mono (Kd.Q_far (p := ⟨gb289, 3, none⟩) (Kd.Q_far (p := ⟨gb289, 2, none⟩) (Kd.Q_far (p := ⟨gb289, 1, none⟩) (Kd.Q_far (p := ⟨gb289, 0, none⟩) (Kd.Q_types HO279.out BK289.out (by decide)) (fun _ hk => hk.2) (.bool t281)) (fun _ hk => hk.2) (.slice Ao23 t282.length co23)) (fun _ hk => hk.2) (.bool t285)) (fun _ hk => hk.2) (.slice Ao24 t286.length co24)) (fun _ h_ => h_.1))))) (Kd.Q_lt (by (with_reducible repeat (first | apply Kd.Q_alloc | apply Kd.Q_drewN | apply Kd.Q_drew)); exact (Kd.Q_mono (Kd.Q_far (p := ⟨gb289, 3, none⟩) (Kd.Q_far (p := ⟨gb289, 2, none⟩) (Kd.Q_far (p := ⟨gb289, 1, none⟩) (Kd.Q_far (p := ⟨gb289, 0, none⟩) (Kd.Q_types HO284.out BK289.out (by decide)) (fun _ hk => hk.2) (.bool t281)) (fun _ hk => hk.2) (.slice Ao23 t282.length co23)) (fun _ hk => hk.2) (.bool t285)) (fun _ hk => hk.2) (.slice Ao24 t286.length co24)) (fun _ h_ => h_.1))))) (Kd.Q_lt (by (with_reducible repeat (first | apply Kd.Q_alloc | apply Kd.Q_drewN | apply Kd.Q_drew)); exact (Kd.Q_mono (Kd.Q_far (p := ⟨gb289, 3, none⟩) (Kd.Q_far (p := ⟨gb289, 2, none⟩) (Kd.Q_far (p := ⟨gb289, 1, none⟩) (Kd.Q_far (p := ⟨gb289, 0, none⟩) (Kd.Q_types HO288.out BK289.out (by decide)) (fun _ hk => hk.2) (.bool t281)) (fun _ hk => hk.2) (.slice Ao23 t282.length co23)) (fun _ hk => hk.2) (.bool t285)) (fun _ hk => hk.2) (.slice Ao24 t286.length co24)) (fun _ h_ => h_.1))))) (below_size (by repeat (first | (with_reducible first | exact HB.out | apply below_alloc | apply pw_below_drewN | apply below_drew1 | refine below_set ?_ GE280.out | refine below_set ?_ GE289.out) | exact HB.out)))); have n5_ := Aside0.mk (Kd.Q_lower (Kd.Q_new' (Kd.Q_new' (Kd.Q_new' (Kd.Q_new' ho1 (Kd.Q_lt (by (with_reducible repeat (first | apply Kd.Q_alloc | apply Kd.Q_drewN | apply Kd.Q_drew)); exact (Kd.Q_mono (Kd.Q_far (p := ⟨gb289, 3, none⟩) (Kd.Q_far (p := ⟨gb289, 2, none⟩) (Kd.Q_far (p := ⟨gb289, 1, none⟩) (Kd.Q_far (p := ⟨gb289, 0, none⟩) (Kd.Q_types HO275.out BK289.out (by decide)) (fun _ hk => hk.2) (.bool t281)) (fun _ hk => hk.2) (.slice Ao23 t282.length co23)) (fun _ hk => hk.2) (.bool t285)) (fun _ hk => hk.2) (.slice Ao24 t286.length co24)) (fun _ h_ => h_.1))))) (Kd.Q_lt (by (with_reducible repeat (first | apply Kd.Q_alloc | apply Kd.Q_drewN | apply Kd.Q_drew)); exact (Kd.Q_mono (Kd.Q_far (p := ⟨gb289, 3, none⟩) (Kd.Q_far (p := ⟨gb289, 2, none⟩) (Kd.Q_far (p := ⟨gb289, 1, none⟩) (Kd.Q_far (p := ⟨gb289, 0, none⟩) (Kd.Q_types HO279.out BK289.out (by decide)) (fun _ hk => hk.2) (.bool t281)) (fun _ hk => hk.2) (.slice Ao23 t282.length co23)) (fun _ hk => hk.2) (.bool t285)) (fun _ hk => hk.2) (.slice Ao24 t286.length co24)) (fun _ h_ => h_.1))))) (Kd.Q_lt (by (with_reducible repeat (first | apply Kd.Q_alloc | apply Kd.Q_drewN | apply Kd.Q_drew)); exact (Kd.Q_mono (Kd.Q_far (p := ⟨gb289, 3, none⟩) (Kd.Q_far (p := ⟨gb289, 2, none⟩) (Kd.Q_far (p := ⟨gb289, 1, none⟩) (Kd.Q_far (p := ⟨gb289, 0, none⟩) (Kd.Q_types HO284.out BK289.out (by decide)) (fun _ hk => hk.2) (.bool t281)) (fun _ hk => hk.2) (.slice Ao23 t282.length co23)) (fun _ hk => hk.2) (.bool t285)) (fun _ hk => hk.2) (.slice Ao24 t286.length co24)) (fun _ h_ => h_.1))))) (Kd.Q_lt (by (with_reducible repeat (first | apply Kd.Q_alloc | apply Kd.Q_drewN | apply Kd.Q_drew)); exact (Kd.Q_mono (Kd.Q_far (p := ⟨gb289, 3, none⟩) (Kd.Q_far (p := ⟨gb289, 2, none⟩) (Kd.Q_far (p := ⟨gb289, 1, none⟩) (Kd.Q_far (p := ⟨gb289, 0, none⟩) (Kd.Q_types HO288.out BK289.out (by decide)) (fun _ hk => hk.2) (.bool t281)) (fun _ hk => hk.2) (.slice Ao23 t282.length co23)) (fun _ hk => hk.2) (.bool t285)) (fun _ hk => hk.2) (.slice Ao24 t286.length co24)) (fun _ h_ => h_.1))))) (below_size (by repeat (first | (with_reducible first | exact HB.out | apply below_alloc | apply pw_below_drewN | apply below_drew1 | refine below_set ?_ GE280.out | refine below_set ?_ GE289.out) | exact HB.out)))); have n6_ := Aside0.mk (blk_below (g := gb280) (o := .cells #[.bool t272, .slice Ao17 t273.length co17, .bool t276, .slice Ao18 t277.length co18] 26 (0, 0)) (by (with_reducible repeat (first | refine blk_drewN ?_ _ | refine blk_drew ?_ | refine blk_alloc ?_ _)); refine blk_far ?_ NB280_289.out _; (with_reducible repeat (first | refine blk_drewN ?_ _ | refine blk_drew ?_ | refine blk_alloc ?_ _)); refine blk_far ?_ NB280_289.out _; (with_reducible repeat (first | refine blk_drewN ?_ _ | refine blk_drew ?_ | refine blk_alloc ?_ _)); refine blk_far ?_ NB280_289.out _; (with_reducible repeat (first | refine blk_drewN ?_ _ | refine blk_drew ?_ | refine blk_alloc ?_ _)); refine blk_far ?_ NB280_289.out _; (with_reducible repeat (first | refine blk_drewN ?_ _ | refine blk_drew ?_ | refine blk_alloc ?_ _)); exact BK280.out) hb); have n7_ := Aside0.mk (blk_below (g := gb289) (o := .cells #[.bool t281, .slice Ao23 t282.length co23, .bool t285, .slice Ao24 t286.length co24] 26 (0, 0)) (by (with_reducible repeat (first | refine blk_drewN ?_ _ | refine blk_drew ?_ | refine blk_alloc ?_ _)); refine blk_put (cs := #[.bool t281, .slice Ao23 t282.length co23, .bool t285, .slice none 0 0]) ?_ 3 _ rfl; (with_reducible repeat (first | refine blk_drewN ?_ _ | refine blk_drew ?_ | refine blk_alloc ?_ _)); refine blk_put (cs := #[.bool t281, .slice Ao23 t282.length co23, .bool false, .slice none 0 0]) ?_ 2 _ rfl; (with_reducible repeat (first | refine blk_drewN ?_ _ | refine blk_drew ?_ | refine blk_alloc ?_ _)); refine blk_put (cs := #[.bool t281, .slice none 0 0, .bool false, .slice none 0 0]) ?_ 1 _ rfl; (with_reducible repeat (first | refine blk_drewN ?_ _ | refine blk_drew ?_ | refine blk_alloc ?_ _)); refine blk_put (cs := #[.bool false, .slice none 0 0, .bool false, .slice none 0 0]) ?_ 0 _ rfl; (with_reducible repeat (first | refine blk_drewN ?_ _ | refine blk_drew ?_ | refine blk_alloc ?_ _)); exact BK289.out) hb); have n8_ := Aside0.mk (below_step (by repeat (first | (with_reducible first | exact HB.out | apply below_alloc | apply pw_below_drewN | apply below_drew1 | refine below_set ?_ GE280.out | refine below_set ?_ GE289.out) | exact HB.out)) hb); clear HO275; clear HO279; clear HO284; clear HO288; clear BK280; clear BK289; clear HB; have HO275 := n0_; have HO279 := n1_; have HO284 := n2_; have HO288 := n3_; have HO293 := n4_; have HO297 := n5_; have BK280 := n6_; have BK289 := n7_; have HB := n8_; clear n0_ n1_ n2_ n3_ n4_ n5_ n6_ n7_ n8_; (try clear hb); (try clear hb2); (try clear hk); (try clear hi); (try clear ho0); (try clear ho1)) | ((with_reducible refine gate_dst (N := 8) rfl ?_); (try (refine gate_guard (by rfl) ?_; dsimp only)); refine box_event ?hg (N := 8) ?hd (cs := #[.bool false, .slice none 0 0, .bool false, .slice none 0 0]) (t := 26) ?hr ?_; (case hd => rfl); (case hg => rfl); (case hr => first | (go_simp; done) | (go_simp; rfl)); intro gb298 hg w26 hbox hb; have n0_ := Aside0.mk (Kd.Q_below (by (with_reducible repeat (first | apply Kd.Q_alloc | apply Kd.Q_drewN | apply Kd.Q_drew)); exact HO275.out) hb); have n1_ := Aside0.mk (Kd.Q_below (by (with_reducible repeat (first | apply Kd.Q_alloc | apply Kd.Q_drewN | apply Kd.Q_drew)); exact HO279.out) hb); have n2_ := Aside0.mk (Kd.Q_below (by (with_reducible repeat (first | apply Kd.Q_alloc | apply Kd.Q_drewN | apply Kd.Q_drew)); exact HO284.out) hb); have n3_ := Aside0.mk (Kd.Q_below (by (with_reducible repeat (first | apply Kd.Q_alloc | apply Kd.Q_drewN | apply Kd.Q_drew)); exact HO288.out) hb); have n4_ := Aside0.mk (Kd.Q_below (by (with_reducible repeat (first | apply Kd.Q_alloc | apply Kd.Q_drewN | apply Kd.Q_drew)); exact HO293.out) hb); have n5_ := Aside0.mk (Kd.Q_below (by (with_reducible repeat (first | apply Kd.Q_alloc | apply Kd.Q_drewN | apply Kd.Q_drew)); exact HO297.out) hb); have n6_ := Aside0.mk (blk_below (g := gb280) (o := .cells #[.bool t272, .slice Ao17 t273.length co17, .bool t276, .slice Ao18 t277.length co18] 26 (0, 0)) (by (with_reducible repeat (first | refine blk_drewN ?_ _ | refine blk_drew ?_ | refine blk_alloc ?_ _)); exact BK280.out) hb); have n7_ := Aside0.mk (blk_below (g := gb289) (o := .cells #[.bool t281, .slice Ao23 t282.length co23, .bool t285, .slice Ao24 t286.length co24] 26 (0, 0)) (by (with_reducible repeat (first | refine blk_drewN ?_ _ | refine blk_drew ?_ | refine blk_alloc ?_ _)); exact BK289.out) hb); have n8_ := Aside0.mk (below_step (by repeat (first | (with_reducible first | exact HB.out | apply below_alloc | apply pw_below_drewN | apply below_drew1 | refine below_set ?_ GE280.out | refine below_set ?_ GE289.out) | exact HB.out)) hb); have n9_ := Aside0.mk (hbox); have n10_ := Aside0.mk ((by rw [hg]; exact (below_size (by repeat (first | (with_reducible first | exact HB.out | apply below_alloc | apply pw_below_drewN | apply below_drew1 | refine below_set ?_ GE280.out | refine below_set ?_ GE289.out) | exact HB.out))) : w.heap.size ≤ gb298)); have n11_ := Aside0.mk ((by rw [hg]; exact (below_size (by repeat (first | (with_reducible first | exact HB.out | apply below_alloc | apply pw_below_drewN | apply below_drew1 | refine below_set ?_ GE280.out | refine below_set ?_ GE289.out) | exact HB.out))) : w.heap.size ≤ gb298)); have n12_ := Aside0.mk ((by rw [hg]; exact Nat.ne_of_lt (blk_lt (g := gb280) (o := .cells #[.bool t272, .slice Ao17 t273.length co17, .bool t276, .slice Ao18 t277.length co18] 26 (0, 0)) (by (with_reducible repeat (first | refine blk_drewN ?_ _ | refine blk_drew ?_ | refine blk_alloc ?_ _)); exact BK280.out)) : gb280 ≠ gb298)); have n13_ := Aside0.mk ((by rw [hg]; exact Nat.ne_of_gt (blk_lt (g := gb280) (o := .cells #[.bool t272, .slice Ao17 t273.length co17, .bool t276, .slice Ao18 t277.length co18] 26 (0, 0)) (by (with_reducible repeat (first | refine blk_drewN ?_ _ | refine blk_drew ?_ | refine blk_alloc ?_ _)); exact BK280.out)) : gb298 ≠ gb280)); have n14_ := Aside0.mk ((by rw [hg]; exact Nat.ne_of_lt (blk_lt (g := gb289) (o := .cells #[.bool t281, .slice Ao23 t282.length co23, .bool t285, .slice Ao24 t286.length co24] 26 (0, 0)) (by (with_reducible repeat (first | refine blk_drewN ?_ _ | refine blk_drew ?_ | refine blk_alloc ?_ _)); exact BK289.out)) : gb289 ≠ gb298)); have n15_ := Aside0.mk ((by rw [hg]; exact Nat.ne_of_gt (blk_lt (g := gb289) (o := .cells #[.bool t281, .slice Ao23 t282.length co23, .bool t285, .slice Ao24 t286.length co24] 26 (0, 0)) (by (with_reducible repeat (first | refine blk_drewN ?_ _ | refine blk_drew ?_ | refine blk_alloc ?_ _)); exact BK289.out)) : gb298 ≠ gb289)); clear HO275; clear HO279; clear HO284; clear HO288; clear HO293; clear HO297; clear BK280; clear BK289; clear HB; have HO275 := n0_; have HO279 := n1_; have HO284 := n2_; have HO288 := n3_; have HO293 := n4_; have HO297 := n5_; have BK280 := n6_; have BK289 := n7_; have HB := n8_; have BK298 := n9_; have GW298 := n10_; have GE298 := n11_; have NB280_298 := n12_; have NB298_280 := n13_; have NB289_298 := n14_; have NB298_289 := n15_; clear n0_ n1_ n2_ n3_ n4_ n5_ n6_ n7_ n8_ n9_ n10_ n11_ n12_ n13_ n14_ n15_; clear hb hbox hg; have hnb27 := NB298_280.out; have hnc27 := NB280_298.out; have hnb28 := NB298_289.out; have hnc28 := NB289_298.out; have hcz29_0 : w26.cell? ⟨gb298, 0, none⟩ = some (.bool false) := (blk_cell BK298.out 0).trans rfl; have hcz29_1 : w26.cell? ⟨gb298, 1, none⟩ = some (.slice none 0 0) := (blk_cell BK298.out 1).trans rfl; have hcz29_2 : w26.cell? ⟨gb298, 2, none⟩ = some (.bool false) := (blk_cell BK298.out 2).trans rfl; have hcz29_3 : w26.cell? ⟨gb298, 3, none⟩ = some (.slice none 0 0) := (blk_cell BK298.out 3).trans rfl; have hfz29_0 := blk_frozen BK298.out 0; have hfz29_1 := blk_frozen BK298.out 1; have hfz29_2 := blk_frozen BK298.out 2; have hfz29_3 := blk_frozen BK298.out 3; obtain ⟨Ao30, co30, eo30, _⟩ := Kd.Q_slice HO293.out; subst eo30; obtain ⟨Ao31, co31, eo31, _⟩ := Kd.Q_slice HO297.out; subst eo31; have hcz32_0 : w26.cell? ⟨gb280, 0, none⟩ = some (.bool t272) := (blk_cell BK280.out 0).trans rfl; have hcz32_1 : w26.cell? ⟨gb280, 1, none⟩ = some (.slice Ao17 t273.length co17) := (blk_cell BK280.out 1).trans rfl; have hcz32_2 : w26.cell? ⟨gb280, 2, none⟩ = some (.bool t276) := (blk_cell BK280.out 2).trans rfl; have hcz32_3 : w26.cell? ⟨gb280, 3, none⟩ = some (.slice Ao18 t277.length co18) := (blk_cell BK280.out 3).trans rfl; have hfz32_0 := blk_frozen BK280.out 0; have hfz32_1 := blk_frozen BK280.out 1; have hfz32_2 := blk_frozen BK280.out 2; have hfz32_3 := blk_frozen BK280.out 3) | ((with_reducible refine gate_dst (N := 9) rfl ?_); (try (refine gate_guard (by rfl) ?_; dsimp only)); refine box_event ?hg (N := 9) ?hd (cs := #[.bool false, .slice none 0 0, .bool false, .slice none 0 0]) (t := 26) ?hr ?_; (case hd => rfl); (case hg => rfl); (case hr => first | (go_simp; done) | (go_simp; rfl)); intro gb299 hg w33 hbox hb; have n0_ := Aside0.mk (Kd.Q_below (by (with_reducible repeat (first | apply Kd.Q_alloc | apply Kd.Q_drewN | apply Kd.Q_drew)); exact (Kd.Q_mono (Kd.Q_far (p := ⟨gb298, 3, none⟩) (Kd.Q_far (p := ⟨gb298, 2, none⟩) (Kd.Q_far (p := ⟨gb298, 1, none⟩) (Kd.Q_far (p := ⟨gb298, 0, none⟩) (Kd.Q_types HO275.out BK298.out (by decide)) (fun _ hk => hk.2) (.bool t290)) (fun _ hk => hk.2) (.slice Ao30 t291.length co30)) (fun _ hk => hk.2) (.bool t294)) (fun _ hk => hk.2) (.slice Ao31 t295.length co31)) (fun _ h_ => h_.1))) hb); have n1_ := Aside0.mk (Kd.Q_below (by (with_reducible repeat (first | apply Kd.Q_alloc | apply Kd.Q_drewN | apply Kd.Q_drew)); exact (Kd.Q_mono (Kd.Q_far (p := ⟨gb298, 3, none⟩) (Kd.Q_far (p := ⟨gb298, 2, none⟩) (Kd.Q_far (p := ⟨gb298, 1, none⟩) (Kd.Q_far (p := ⟨gb298, 0, none⟩) (Kd.Q_types HO279.out BK298.out (by decide)) (fun _ hk => hk.2) (.bool t290)) (fun _ hk => hk.2) (.slice Ao30 t291.length co30)) (fun _ hk => hk.2) (.bool t294)) (fun _ hk => hk.2) (.slice Ao31 t295.length co31)) (fun _ h_ => h_.1))) hb); have n2_ := Aside0.mk (Kd.Q_below (by (with_reducible repeat (first | apply Kd.Q_alloc | apply Kd.Q_drewN | apply Kd.Q_drew)); exact (Kd.Q_mono (Kd.Q_far (p := ⟨gb298, 3, none⟩) (Kd.Q_far (p := ⟨gb298, 2, none⟩) (Kd.Q_far (p := ⟨gb298, 1, none⟩) (Kd.Q_far (p := ⟨gb298, 0, none⟩) (Kd.Q_types HO284.out BK298.out (by decide)) (fun _ hk => hk.2) (.bool t290)) (fun _ hk => hk.2) (.slice Ao30 t291.length co30)) (fun _ hk => hk.2) (.bool t294)) (fun _ hk => hk.2) (.slice Ao31 t295.length co31)) (fun _ h_ => h_.1))) hb); have n3_ := Aside0.mk (Kd.Q_below (by (with_reducible repeat (first | apply Kd.Q_alloc | apply Kd.Q_drewN | apply Kd.Q_drew)); exact (Kd.Q_mono (Kd.Q_far (p := ⟨gb298, 3, none⟩) (Kd.Q_far (p := ⟨gb298, 2, none⟩) (Kd.Q_far (p := ⟨gb298, 1, none⟩) (Kd.Q_far (p := ⟨gb298, 0, none⟩) (Kd.Q_types HO288.out BK298.out (by decide)) (fun _ hk => hk.2) (.bool t290)) (fun _ hk => hk.2) (.slice Ao30 t291.length co30)) (fun _ hk => hk.2) (.bool t294)) (fun _ hk => hk.2) (.slice Ao31 t295.length co31)) (fun _ h_ => h_.1))) hb); have n4_ := Aside0.mk (Kd.Q_below (by (with_reducible repeat (first | apply Kd.Q_alloc | apply Kd.Q_drewN | apply Kd.Q_drew)); exact (Kd.Q_mono (Kd.Q_far (p := ⟨gb298, 3, none⟩) (Kd.Q_far (p := ⟨gb298, 2, none⟩) (Kd.Q_far (p := ⟨gb298, 1, none⟩) (Kd.Q_far (p := ⟨gb298, 0, none⟩) (Kd.Q_types HO293.out BK298.out (by decide)) (fun _ hk => hk.2) (.bool t290)) (fun _ hk => hk.2) (.slice Ao30 t291.length co30)) (fun _ hk => hk.2) (.bool t294)) (fun _ hk => hk.2) (.slice Ao31 t295.length co31)) (fun _ h_ => h_.1))) hb); have n5_ := Aside0.mk (Kd.Q_below (by (with_reducible repeat (first | apply Kd.Q_alloc | apply Kd.Q_drewN | apply Kd.Q_drew)); exact (Kd.Q_mono (Kd.Q_far (p := ⟨gb298, 3, none⟩) (Kd.Q_far (p := ⟨gb298, 2, none⟩) (Kd.Q_far (p := ⟨gb298, 1, none⟩) (Kd.Q_far (p := ⟨gb298, 0, none⟩) (Kd.Q_types HO297.out BK298.out (by decide)) (fun _ hk => hk.2) (.bool t290)) (fun _ hk => hk.2) (.slice Ao30 t291.length co30)) (fun _ hk => hk.2) (.bool t294)) (fun _ hk => hk.2) (.slice Ao31 t295.length co31)) (fun _ h_ => h_.1))) hb); have n6_ := Aside0.mk (blk_below (g := gb280) (o := .cells #[.bool t272, .slice Ao17 t273.length co17, .bool t276, .slice Ao18 t277.length co18] 26 (0, 0)) (by (with_reducible repeat (first | refine blk_drewN ?_ _ | refine blk_drew ?_ | refine blk_alloc ?_ _)); refine blk_far ?_ NB280_298.out _; (with_reducible repeat (first | refine blk_drewN ?_ _ | refine blk_drew ?_ | refine blk_alloc ?_ _)); refine blk_far ?_ NB280_298.out _; (with_reducible repeat (first | refine blk_drewN ?_ _ | refine blk_drew ?_ | refine blk_alloc ?_ _)); refine blk_far ?_ NB280_298.out _; (with_reducible repeat (first | refine blk_drewN ?_ _ | refine blk_drew ?_ | refine blk_alloc ?_ _)); refine blk_far ?_ NB280_298.out _; (with_reducible repeat (first | refine blk_drewN ?_ _ | refine blk_drew ?_ | refine blk_alloc ?_ _)); exact BK280.out) hb); have n7_ := Aside0.mk (blk_below (g := gb289) (o := .cells #[.bool t281, .slice Ao23 t282.length co23, .bool t285, .slice Ao24 t286.length co24] 26 (0, 0)) (by (with_reducible repeat (first | refine blk_drewN ?_ _ | refine blk_drew ?_ | refine blk_alloc ?_ _)); refine blk_far ?_ NB289_298.out _; (with_reducible repeat (first | refine blk_drewN ?_ _ | refine blk_drew ?_ | refine blk_alloc ?_ _)); refine blk_far ?_ NB289_298.out _; (with_reducible repeat (first | refine blk_drewN ?_ _ | refine blk_drew ?_ | refine blk_alloc ?_ _)); refine blk_far ?_ NB289_298.out _; (with_reducible repeat (first | refine blk_drewN ?_ _ | refine blk_drew ?_ | refine blk_alloc ?_ _)); refine blk_far ?_ NB289_298.out _; (with_reducible repeat (first | refine blk_drewN ?_ _ | refine blk_drew ?_ | refine blk_alloc ?_ _)); exact BK289.out) hb); have n8_ := Aside0.mk (blk_below (g := gb298) (o := .cells #[.bool t290, .slice Ao30 t291.length co30, .bool t294, .slice Ao31 t295.length co31] 26 (0, 0)) (by (with_reducible repeat (first | refine blk_drewN ?_ _ | refine blk_drew ?_ | refine blk_alloc ?_ _)); refine blk_put (cs := #[.bool t290, .slice Ao30 t291.length co30, .bool t294, .slice none 0 0]) ?_ 3 _ rfl; (with_reducible repeat (first | refine blk_drewN ?_ _ | refine blk_drew ?_ | refine blk_alloc ?_ _)); refine blk_put (cs := #[.bool t290, .slice Ao30 t291.length co30, .bool false, .slice none 0 0]) ?_ 2 _ rfl; (with_reducible repeat (first | refine blk_drewN ?_ _ | refine blk_drew ?_ | refine blk_alloc ?_ _)); refine blk_put (cs := #[.bool t290, .slice none 0 0, .bool false, .slice none 0 0]) ?_ 1 _ rfl; (with_reducible repeat (first | refine blk_drewN ?_ _ | refine blk_drew ?_ | refine blk_alloc ?_ _)); refine blk_put (cs := #[.bool false, .slice none 0 0, .bool false, .slice none 0 0]) ?_ 0 _ rfl; (with_reducible repeat (first | refine blk_drewN ?_ _ | refine blk_drew ?_ | refine blk_alloc ?_ _)); exact BK298.out) hb); have n9_ := Aside0.mk (below_step (by repeat (first | (with_reducible first | exact HB.out | apply below_alloc | apply pw_below_drewN | apply below_drew1 | refine below_set ?_ GE280.out | refine below_set ?_ GE289.out | refine below_set ?_ GE298.out) | exact HB.out)) hb); have n10_ := Aside0.mk (hbox); have n11_ := Aside0.mk ((by rw [hg]; exact (below_size (by repeat (first | (with_reducible first | exact HB.out | apply below_alloc | apply pw_below_drewN | apply below_drew1 | refine below_set ?_ GE280.out | refine below_set ?_ GE289.out | refine below_set ?_ GE298.out) | exact HB.out))) : w.heap.size ≤ gb299)); have n12_ := Aside0.mk ((by rw [hg]; exact (below_size (by repeat (first | (with_reducible first | exact HB.out | apply below_alloc | apply pw_below_drewN | apply below_drew1 | refine below_set ?_ GE280.out | refine below_set ?_ GE289.out | refine below_set ?_ GE298.out) | exact HB.out))) : w.heap.size ≤ gb299)); have n13_ := Aside0.mk ((by rw [hg]; exact Nat.ne_of_lt (blk_lt (g := gb280) (o := .cells #[.bool t272, .slice Ao17 t273.length co17, .bool t276, .slice Ao18 t277.length co18] 26 (0, 0)) (by (with_reducible repeat (first | refine blk_drewN ?_ _ | refine blk_drew ?_ | refine blk_alloc ?_ _)); refine blk_far ?_ NB280_298.out _; (with_reducible repeat (first | refine blk_drewN ?_ _ | refine blk_drew ?_ | refine blk_alloc ?_ _)); refine blk_far ?_ NB280_298.out _; (with_reducible repeat (first | refine blk_drewN ?_ _ | refine blk_drew ?_ | refine blk_alloc ?_ _)); refine blk_far ?_ NB280_298.out _; (with_reducible repeat (first | refine blk_drewN ?_ _ | refine blk_drew ?_ | refine blk_alloc ?_ _)); refine blk_far ?_ NB280_298.out _; (with_reducible repeat (first | refine blk_drewN ?_ _ | refine blk_drew ?_ | refine blk_alloc ?_ _)); exact BK280.out)) : gb280 ≠ gb299)); have n14_ := Aside0.mk ((by rw [hg]; exact Nat.ne_of_gt (blk_lt (g := gb280) (o := .cells #[.bool t272, .slice Ao17 t273.length co17, .bool t276, .slice Ao18 t277.length co18] 26 (0, 0)) (by (with_reducible repeat (first | refine blk_drewN ?_ _ | refine blk_drew ?_ | refine blk_alloc ?_ _)); refine blk_far ?_ NB280_298.out _; (with_reducible repeat (first | refine blk_drewN ?_ _ | refine blk_drew ?_ | refine blk_alloc ?_ _)); refine blk_far ?_ NB280_298.out _; (with_reducible repeat (first | refine blk_drewN ?_ _ | refine blk_drew ?_ | refine blk_alloc ?_ _)); refine blk_far ?_ NB280_298.out _; (with_reducible repeat (first | refine blk_drewN ?_ _ | refine blk_drew ?_ | refine blk_alloc ?_ _)); refine blk_far ?_ NB280_298.out _; (with_reducible repeat (first | refine blk_drewN ?_ _ | refine blk_drew ?_ | refine blk_alloc ?_ _)); exact BK280.out)) : gb299 ≠ gb280)); have n15_ := Aside0.mk ((by rw [hg]; exact Nat.ne_of_lt (blk_lt (g := gb289) (o := .cells #[.bool t281, .slice Ao23 t282.length co23, .bool t285, .slice Ao24 t286.length co24] 26 (0, 0)) (by (with_reducible repeat (first | refine blk_drewN ?_ _ | refine blk_drew ?_ | refine blk_alloc ?_ _)); refine blk_far ?_ NB289_298.out _; (with_reducible repeat (first | refine blk_drewN ?_ _ | refine blk_drew ?_ | refine blk_alloc ?_ _)); refine blk_far ?_ NB289_298.out _; (with_reducible repeat (first | refine blk_drewN ?_ _ | refine blk_drew ?_ | refine blk_alloc ?_ _)); refine blk_far ?_ NB289_298.out _; (with_reducible repeat (first | refine blk_drewN ?_ _ | refine blk_drew ?_ | refine blk_alloc ?_ _)); refine blk_far ?_ NB289_298.out _; (with_reducible repeat (first | refine blk_drewN ?_ _ | refine blk_drew ?_ | refine blk_alloc ?_ _)); exact BK289.out)) : gb289 ≠ gb299)); have n16_ := Aside0.mk ((by rw [hg]; exact Nat.ne_of_gt (blk_lt (g := gb289) (o := .cells #[.bool t281, .slice Ao23 t282.length co23, .bool t285, .slice Ao24 t286.length co24] 26 (0, 0)) (by (with_reducible repeat (first | refine blk_drewN ?_ _ | refine blk_drew ?_ | refine blk_alloc ?_ _)); refine blk_far ?_ NB289_298.out _; (with_reducible repeat (first | refine blk_drewN ?_ _ | refine blk_drew ?_ | refine blk_alloc ?_ _)); refine blk_far ?_ NB289_298.out _; (with_reducible repeat (first | refine blk_drewN ?_ _ | refine blk_drew ?_ | refine blk_alloc ?_ _)); refine blk_far ?_ NB289_298.out _; (with_reducible repeat (first | refine blk_drewN ?_ _ | refine blk_drew ?_ | refine blk_alloc ?_ _)); refine blk_far ?_ NB289_298.out _; (with_reducible repeat (first | refine blk_drewN ?_ _ | refine blk_drew ?_ | refine blk_alloc ?_ _)); exact BK289.out)) : gb299 ≠ gb289)); have n17_ := Aside0.mk ((by rw [hg]; exact Nat.ne_of_lt (blk_lt (g := gb298) (o := .cells #[.bool t290, .slice Ao30 t291.length co30, .bool t294, .slice Ao31 t295.length co31] 26 (0, 0)) (by (with_reducible repeat (first | refine blk_drewN ?_ _ | refine blk_drew ?_ | refine blk_alloc ?_ _)); refine blk_put (cs := #[.bool t290, .slice Ao30 t291.length co30, .bool t294, .slice none 0 0]) ?_ 3 _ rfl; (with_reducible repeat (first | refine blk_drewN ?_ _ | refine blk_drew ?_ | refine blk_alloc ?_ _)); refine blk_put (cs := #[.bool t290, .slice Ao30 t291.length co30, .bool false, .slice none 0 0]) ?_ 2 _ rfl; (with_reducible repeat (first | refine blk_drewN ?_ _ | refine blk_drew ?_ | refine blk_alloc ?_ _)); refine blk_put (cs := #[.bool t290, .slice none 0 0, .bool false, .slice none 0 0]) ?_ 1 _ rfl; (with_reducible repeat (first | refine blk_drewN ?_ _ | refine blk_drew ?_ | refine blk_alloc ?_ _)); refine blk_put (cs := #[.bool false, .slice none 0 0, .bool false, .slice none 0 0]) ?_ 0 _ rfl; (with_reducible repeat (first | refine blk_drewN ?_ _ | refine blk_drew ?_ | refine blk_alloc ?_ _)); exact BK298.out)) : gb298 ≠ gb299)); have n18_ := Aside0.mk ((by rw [hg]; exact Nat.ne_of_gt (blk_lt (g := gb298) (o := .cells #[.bool t290, .slice Ao30 t291.length co30, .bool t294, .slice Ao31 t295.length co31] 26 (0, 0)) (by (with_reducible repeat (first | refine blk_drewN ?_ _ | refine blk_drew ?_ | refine blk_alloc ?_ _)); refine blk_put (cs := #[.bool t290, .slice Ao30 t291.length co30, .bool t294, .slice none 0 0]) ?_ 3 _ rfl; (with_reducible repeat (first | refine blk_drewN ?_ _ | refine blk_drew ?_ | refine blk_alloc ?_ _)); refine blk_put (cs := #[.bool t290, .slice Ao30 t291.length co30, .bool false, .slice none 0 0]) ?_ 2 _ rfl; (with_reducible repeat (first | refine blk_drewN ?_ _ | refine blk_drew ?_ | refine blk_alloc ?_ _)); refine blk_put (cs := #[.bool t290, .slice none 0 0, .bool false, .slice none 0 0]) ?_ 1 _ rfl; (with_reducible repeat (first | refine blk_drewN ?_ _ | refine blk_drew ?_ | refine blk_alloc ?_ _)); refine blk_put (cs := #[.bool false, .slice none 0 0, .bool false, .slice none 0 0]) ?_ 0 _ rfl; (with_reducible repeat (first | refine blk_drewN ?_ _ | refine blk_drew ?_ | refine blk_alloc ?_ _)); exact BK298.out)) : gb299 ≠ gb298)); clear HO275; clear HO279; clear HO284; clear HO288; clear HO293; clear HO297; clear BK280; clear BK289; clear BK298; clear HB; have HO275 := n0_; have HO279 := n1_; have HO284 := n2_; have HO288 := n3_; have HO293 := n4_; have HO297 := n5_; have BK280 := n6_; have BK289 := n7_; have BK298 := n8_; have HB := n9_; have BK299 := n10_; have GW299 := n11_; have GE299 := n12_; have NB280_299 := n13_; have NB299_280 := n14_; have NB289_299 := n15_; have NB299_289 := n16_; have NB298_299 := n17_; have NB299_298 := n18_; clear n0_ n1_ n2_ n3_ n4_ n5_ n6_ n7_ n8_ n9_ n10_ n11_ n12_ n13_ n14_ n15_ n16_ n17_ n18_; clear hb hbox hg; have hnb34 := NB299_280.out; have hnc34 := NB280_299.out; have hnb35 := NB299_289.out; have hnc35 := NB289_299.out; have hnb36 := NB299_298.out; have hnc36 := NB298_299.out; have hcz37_0 : w33.cell? ⟨gb299, 0, none⟩ = some (.bool false) := (blk_cell BK299.out 0).trans rfl; have hcz37_1 : w33.cell? ⟨gb299, 1, none⟩ = some (.slice none 0 0) := (blk_cell BK299.out 1).trans rfl; have hcz37_2 : w33.cell? ⟨gb299, 2, none⟩ = some (.bool false) := (blk_cell BK299.out 2).trans rfl; have hcz37_3 : w33.cell? ⟨gb299, 3, none⟩ = some (.slice none 0 0) := (blk_cell BK299.out 3).trans rfl; have hfz37_0 := blk_frozen BK299.out 0; have hfz37_1 := blk_frozen BK299.out 1; have hfz37_2 := blk_frozen BK299.out 2; have hfz37_3 := blk_frozen BK299.out 3; have hcz38_0 : w33.cell? ⟨gb280, 0, none⟩ = some (.bool t272) := (blk_cell BK280.out 0).trans rfl; have hcz38_1 : w33.cell? ⟨gb280, 1, none⟩ = some (.slice Ao17 t273.length co17) := (blk_cell BK280.out 1).trans rfl; have hcz38_2 : w33.cell? ⟨gb280, 2, none⟩ = some (.bool t276) := (blk_cell BK280.out 2).trans rfl; have hcz38_3 : w33.cell? ⟨gb280, 3, none⟩ = some (.slice Ao18 t277.length co18) := (blk_cell BK280.out 3).trans rfl; have hfz38_0 := blk_frozen BK280.out 0; have hfz38_1 := blk_frozen BK280.out 1; have hfz38_2 := blk_frozen BK280.out 2; have hfz38_3 := blk_frozen BK280.out 3))
            (try simp only [Act.put, List.setIfInBounds_toArray, List.set_cons_zero, List.set_cons_succ])
            go_cut [] (fun wc => ∃ (kq : Nat) (x300000_12 : Bool) (x300001_12 : List ByteArray) (u300001 : Value), Aside0 (glacislaw10_CspparseFirst.j1 kq a0 t271 t272 t273 t276 t277 t281 t282 t285 t286 t290 t291 t294 t295 x300000_12 x300001_12 t276 t277 = some r) ∧ Aside0 (kq ≤ kj3) ∧ Aside0 (Kd.Q Kd.string 9 wc w.heap.size (fun _ => True) (.slice Ao17 t273.length co17) t273) ∧ Aside0 (Kd.Q Kd.string 9 wc w.heap.size (fun _ => True) (.slice Ao18 t277.length co18) t277) ∧ Aside0 (Kd.Q Kd.string 9 wc w.heap.size (fun _ => True) (.slice Ao23 t282.length co23) t282) ∧ Aside0 (Kd.Q Kd.string 9 wc w.heap.size (fun _ => True) (.slice Ao24 t286.length co24) t286) ∧ Aside0 (Kd.Q Kd.string 9 wc w.heap.size (fun _ => True) (.slice Ao30 t291.length co30) t291) ∧ Aside0 (Kd.Q Kd.string 9 wc w.heap.size (fun _ => True) (.slice Ao31 t295.length co31) t295) ∧ Aside0 (Kd.Q Kd.string 9 wc w.heap.size (fun _ => True) u300001 x300001_12) ∧ Aside0 (Kd.Q Kd.string 9 wc w.heap.size (fun _ => True) (.slice Ao18 t277.length co18) t277) ∧ Aside0 (wc.heap[gb280]? = some (.cells #[.bool t272, (.slice Ao17 t273.length co17), .bool t276, (.slice Ao18 t277.length co18)] 26 (0, 0))) ∧ Aside0 (wc.heap[gb289]? = some (.cells #[.bool t281, (.slice Ao23 t282.length co23), .bool t285, (.slice Ao24 t286.length co24)] 26 (0, 0))) ∧ Aside0 (wc.heap[gb298]? = some (.cells #[.bool t290, (.slice Ao30 t291.length co30), .bool t294, (.slice Ao31 t295.length co31)] 26 (0, 0))) ∧ Aside0 (wc.heap[gb299]? = some (.cells #[.bool x300000_12, u300001, .bool t276, (.slice Ao18 t277.length co18)] 26 (0, 0))) ∧ Aside0 (Below w.heap.size w wc))
            case first =>
              have H := HC13.out
              clear HC13
              by_cases c39 : t272 = true
              · subst c39
                have H1 : (glacislaw10_CspparseFirst.j1 kj3 a0 t271 true t273 t276 t277 t281 t282 t285 t286 t290 t291 t294 t295 true t273 t276 t277) = some r := by rw [if_pos rfl] at H; exact H
                clear H
                have H := H1
                clear H1
                have H' := Aside0.mk H
                clear H
                go_wp2
                go_meet
                case rel => exact ⟨_, (true), (t273), (.slice Ao17 t273.length co17), H', ⟨by have := HJ3.out; first | omega | exact Nat.le_refl _⟩, ⟨by (with_reducible repeat (first | apply Kd.Q_alloc | apply Kd.Q_drewN | apply Kd.Q_drew)); exact Kd.Q_mono (Kd.Q_far (p := ⟨gb299, 3, none⟩) (Kd.Q_far (p := ⟨gb299, 2, none⟩) (Kd.Q_far (p := ⟨gb299, 1, none⟩) (Kd.Q_far (p := ⟨gb299, 0, none⟩) (Kd.Q_types HO275.out BK299.out (by decide)) (fun _ hk => hk.2) (.bool true)) (fun _ hk => hk.2) (.slice Ao17 t273.length co17)) (fun _ hk => hk.2) (.bool t276)) (fun _ hk => hk.2) (.slice Ao18 t277.length co18)) (fun _ _ => trivial)⟩, ⟨by (with_reducible repeat (first | apply Kd.Q_alloc | apply Kd.Q_drewN | apply Kd.Q_drew)); exact Kd.Q_mono (Kd.Q_far (p := ⟨gb299, 3, none⟩) (Kd.Q_far (p := ⟨gb299, 2, none⟩) (Kd.Q_far (p := ⟨gb299, 1, none⟩) (Kd.Q_far (p := ⟨gb299, 0, none⟩) (Kd.Q_types HO279.out BK299.out (by decide)) (fun _ hk => hk.2) (.bool true)) (fun _ hk => hk.2) (.slice Ao17 t273.length co17)) (fun _ hk => hk.2) (.bool t276)) (fun _ hk => hk.2) (.slice Ao18 t277.length co18)) (fun _ _ => trivial)⟩, ⟨by (with_reducible repeat (first | apply Kd.Q_alloc | apply Kd.Q_drewN | apply Kd.Q_drew)); exact Kd.Q_mono (Kd.Q_far (p := ⟨gb299, 3, none⟩) (Kd.Q_far (p := ⟨gb299, 2, none⟩) (Kd.Q_far (p := ⟨gb299, 1, none⟩) (Kd.Q_far (p := ⟨gb299, 0, none⟩) (Kd.Q_types HO284.out BK299.out (by decide)) (fun _ hk => hk.2) (.bool true)) (fun _ hk => hk.2) (.slice Ao17 t273.length co17)) (fun _ hk => hk.2) (.bool t276)) (fun _ hk => hk.2) (.slice Ao18 t277.length co18)) (fun _ _ => trivial)⟩, ⟨by (with_reducible repeat (first | apply Kd.Q_alloc | apply Kd.Q_drewN | apply Kd.Q_drew)); exact Kd.Q_mono (Kd.Q_far (p := ⟨gb299, 3, none⟩) (Kd.Q_far (p := ⟨gb299, 2, none⟩) (Kd.Q_far (p := ⟨gb299, 1, none⟩) (Kd.Q_far (p := ⟨gb299, 0, none⟩) (Kd.Q_types HO288.out BK299.out (by decide)) (fun _ hk => hk.2) (.bool true)) (fun _ hk => hk.2) (.slice Ao17 t273.length co17)) (fun _ hk => hk.2) (.bool t276)) (fun _ hk => hk.2) (.slice Ao18 t277.length co18)) (fun _ _ => trivial)⟩, ⟨by (with_reducible repeat (first | apply Kd.Q_alloc | apply Kd.Q_drewN | apply Kd.Q_drew)); exact Kd.Q_mono (Kd.Q_far (p := ⟨gb299, 3, none⟩) (Kd.Q_far (p := ⟨gb299, 2, none⟩) (Kd.Q_far (p := ⟨gb299, 1, none⟩) (Kd.Q_far (p := ⟨gb299, 0, none⟩) (Kd.Q_types HO293.out BK299.out (by decide)) (fun _ hk => hk.2) (.bool true)) (fun _ hk => hk.2) (.slice Ao17 t273.length co17)) (fun _ hk => hk.2) (.bool t276)) (fun _ hk => hk.2) (.slice Ao18 t277.length co18)) (fun _ _ => trivial)⟩, ⟨by (with_reducible repeat (first | apply Kd.Q_alloc | apply Kd.Q_drewN | apply Kd.Q_drew)); exact Kd.Q_mono (Kd.Q_far (p := ⟨gb299, 3, none⟩) (Kd.Q_far (p := ⟨gb299, 2, none⟩) (Kd.Q_far (p := ⟨gb299, 1, none⟩) (Kd.Q_far (p := ⟨gb299, 0, none⟩) (Kd.Q_types HO297.out BK299.out (by decide)) (fun _ hk => hk.2) (.bool true)) (fun _ hk => hk.2) (.slice Ao17 t273.length co17)) (fun _ hk => hk.2) (.bool t276)) (fun _ hk => hk.2) (.slice Ao18 t277.length co18)) (fun _ _ => trivial)⟩, ⟨by (with_reducible repeat (first | apply Kd.Q_alloc | apply Kd.Q_drewN | apply Kd.Q_drew)); exact Kd.Q_mono (Kd.Q_far (p := ⟨gb299, 3, none⟩) (Kd.Q_far (p := ⟨gb299, 2, none⟩) (Kd.Q_far (p := ⟨gb299, 1, none⟩) (Kd.Q_far (p := ⟨gb299, 0, none⟩) (Kd.Q_types HO275.out BK299.out (by decide)) (fun _ hk => hk.2) (.bool true)) (fun _ hk => hk.2) (.slice Ao17 t273.length co17)) (fun _ hk => hk.2) (.bool t276)) (fun _ hk => hk.2) (.slice Ao18 t277.length co18)) (fun _ _ => trivial)⟩, ⟨by (with_reducible repeat (first | apply Kd.Q_alloc | apply Kd.Q_drewN | apply Kd.Q_drew)); exact Kd.Q_mono (Kd.Q_far (p := ⟨gb299, 3, none⟩) (Kd.Q_far (p := ⟨gb299, 2, none⟩) (Kd.Q_far (p := ⟨gb299, 1, none⟩) (Kd.Q_far (p := ⟨gb299, 0, none⟩) (Kd.Q_types HO279.out BK299.out (by decide)) (fun _ hk => hk.2) (.bool true)) (fun _ hk => hk.2) (.slice Ao17 t273.length co17)) (fun _ hk => hk.2) (.bool t276)) (fun _ hk => hk.2) (.slice Ao18 t277.length co18)) (fun _ _ => trivial)⟩, ⟨by (with_reducible repeat (first | refine blk_drewN ?_ _ | refine blk_drew ?_ | refine blk_alloc ?_ _)); refine blk_far ?_ NB280_299.out _; (with_reducible repeat (first | refine blk_drewN ?_ _ | refine blk_drew ?_ | refine blk_alloc ?_ _)); refine blk_far ?_ NB280_299.out _; (with_reducible repeat (first | refine blk_drewN ?_ _ | refine blk_drew ?_ | refine blk_alloc ?_ _)); refine blk_far ?_ NB280_299.out _; (with_reducible repeat (first | refine blk_drewN ?_ _ | refine blk_drew ?_ | refine blk_alloc ?_ _)); refine blk_far ?_ NB280_299.out _; (with_reducible repeat (first | refine blk_drewN ?_ _ | refine blk_drew ?_ | refine blk_alloc ?_ _)); exact BK280.out⟩, ⟨by (with_reducible repeat (first | refine blk_drewN ?_ _ | refine blk_drew ?_ | refine blk_alloc ?_ _)); refine blk_far ?_ NB289_299.out _; (with_reducible repeat (first | refine blk_drewN ?_ _ | refine blk_drew ?_ | refine blk_alloc ?_ _)); refine blk_far ?_ NB289_299.out _; (with_reducible repeat (first | refine blk_drewN ?_ _ | refine blk_drew ?_ | refine blk_alloc ?_ _)); refine blk_far ?_ NB289_299.out _; (with_reducible repeat (first | refine blk_drewN ?_ _ | refine blk_drew ?_ | refine blk_alloc ?_ _)); refine blk_far ?_ NB289_299.out _; (with_reducible repeat (first | refine blk_drewN ?_ _ | refine blk_drew ?_ | refine blk_alloc ?_ _)); exact BK289.out⟩, ⟨by (with_reducible repeat (first | refine blk_drewN ?_ _ | refine blk_drew ?_ | refine blk_alloc ?_ _)); refine blk_far ?_ NB298_299.out _; (with_reducible repeat (first | refine blk_drewN ?_ _ | refine blk_drew ?_ | refine blk_alloc ?_ _)); refine blk_far ?_ NB298_299.out _; (with_reducible repeat (first | refine blk_drewN ?_ _ | refine blk_drew ?_ | refine blk_alloc ?_ _)); refine blk_far ?_ NB298_299.out _; (with_reducible repeat (first | refine blk_drewN ?_ _ | refine blk_drew ?_ | refine blk_alloc ?_ _)); refine blk_far ?_ NB298_299.out _; (with_reducible repeat (first | refine blk_drewN ?_ _ | refine blk_drew ?_ | refine blk_alloc ?_ _)); exact BK298.out⟩, ⟨by (with_reducible repeat (first | refine blk_drewN ?_ _ | refine blk_drew ?_ | refine blk_alloc ?_ _)); refine blk_put (cs := #[.bool true, .slice Ao17 t273.length co17, .bool t276, .slice none 0 0]) ?_ 3 _ rfl; (with_reducible repeat (first | refine blk_drewN ?_ _ | refine blk_drew ?_ | refine blk_alloc ?_ _)); refine blk_put (cs := #[.bool true, .slice Ao17 t273.length co17, .bool false, .slice none 0 0]) ?_ 2 _ rfl; (with_reducible repeat (first | refine blk_drewN ?_ _ | refine blk_drew ?_ | refine blk_alloc ?_ _)); refine blk_put (cs := #[.bool true, .slice none 0 0, .bool false, .slice none 0 0]) ?_ 1 _ rfl; (with_reducible repeat (first | refine blk_drewN ?_ _ | refine blk_drew ?_ | refine blk_alloc ?_ _)); refine blk_put (cs := #[.bool false, .slice none 0 0, .bool false, .slice none 0 0]) ?_ 0 _ rfl; (with_reducible repeat (first | refine blk_drewN ?_ _ | refine blk_drew ?_ | refine blk_alloc ?_ _)); exact BK299.out⟩, ⟨by repeat (first | (with_reducible first | exact HB.out | apply below_alloc | apply pw_below_drewN | apply below_drew1 | refine below_set ?_ GE280.out | refine below_set ?_ GE289.out | refine below_set ?_ GE298.out | refine below_set ?_ GE299.out) | exact HB.out)⟩⟩
              · replace c39 := Bool.eq_false_iff.mpr c39
                subst c39
                have H1 : (glacislaw10_CspparseFirst.j1 kj3 a0 t271 false t273 t276 t277 t281 t282 t285 t286 t290 t291 t294 t295 t281 t282 t276 t277) = some r := by rw [if_neg (show ¬ (false = true) by decide)] at H; exact H
                clear H
                have H := H1
                clear H1
                have H' := Aside0.mk H
                clear H
                have hnb40 := NB289_280.out
                have hnc40 := NB280_289.out
                have hnb41 := NB289_298.out
                have hnc41 := NB298_289.out
                have hnb42 := NB289_299.out
                have hnc42 := NB299_289.out
                have hcz43_0 : w33.cell? ⟨gb289, 0, none⟩ = some (.bool t281) := (blk_cell BK289.out 0).trans rfl
                have hcz43_1 : w33.cell? ⟨gb289, 1, none⟩ = some (.slice Ao23 t282.length co23) := (blk_cell BK289.out 1).trans rfl
                have hcz43_2 : w33.cell? ⟨gb289, 2, none⟩ = some (.bool t285) := (blk_cell BK289.out 2).trans rfl
                have hcz43_3 : w33.cell? ⟨gb289, 3, none⟩ = some (.slice Ao24 t286.length co24) := (blk_cell BK289.out 3).trans rfl
                have hfz43_0 := blk_frozen BK289.out 0
                have hfz43_1 := blk_frozen BK289.out 1
                have hfz43_2 := blk_frozen BK289.out 2
                have hfz43_3 := blk_frozen BK289.out 3
                have hnb44 := NB299_280.out
                have hnc44 := NB280_299.out
                have hnb45 := NB299_298.out
                have hnc45 := NB298_299.out
                have hcz46_0 : w33.cell? ⟨gb299, 0, none⟩ = some (.bool false) := (blk_cell BK299.out 0).trans rfl
                have hcz46_1 : w33.cell? ⟨gb299, 1, none⟩ = some (.slice none 0 0) := (blk_cell BK299.out 1).trans rfl
                have hcz46_2 : w33.cell? ⟨gb299, 2, none⟩ = some (.bool false) := (blk_cell BK299.out 2).trans rfl
                have hcz46_3 : w33.cell? ⟨gb299, 3, none⟩ = some (.slice none 0 0) := (blk_cell BK299.out 3).trans rfl
                have hfz46_0 := blk_frozen BK299.out 0
                have hfz46_1 := blk_frozen BK299.out 1
                have hfz46_2 := blk_frozen BK299.out 2
                have hfz46_3 := blk_frozen BK299.out 3
                go_wp2
                go_meet
                case rel => exact ⟨_, (t281), (t282), (.slice Ao23 t282.length co23), H', ⟨by have := HJ3.out; first | omega | exact Nat.le_refl _⟩, ⟨by (with_reducible repeat (first | apply Kd.Q_alloc | apply Kd.Q_drewN | apply Kd.Q_drew)); exact Kd.Q_mono (Kd.Q_far (p := ⟨gb299, 1, none⟩) (Kd.Q_far (p := ⟨gb299, 0, none⟩) (Kd.Q_far (p := ⟨gb299, 3, none⟩) (Kd.Q_far (p := ⟨gb299, 2, none⟩) (Kd.Q_far (p := ⟨gb299, 1, none⟩) (Kd.Q_far (p := ⟨gb299, 0, none⟩) (Kd.Q_types HO275.out BK299.out (by decide)) (fun _ hk => hk.2) (.bool false)) (fun _ hk => hk.2) (.slice Ao17 t273.length co17)) (fun _ hk => hk.2) (.bool t276)) (fun _ hk => hk.2) (.slice Ao18 t277.length co18)) (fun _ hk => hk.2) (.bool t281)) (fun _ hk => hk.2) (.slice Ao23 t282.length co23)) (fun _ _ => trivial)⟩, ⟨by (with_reducible repeat (first | apply Kd.Q_alloc | apply Kd.Q_drewN | apply Kd.Q_drew)); exact Kd.Q_mono (Kd.Q_far (p := ⟨gb299, 1, none⟩) (Kd.Q_far (p := ⟨gb299, 0, none⟩) (Kd.Q_far (p := ⟨gb299, 3, none⟩) (Kd.Q_far (p := ⟨gb299, 2, none⟩) (Kd.Q_far (p := ⟨gb299, 1, none⟩) (Kd.Q_far (p := ⟨gb299, 0, none⟩) (Kd.Q_types HO279.out BK299.out (by decide)) (fun _ hk => hk.2) (.bool false)) (fun _ hk => hk.2) (.slice Ao17 t273.length co17)) (fun _ hk => hk.2) (.bool t276)) (fun _ hk => hk.2) (.slice Ao18 t277.length co18)) (fun _ hk => hk.2) (.bool t281)) (fun _ hk => hk.2) (.slice Ao23 t282.length co23)) (fun _ _ => trivial)⟩, ⟨by (with_reducible repeat (first | apply Kd.Q_alloc | apply Kd.Q_drewN | apply Kd.Q_drew)); exact Kd.Q_mono (Kd.Q_far (p := ⟨gb299, 1, none⟩) (Kd.Q_far (p := ⟨gb299, 0, none⟩) (Kd.Q_far (p := ⟨gb299, 3, none⟩) (Kd.Q_far (p := ⟨gb299, 2, none⟩) (Kd.Q_far (p := ⟨gb299, 1, none⟩) (Kd.Q_far (p := ⟨gb299, 0, none⟩) (Kd.Q_types HO284.out BK299.out (by decide)) (fun _ hk => hk.2) (.bool false)) (fun _ hk => hk.2) (.slice Ao17 t273.length co17)) (fun _ hk => hk.2) (.bool t276)) (fun _ hk => hk.2) (.slice Ao18 t277.length co18)) (fun _ hk => hk.2) (.bool t281)) (fun _ hk => hk.2) (.slice Ao23 t282.length co23)) (fun _ _ => trivial)⟩, ⟨by (with_reducible repeat (first | apply Kd.Q_alloc | apply Kd.Q_drewN | apply Kd.Q_drew)); exact Kd.Q_mono (Kd.Q_far (p := ⟨gb299, 1, none⟩) (Kd.Q_far (p := ⟨gb299, 0, none⟩) (Kd.Q_far (p := ⟨gb299, 3, none⟩) (Kd.Q_far (p := ⟨gb299, 2, none⟩) (Kd.Q_far (p := ⟨gb299, 1, none⟩) (Kd.Q_far (p := ⟨gb299, 0, none⟩) (Kd.Q_types HO288.out BK299.out (by decide)) (fun _ hk => hk.2) (.bool false)) (fun _ hk => hk.2) (.slice Ao17 t273.length co17)) (fun _ hk => hk.2) (.bool t276)) (fun _ hk => hk.2) (.slice Ao18 t277.length co18)) (fun _ hk => hk.2) (.bool t281)) (fun _ hk => hk.2) (.slice Ao23 t282.length co23)) (fun _ _ => trivial)⟩, ⟨by (with_reducible repeat (first | apply Kd.Q_alloc | apply Kd.Q_drewN | apply Kd.Q_drew)); exact Kd.Q_mono (Kd.Q_far (p := ⟨gb299, 1, none⟩) (Kd.Q_far (p := ⟨gb299, 0, none⟩) (Kd.Q_far (p := ⟨gb299, 3, none⟩) (Kd.Q_far (p := ⟨gb299, 2, none⟩) (Kd.Q_far (p := ⟨gb299, 1, none⟩) (Kd.Q_far (p := ⟨gb299, 0, none⟩) (Kd.Q_types HO293.out BK299.out (by decide)) (fun _ hk => hk.2) (.bool false)) (fun _ hk => hk.2) (.slice Ao17 t273.length co17)) (fun _ hk => hk.2) (.bool t276)) (fun _ hk => hk.2) (.slice Ao18 t277.length co18)) (fun _ hk => hk.2) (.bool t281)) (fun _ hk => hk.2) (.slice Ao23 t282.length co23)) (fun _ _ => trivial)⟩, ⟨by (with_reducible repeat (first | apply Kd.Q_alloc | apply Kd.Q_drewN | apply Kd.Q_drew)); exact Kd.Q_mono (Kd.Q_far (p := ⟨gb299, 1, none⟩) (Kd.Q_far (p := ⟨gb299, 0, none⟩) (Kd.Q_far (p := ⟨gb299, 3, none⟩) (Kd.Q_far (p := ⟨gb299, 2, none⟩) (Kd.Q_far (p := ⟨gb299, 1, none⟩) (Kd.Q_far (p := ⟨gb299, 0, none⟩) (Kd.Q_types HO297.out BK299.out (by decide)) (fun _ hk => hk.2) (.bool false)) (fun _ hk => hk.2) (.slice Ao17 t273.length co17)) (fun _ hk => hk.2) (.bool t276)) (fun _ hk => hk.2) (.slice Ao18 t277.length co18)) (fun _ hk => hk.2) (.bool t281)) (fun _ hk => hk.2) (.slice Ao23 t282.length co23)) (fun _ _ => trivial)⟩, ⟨by (with_reducible repeat (first | apply Kd.Q_alloc | apply Kd.Q_drewN | apply Kd.Q_drew)); exact Kd.Q_mono (Kd.Q_far (p := ⟨gb299, 1, none⟩) (Kd.Q_far (p := ⟨gb299, 0, none⟩) (Kd.Q_far (p := ⟨gb299, 3, none⟩) (Kd.Q_far (p := ⟨gb299, 2, none⟩) (Kd.Q_far (p := ⟨gb299, 1, none⟩) (Kd.Q_far (p := ⟨gb299, 0, none⟩) (Kd.Q_types HO284.out BK299.out (by decide)) (fun _ hk => hk.2) (.bool false)) (fun _ hk => hk.2) (.slice Ao17 t273.length co17)) (fun _ hk => hk.2) (.bool t276)) (fun _ hk => hk.2) (.slice Ao18 t277.length co18)) (fun _ hk => hk.2) (.bool t281)) (fun _ hk => hk.2) (.slice Ao23 t282.length co23)) (fun _ _ => trivial)⟩, ⟨by (with_reducible repeat (first | apply Kd.Q_alloc | apply Kd.Q_drewN | apply Kd.Q_drew)); exact Kd.Q_mono (Kd.Q_far (p := ⟨gb299, 1, none⟩) (Kd.Q_far (p := ⟨gb299, 0, none⟩) (Kd.Q_far (p := ⟨gb299, 3, none⟩) (Kd.Q_far (p := ⟨gb299, 2, none⟩) (Kd.Q_far (p := ⟨gb299, 1, none⟩) (Kd.Q_far (p := ⟨gb299, 0, none⟩) (Kd.Q_types HO279.out BK299.out (by decide)) (fun _ hk => hk.2) (.bool false)) (fun _ hk => hk.2) (.slice Ao17 t273.length co17)) (fun _ hk => hk.2) (.bool t276)) (fun _ hk => hk.2) (.slice Ao18 t277.length co18)) (fun _ hk => hk.2) (.bool t281)) (fun _ hk => hk.2) (.slice Ao23 t282.length co23)) (fun _ _ => trivial)⟩, ⟨by (with_reducible repeat (first | refine blk_drewN ?_ _ | refine blk_drew ?_ | refine blk_alloc ?_ _)); refine blk_far ?_ NB280_299.out _; (with_reducible repeat (first | refine blk_drewN ?_ _ | refine blk_drew ?_ | refine blk_alloc ?_ _)); refine blk_far ?_ NB280_299.out _; (with_reducible repeat (first | refine blk_drewN ?_ _ | refine blk_drew ?_ | refine blk_alloc ?_ _)); refine blk_far ?_ NB280_299.out _; (with_reducible repeat (first | refine blk_drewN ?_ _ | refine blk_drew ?_ | refine blk_alloc ?_ _)); refine blk_far ?_ NB280_299.out _; (with_reducible repeat (first | refine blk_drewN ?_ _ | refine blk_drew ?_ | refine blk_alloc ?_ _)); refine blk_far ?_ NB280_299.out _; (with_reducible repeat (first | refine blk_drewN ?_ _ | refine blk_drew ?_ | refine blk_alloc ?_ _)); refine blk_far ?_ NB280_299.out _; (with_reducible repeat (first | refine blk_drewN ?_ _ | refine blk_drew ?_ | refine blk_alloc ?_ _)); exact BK280.out⟩, ⟨by (with_reducible repeat (first | refine blk_drewN ?_ _ | refine blk_drew ?_ | refine blk_alloc ?_ _)); refine blk_far ?_ NB289_299.out _; (with_reducible repeat (first | refine blk_drewN ?_ _ | refine blk_drew ?_ | refine blk_alloc ?_ _)); refine blk_far ?_ NB289_299.out _; (with_reducible repeat (first | refine blk_drewN ?_ _ | refine blk_drew ?_ | refine blk_alloc ?_ _)); refine blk_far ?_ NB289_299.out _; (with_reducible repeat (first | refine blk_drewN ?_ _ | refine blk_drew ?_ | refine blk_alloc ?_ _)); refine blk_far ?_ NB289_299.out _; (with_reducible repeat (first | refine blk_drewN ?_ _ | refine blk_drew ?_ | refine blk_alloc ?_ _)); refine blk_far ?_ NB289_299.out _; (with_reducible repeat (first | refine blk_drewN ?_ _ | refine blk_drew ?_ | refine blk_alloc ?_ _)); refine blk_far ?_ NB289_299.out _; (with_reducible repeat (first | refine blk_drewN ?_ _ | refine blk_drew ?_ | refine blk_alloc ?_ _)); exact BK289.out⟩, ⟨by (with_reducible repeat (first | refine blk_drewN ?_ _ | refine blk_drew ?_ | refine blk_alloc ?_ _)); refine blk_far ?_ NB298_299.out _; (with_reducible repeat (first | refine blk_drewN ?_ _ | refine blk_drew ?_ | refine blk_alloc ?_ _)); refine blk_far ?_ NB298_299.out _; (with_reducible repeat (first | refine blk_drewN ?_ _ | refine blk_drew ?_ | refine blk_alloc ?_ _)); refine blk_far ?_ NB298_299.out _; (with_reducible repeat (first | refine blk_drewN ?_ _ | refine blk_drew ?_ | refine blk_alloc ?_ _)); refine blk_far ?_ NB298_299.out _; (with_reducible repeat (first | refine blk_drewN ?_ _ | refine blk_drew ?_ | refine blk_alloc ?_ _)); refine blk_far ?_ NB298_299.out _; (with_reducible repeat (first | refine blk_drewN ?_ _ | refine blk_drew ?_ | refine blk_alloc ?_ _)); refine blk_far ?_ NB298_299.out _; (with_reducible repeat (first | refine blk_drewN ?_ _ | refine blk_drew ?_ | refine blk_alloc ?_ _)); exact BK298.out⟩, ⟨by (with_reducible repeat (first | refine blk_drewN ?_ _ | refine blk_drew ?_ | refine blk_alloc ?_ _)); refine blk_put (cs := #[.bool t281, .slice Ao17 t273.length co17, .bool t276, .slice Ao18 t277.length co18]) ?_ 1 _ rfl; (with_reducible repeat (first | refine blk_drewN ?_ _ | refine blk_drew ?_ | refine blk_alloc ?_ _)); refine blk_put (cs := #[.bool false, .slice Ao17 t273.length co17, .bool t276, .slice Ao18 t277.length co18]) ?_ 0 _ rfl; (with_reducible repeat (first | refine blk_drewN ?_ _ | refine blk_drew ?_ | refine blk_alloc ?_ _)); refine blk_put (cs := #[.bool false, .slice Ao17 t273.length co17, .bool t276, .slice none 0 0]) ?_ 3 _ rfl; (with_reducible repeat (first | refine blk_drewN ?_ _ | refine blk_drew ?_ | refine blk_alloc ?_ _)); refine blk_put (cs := #[.bool false, .slice Ao17 t273.length co17, .bool false, .slice none 0 0]) ?_ 2 _ rfl; (with_reducible repeat (first | refine blk_drewN ?_ _ | refine blk_drew ?_ | refine blk_alloc ?_ _)); refine blk_put (cs := #[.bool false, .slice none 0 0, .bool false, .slice none 0 0]) ?_ 1 _ rfl; (with_reducible repeat (first | refine blk_drewN ?_ _ | refine blk_drew ?_ | refine blk_alloc ?_ _)); refine blk_put (cs := #[.bool false, .slice none 0 0, .bool false, .slice none 0 0]) ?_ 0 _ rfl; (with_reducible repeat (first | refine blk_drewN ?_ _ | refine blk_drew ?_ | refine blk_alloc ?_ _)); exact BK299.out⟩, ⟨by repeat (first | (with_reducible first | exact HB.out | apply below_alloc | apply pw_below_drewN | apply below_drew1 | refine below_set ?_ GE280.out | refine below_set ?_ GE289.out | refine below_set ?_ GE298.out | refine below_set ?_ GE299.out) | exact HB.out)⟩⟩
            case rest =>
              clear HC13
              try clear c1
              try clear c2
              try clear p2
              try clear c3
              try clear c4
              try clear c6
              try clear c6b0
              try clear c6b1
              try clear c7
              try clear c9
              try clear c10
              try clear c10b0
              try clear c10b1
              try clear c10b2
              try clear c11
              try clear c11b0
              try clear c11b1
              try clear c11b2
              try clear c21
              try clear c27
              try clear c28
              try clear c34
              try clear c35
              try clear c36
              try clear c39
              try clear c40
              try clear c41
              try clear c42
              try clear c44
              try clear c45
              try clear hcz16_0
              try clear hcz16_1
              try clear hcz16_2
              try clear hcz16_3
              try clear hcz22_0
              try clear hcz22_1
              try clear hcz22_2
              try clear hcz22_3
              try clear hcz29_0
              try clear hcz29_1
              try clear hcz29_2
              try clear hcz29_3
              try clear hcz32_0
              try clear hcz32_1
              try clear hcz32_2
              try clear hcz32_3
              try clear hcz37_0
              try clear hcz37_1
              try clear hcz37_2
              try clear hcz37_3
              try clear hcz38_0
              try clear hcz38_1
              try clear hcz38_2
              try clear hcz38_3
              try clear hcz43_0
              try clear hcz43_1
              try clear hcz43_2
              try clear hcz43_3
              try clear hcz46_0
              try clear hcz46_1
              try clear hcz46_2
              try clear hcz46_3
              try clear hfz16_0
              try clear hfz16_1
              try clear hfz16_2
              try clear hfz16_3
              try clear hfz22_0
              try clear hfz22_1
              try clear hfz22_2
              try clear hfz22_3
              try clear hfz29_0
              try clear hfz29_1
              try clear hfz29_2
              try clear hfz29_3
              try clear hfz32_0
              try clear hfz32_1
              try clear hfz32_2
              try clear hfz32_3
              try clear hfz37_0
              try clear hfz37_1
              try clear hfz37_2
              try clear hfz37_3
              try clear hfz38_0
              try clear hfz38_1
              try clear hfz38_2
              try clear hfz38_3
              try clear hfz43_0
              try clear hfz43_1
              try clear hfz43_2
              try clear hfz43_3
              try clear hfz46_0
              try clear hfz46_1
              try clear hfz46_2
              try clear hfz46_3
              try clear p2
              obtain ⟨kq, x300000_12, x300001_12, u300001, HA, HJ12, HO_281001, HO_281003, HO_290001, HO_290003, HO_299001, HO_299003, HO_300001, HO_300003, BK280, BK289, BK298, BK299, HB⟩ := hcut
              cases kq with
              | zero => exact absurd HA.out (by simp [glacislaw10_CspparseFirst.j1])
              | succ kj12 =>
                have H := HA.out
                clear HA
                simp only [glacislaw10_CspparseFirst.j1] at H
                by_cases c47 : t276 = true
                · subst c47
                  have H1 : ((glacisref10_SameOne.f kj12 t290 t291 t294 t295 x300000_12 x300001_12 true t277).bind fun t300 => (if 10 + a0.size ≤ 9223372036854775807 then ((cspparse_One.f ((⟨#[105, 109, 103, 45, 115, 114, 99, 32, 120, 59]⟩ : ByteArray) ++ a0)).bind fun bt301 => ((glacisref10_SameOne.f kj12 bt301.1 bt301.2.1 bt301.2.2.1 bt301.2.2.2 t272 t273 true t277).bind fun t309 => (if t271 = true then (if t300 = true then (some t309) else (none)) else (none)))) else (none))) = some r := by rw [if_pos rfl] at H; exact H
                  clear H
                  have H := H1
                  clear H1
                  replace H := Option.bind_eq_some_iff.mp H
                  obtain ⟨t300, A480, H⟩ := H
                  replace H : (if 10 + a0.size ≤ 9223372036854775807 then ((cspparse_One.f ((⟨#[105, 109, 103, 45, 115, 114, 99, 32, 120, 59]⟩ : ByteArray) ++ a0)).bind fun bt301 => ((glacisref10_SameOne.f kj12 bt301.1 bt301.2.1 bt301.2.2.1 bt301.2.2.2 t272 t273 true t277).bind fun t309 => (if t271 = true then (if t300 = true then (some t309) else (none)) else (none)))) else (none)) = some r := H
                  have A48 := Aside0.mk A480
                  clear A480
                  by_cases c49 : 10 + a0.size ≤ 9223372036854775807
                  · rw [if_pos c49] at H
                    have c49b0 := eq_true c49
                    have c49b1 : decide (10 + a0.size ≤ 9223372036854775807) = true := decide_eq_true c49
                    try have c49b2 : (9223372036854775807 < 10 + a0.size) = False := eq_false (Nat.not_lt.2 c49)
                    replace H := Option.bind_eq_some_iff.mp H
                    obtain ⟨⟨t301, t302, t305, t306⟩, A500, H⟩ := H
                    replace H : ((glacisref10_SameOne.f kj12 t301 t302 t305 t306 t272 t273 true t277).bind fun t309 => (if t271 = true then (if t300 = true then (some t309) else (none)) else (none))) = some r := H
                    have A50 := Aside0.mk A500
                    clear A500
                    replace H := Option.bind_eq_some_iff.mp H
                    obtain ⟨t309, A510, H⟩ := H
                    replace H : (if t271 = true then (if t300 = true then (some t309) else (none)) else (none)) = some r := H
                    have A51 := Aside0.mk A510
                    clear A510
                    by_cases c52 : t271 = true
                    · subst c52
                      have H1 : (if t300 = true then (some t309) else (none)) = some r := by rw [if_pos rfl] at H; exact H
                      clear H
                      have H := H1
                      clear H1
                      by_cases c53 : t300 = true
                      · subst c53
                        have H1 : (some t309) = some r := by rw [if_pos rfl] at H; exact H
                        clear H
                        have H := H1
                        clear H1
                        obtain rfl := Option.some.inj H
                        have hnb54 := NB280_289.out
                        have hnc54 := NB289_280.out
                        have hnb55 := NB280_298.out
                        have hnc55 := NB298_280.out
                        have hnb56 := NB280_299.out
                        have hnc56 := NB299_280.out
                        have hcz57_0 : wc.cell? ⟨gb280, 0, none⟩ = some (.bool t272) := (blk_cell BK280.out 0).trans rfl
                        have hcz57_1 : wc.cell? ⟨gb280, 1, none⟩ = some (.slice Ao17 t273.length co17) := (blk_cell BK280.out 1).trans rfl
                        have hcz57_2 : wc.cell? ⟨gb280, 2, none⟩ = some (.bool true) := (blk_cell BK280.out 2).trans rfl
                        have hcz57_3 : wc.cell? ⟨gb280, 3, none⟩ = some (.slice Ao18 t277.length co18) := (blk_cell BK280.out 3).trans rfl
                        have hfz57_0 := blk_frozen BK280.out 0
                        have hfz57_1 := blk_frozen BK280.out 1
                        have hfz57_2 := blk_frozen BK280.out 2
                        have hfz57_3 := blk_frozen BK280.out 3
                        have hnb58 := NB298_289.out
                        have hnc58 := NB289_298.out
                        have hnb59 := NB298_299.out
                        have hnc59 := NB299_298.out
                        have hcz60_0 : wc.cell? ⟨gb298, 0, none⟩ = some (.bool t290) := (blk_cell BK298.out 0).trans rfl
                        have hcz60_1 : wc.cell? ⟨gb298, 1, none⟩ = some (.slice Ao30 t291.length co30) := (blk_cell BK298.out 1).trans rfl
                        have hcz60_2 : wc.cell? ⟨gb298, 2, none⟩ = some (.bool t294) := (blk_cell BK298.out 2).trans rfl
                        have hcz60_3 : wc.cell? ⟨gb298, 3, none⟩ = some (.slice Ao31 t295.length co31) := (blk_cell BK298.out 3).trans rfl
                        have hfz60_0 := blk_frozen BK298.out 0
                        have hfz60_1 := blk_frozen BK298.out 1
                        have hfz60_2 := blk_frozen BK298.out 2
                        have hfz60_3 := blk_frozen BK298.out 3
                        have hnb61 := NB299_289.out
                        have hnc61 := NB289_299.out
                        have hcz62_0 : wc.cell? ⟨gb299, 0, none⟩ = some (.bool x300000_12) := (blk_cell BK299.out 0).trans rfl
                        have hcz62_1 : wc.cell? ⟨gb299, 1, none⟩ = some (u300001) := (blk_cell BK299.out 1).trans rfl
                        have hcz62_2 : wc.cell? ⟨gb299, 2, none⟩ = some (.bool true) := (blk_cell BK299.out 2).trans rfl
                        have hcz62_3 : wc.cell? ⟨gb299, 3, none⟩ = some (.slice Ao18 t277.length co18) := (blk_cell BK299.out 3).trans rfl
                        have hfz62_0 := blk_frozen BK299.out 0
                        have hfz62_1 := blk_frozen BK299.out 1
                        have hfz62_2 := blk_frozen BK299.out 2
                        have hfz62_3 := blk_frozen BK299.out 3
                        obtain ⟨Ao63, co63, eo63, _⟩ := Kd.Q_slice HO_300001.out
                        subst eo63
                        try go_wp2_with (first | ((with_reducible refine gate_callee (f := 10) rfl ?_); refine goesL_ (some 52) rfl rfl Tryd.func10 (by kernel_rfl) rfl #[.agg #[.bool t290, .slice Ao30 t291.length co30, .bool t294, .slice Ao31 t295.length co31], .agg #[.bool x300000_12, .slice Ao63 x300001_12.length co63, .bool true, .slice Ao18 t277.length co18]] rfl (by (try simp only [List.map_toArray, List.map_cons, List.map_nil]); first | done | rfl | (simp only [List.length_drop, List.length_take]; rfl)) ?_; (with_reducible refine (glacisref10_SameOne.calls kj12 t290 _ _ t291 t294 _ _ t295 x300000_12 _ _ x300001_12 true _ _ t277 true _ ?side1 ?side2 ?side3 ?side4 ?side5 ?side6 ?side7 ?side8 A48.out).mono ?_); (case side1 => repeat (first | exact (Kd.Q_reads' HO_299001.out).2.2 | (with_reducible refine Kd.C_alloc ?_ _) | (with_reducible refine Kd.C_drewN ?_ _) | (with_reducible refine Kd.C_drew ?_))); (case side2 => exact (Kd.Q_reads' HO_299001.out).2.1); (case side3 => repeat (first | exact (Kd.Q_reads' HO_299003.out).2.2 | (with_reducible refine Kd.C_alloc ?_ _) | (with_reducible refine Kd.C_drewN ?_ _) | (with_reducible refine Kd.C_drew ?_))); (case side4 => exact (Kd.Q_reads' HO_299003.out).2.1); (case side5 => repeat (first | exact (Kd.Q_reads' HO_300001.out).2.2 | (with_reducible refine Kd.C_alloc ?_ _) | (with_reducible refine Kd.C_drewN ?_ _) | (with_reducible refine Kd.C_drew ?_))); (case side6 => exact (Kd.Q_reads' HO_300001.out).2.1); (case side7 => repeat (first | exact (Kd.Q_reads' HO_300003.out).2.2 | (with_reducible refine Kd.C_alloc ?_ _) | (with_reducible refine Kd.C_drewN ?_ _) | (with_reducible refine Kd.C_drew ?_))); (case side8 => exact (Kd.Q_reads' HO_300003.out).2.1); rintro e w64 ⟨rfl, hb⟩; refine ⟨_, rfl, ?_⟩; have n0_ := Aside0.mk (Kd.Q_below (by (with_reducible repeat (first | apply Kd.Q_alloc | apply Kd.Q_drewN | apply Kd.Q_drew)); exact HO_281001.out) hb); have n1_ := Aside0.mk (Kd.Q_below (by (with_reducible repeat (first | apply Kd.Q_alloc | apply Kd.Q_drewN | apply Kd.Q_drew)); exact HO_281003.out) hb); have n2_ := Aside0.mk (Kd.Q_below (by (with_reducible repeat (first | apply Kd.Q_alloc | apply Kd.Q_drewN | apply Kd.Q_drew)); exact HO_290001.out) hb); have n3_ := Aside0.mk (Kd.Q_below (by (with_reducible repeat (first | apply Kd.Q_alloc | apply Kd.Q_drewN | apply Kd.Q_drew)); exact HO_290003.out) hb); have n4_ := Aside0.mk (Kd.Q_below (by (with_reducible repeat (first | apply Kd.Q_alloc | apply Kd.Q_drewN | apply Kd.Q_drew)); exact HO_299001.out) hb); have n5_ := Aside0.mk (Kd.Q_below (by (with_reducible repeat (first | apply Kd.Q_alloc | apply Kd.Q_drewN | apply Kd.Q_drew)); exact HO_299003.out) hb); have n6_ := Aside0.mk (Kd.Q_below (by (with_reducible repeat (first | apply Kd.Q_alloc | apply Kd.Q_drewN | apply Kd.Q_drew)); exact HO_300001.out) hb); have n7_ := Aside0.mk (Kd.Q_below (by (with_reducible repeat (first | apply Kd.Q_alloc | apply Kd.Q_drewN | apply Kd.Q_drew)); exact HO_300003.out) hb); have n8_ := Aside0.mk (blk_below (g := gb280) (o := .cells #[.bool t272, .slice Ao17 t273.length co17, .bool true, .slice Ao18 t277.length co18] 26 (0, 0)) (by (with_reducible repeat (first | refine blk_drewN ?_ _ | refine blk_drew ?_ | refine blk_alloc ?_ _)); exact BK280.out) hb); have n9_ := Aside0.mk (blk_below (g := gb289) (o := .cells #[.bool t281, .slice Ao23 t282.length co23, .bool t285, .slice Ao24 t286.length co24] 26 (0, 0)) (by (with_reducible repeat (first | refine blk_drewN ?_ _ | refine blk_drew ?_ | refine blk_alloc ?_ _)); exact BK289.out) hb); have n10_ := Aside0.mk (blk_below (g := gb298) (o := .cells #[.bool t290, .slice Ao30 t291.length co30, .bool t294, .slice Ao31 t295.length co31] 26 (0, 0)) (by (with_reducible repeat (first | refine blk_drewN ?_ _ | refine blk_drew ?_ | refine blk_alloc ?_ _)); exact BK298.out) hb); have n11_ := Aside0.mk (blk_below (g := gb299) (o := .cells #[.bool x300000_12, .slice Ao63 x300001_12.length co63, .bool true, .slice Ao18 t277.length co18] 26 (0, 0)) (by (with_reducible repeat (first | refine blk_drewN ?_ _ | refine blk_drew ?_ | refine blk_alloc ?_ _)); exact BK299.out) hb); have n12_ := Aside0.mk (below_step (by repeat (first | (with_reducible first | exact HB.out | apply below_alloc | apply pw_below_drewN | apply below_drew1 | refine below_set ?_ GE280.out | refine below_set ?_ GE289.out | refine below_set ?_ GE298.out | refine below_set ?_ GE299.out) | exact HB.out)) hb); clear HO_281001; clear HO_281003; clear HO_290001; clear HO_290003; clear HO_299001; clear HO_299003; clear HO_300001; clear HO_300003; clear BK280; clear BK289; clear BK298; clear BK299; clear HB; have HO_281001 := n0_; have HO_281003 := n1_; have HO_290001 := n2_; have HO_290003 := n3_; have HO_299001 := n4_; have HO_299003 := n5_; have HO_300001 := n6_; have HO_300003 := n7_; have BK280 := n8_; have BK289 := n9_; have BK298 := n10_; have BK299 := n11_; have HB := n12_; clear n0_ n1_ n2_ n3_ n4_ n5_ n6_ n7_ n8_ n9_ n10_ n11_ n12_; (try clear hb); (try clear hb2); (try clear hk); (try clear hi)))
                        have n0_ := Aside0.mk (Kd.Q_drew HO_281001.out)
                        have n1_ := Aside0.mk (Kd.Q_drew HO_281003.out)
                        have n2_ := Aside0.mk (Kd.Q_drew HO_290001.out)
                        have n3_ := Aside0.mk (Kd.Q_drew HO_290003.out)
                        have n4_ := Aside0.mk (Kd.Q_drew HO_299001.out)
                        have n5_ := Aside0.mk (Kd.Q_drew HO_299003.out)
                        have n6_ := Aside0.mk (Kd.Q_drew HO_300001.out)
                        have n7_ := Aside0.mk (Kd.Q_drew HO_300003.out)
                        have n8_ := Aside0.mk (blk_drew BK280.out)
                        have n9_ := Aside0.mk (blk_drew BK289.out)
                        have n10_ := Aside0.mk (blk_drew BK298.out)
                        have n11_ := Aside0.mk (blk_drew BK299.out)
                        have n12_ := Aside0.mk (below_drew1 HB.out)
                        clear HO_281001
                        clear HO_281003
                        clear HO_290001
                        clear HO_290003
                        clear HO_299001
                        clear HO_299003
                        clear HO_300001
                        clear HO_300003
                        clear BK280
                        clear BK289
                        clear BK298
                        clear BK299
                        clear HB
                        have HO_281001 := n0_
                        have HO_281003 := n1_
                        have HO_290001 := n2_
                        have HO_290003 := n3_
                        have HO_299001 := n4_
                        have HO_299003 := n5_
                        have HO_300001 := n6_
                        have HO_300003 := n7_
                        have BK280 := n8_
                        have BK289 := n9_
                        have BK298 := n10_
                        have BK299 := n11_
                        have HB := n12_
                        clear n0_ n1_ n2_ n3_ n4_ n5_ n6_ n7_ n8_ n9_ n10_ n11_ n12_
                        refine start_ (n := 6) (S := fun w' => w'.cell? ⟨gb280, 0, none⟩ = some (.bool t272) ∧ w'.cell? ⟨gb280, 1, none⟩ = some (.slice Ao17 t273.length co17) ∧ w'.cell? ⟨gb280, 2, none⟩ = some (.bool true) ∧ w'.cell? ⟨gb280, 3, none⟩ = some (.slice Ao18 t277.length co18)) (ds := []) #[false, false, false, false, false, false] (by kernel_rfl) rfl rfl ⟨(blk_cell BK280.out 0).trans rfl, (blk_cell BK280.out 1).trans rfl, (blk_cell BK280.out 2).trans rfl, (blk_cell BK280.out 3).trans rfl⟩ (fun hHeld => ?_)
                        generalize w64.drew = w65 at HO_281001 HO_281003 HO_290001 HO_290003 HO_299001 HO_299003 HO_300001 HO_300003 BK280 BK289 BK298 BK299 HB hHeld ⊢
                        refine pure_ (i := 0) (N := some 53) (v := ?_) (a' := ?_) #[true, false, false, false, false, false] rfl rfl (by kernel_rfl) (fun _ _ _ h => h) (Or.inl ⟨by rfl, ?_⟩) ?_ ?_
                        rotate_left
                        · intro w'
                          go_simp
                          with_reducible rfl
                        rotate_left
                        · simp only [Act.put, List.setIfInBounds_toArray, List.set_cons_zero, List.set_cons_succ, i64_w, i32_w]
                          rfl
                        refine pure_ (i := 1) (N := some 54) (v := ?_) (a' := ?_) #[true, true, false, false, false, false] rfl rfl (by kernel_rfl) (fun _ _ _ h => h) (Or.inl ⟨by rfl, ?_⟩) ?_ ?_
                        rotate_left
                        · intro w'
                          go_simp
                          with_reducible rfl
                        rotate_left
                        · simp only [Act.put, List.setIfInBounds_toArray, List.set_cons_zero, List.set_cons_succ, i64_w, i32_w]
                          rfl
                        refine take_ (i := 3) (N := some 56) (v := ?_) (a' := ?_) #[true, true, false, true, false, false] rfl rfl (by kernel_rfl) (fun _ _ _ h => h) (Or.inl ⟨by rfl, ?_⟩) hHeld ?_ ?_
                        rotate_left
                        · rintro w' ⟨s0, s1, s2, s3⟩
                          go_simp
                          with_reducible rfl
                        rotate_left
                        · simp only [Act.put, List.setIfInBounds_toArray, List.set_cons_zero, List.set_cons_succ, i64_w, i32_w]
                          rfl
                        refine one_ (i := 2) (N := some 55) #[true, true, true, true, false, false] rfl rfl (by kernel_rfl) (by decide) (fun K hK => ?_)
                        refine goes_ Tryd.func11 (by kernel_rfl) rfl #[.string ((⟨#[105, 109, 103, 45, 115, 114, 99, 32, 120, 59]⟩ : ByteArray) ++ a0)] (by rfl) rfl rfl (by (try simp only [List.map_toArray, List.map_cons, List.map_nil]); first | done | rfl | (simp only [List.length_drop, List.length_take]; rfl)) ?_
                        with_reducible refine (cspparse_One.calls ((⟨#[105, 109, 103, 45, 115, 114, 99, 32, 120, 59]⟩ : ByteArray) ++ a0) t301 t302 t305 t306 _ A50.out).mono ?_
                        rintro e w66 ⟨v303, v307, rfl, ho0, ho1, hb⟩
                        refine ⟨_, rfl, ?_⟩
                        have n0_ := Aside0.mk (Kd.Q_mono (Kd.Q_told (Kd.Q_told (Kd.Q_old (by (with_reducible repeat (first | apply Kd.Q_alloc | apply Kd.Q_drewN | apply Kd.Q_drew)); exact HO_281001.out) hb) (Kd.Q_base ho0)) (Kd.Q_base ho1)) (fun _ _ => trivial))
                        have n1_ := Aside0.mk (Kd.Q_mono (Kd.Q_told (Kd.Q_told (Kd.Q_old (by (with_reducible repeat (first | apply Kd.Q_alloc | apply Kd.Q_drewN | apply Kd.Q_drew)); exact HO_281003.out) hb) (Kd.Q_base ho0)) (Kd.Q_base ho1)) (fun _ _ => trivial))
                        have n2_ := Aside0.mk (Kd.Q_mono (Kd.Q_told (Kd.Q_told (Kd.Q_old (by (with_reducible repeat (first | apply Kd.Q_alloc | apply Kd.Q_drewN | apply Kd.Q_drew)); exact HO_290001.out) hb) (Kd.Q_base ho0)) (Kd.Q_base ho1)) (fun _ _ => trivial))
                        have n3_ := Aside0.mk (Kd.Q_mono (Kd.Q_told (Kd.Q_told (Kd.Q_old (by (with_reducible repeat (first | apply Kd.Q_alloc | apply Kd.Q_drewN | apply Kd.Q_drew)); exact HO_290003.out) hb) (Kd.Q_base ho0)) (Kd.Q_base ho1)) (fun _ _ => trivial))
                        have n4_ := Aside0.mk (Kd.Q_mono (Kd.Q_told (Kd.Q_told (Kd.Q_old (by (with_reducible repeat (first | apply Kd.Q_alloc | apply Kd.Q_drewN | apply Kd.Q_drew)); exact HO_299001.out) hb) (Kd.Q_base ho0)) (Kd.Q_base ho1)) (fun _ _ => trivial))
                        have n5_ := Aside0.mk (Kd.Q_mono (Kd.Q_told (Kd.Q_told (Kd.Q_old (by (with_reducible repeat (first | apply Kd.Q_alloc | apply Kd.Q_drewN | apply Kd.Q_drew)); exact HO_299003.out) hb) (Kd.Q_base ho0)) (Kd.Q_base ho1)) (fun _ _ => trivial))
                        have n6_ := Aside0.mk (Kd.Q_mono (Kd.Q_told (Kd.Q_told (Kd.Q_old (by (with_reducible repeat (first | apply Kd.Q_alloc | apply Kd.Q_drewN | apply Kd.Q_drew)); exact HO_300001.out) hb) (Kd.Q_base ho0)) (Kd.Q_base ho1)) (fun _ _ => trivial))
                        have n7_ := Aside0.mk (Kd.Q_mono (Kd.Q_told (Kd.Q_told (Kd.Q_old (by (with_reducible repeat (first | apply Kd.Q_alloc | apply Kd.Q_drewN | apply Kd.Q_drew)); exact HO_300003.out) hb) (Kd.Q_base ho0)) (Kd.Q_base ho1)) (fun _ _ => trivial))
                        have n8_ := Aside0.mk (Kd.Q_lower (Kd.Q_new' (Kd.Q_new' (Kd.Q_new' (Kd.Q_new' (Kd.Q_new' (Kd.Q_new' (Kd.Q_new' (Kd.Q_new' ho0 (Kd.Q_lt (by (with_reducible repeat (first | apply Kd.Q_alloc | apply Kd.Q_drewN | apply Kd.Q_drew)); exact HO_281001.out))) (Kd.Q_lt (by (with_reducible repeat (first | apply Kd.Q_alloc | apply Kd.Q_drewN | apply Kd.Q_drew)); exact HO_281003.out))) (Kd.Q_lt (by (with_reducible repeat (first | apply Kd.Q_alloc | apply Kd.Q_drewN | apply Kd.Q_drew)); exact HO_290001.out))) (Kd.Q_lt (by (with_reducible repeat (first | apply Kd.Q_alloc | apply Kd.Q_drewN | apply Kd.Q_drew)); exact HO_290003.out))) (Kd.Q_lt (by (with_reducible repeat (first | apply Kd.Q_alloc | apply Kd.Q_drewN | apply Kd.Q_drew)); exact HO_299001.out))) (Kd.Q_lt (by (with_reducible repeat (first | apply Kd.Q_alloc | apply Kd.Q_drewN | apply Kd.Q_drew)); exact HO_299003.out))) (Kd.Q_lt (by (with_reducible repeat (first | apply Kd.Q_alloc | apply Kd.Q_drewN | apply Kd.Q_drew)); exact HO_300001.out))) (Kd.Q_lt (by (with_reducible repeat (first | apply Kd.Q_alloc | apply Kd.Q_drewN | apply Kd.Q_drew)); exact HO_300003.out))) (below_size (by repeat (first | (with_reducible first | exact HB.out | apply below_alloc | apply pw_below_drewN | apply below_drew1 | refine below_set ?_ GE280.out | refine below_set ?_ GE289.out | refine below_set ?_ GE298.out | refine below_set ?_ GE299.out) | exact HB.out))))
                        have n9_ := Aside0.mk (Kd.Q_lower (Kd.Q_new' (Kd.Q_new' (Kd.Q_new' (Kd.Q_new' (Kd.Q_new' (Kd.Q_new' (Kd.Q_new' (Kd.Q_new' ho1 (Kd.Q_lt (by (with_reducible repeat (first | apply Kd.Q_alloc | apply Kd.Q_drewN | apply Kd.Q_drew)); exact HO_281001.out))) (Kd.Q_lt (by (with_reducible repeat (first | apply Kd.Q_alloc | apply Kd.Q_drewN | apply Kd.Q_drew)); exact HO_281003.out))) (Kd.Q_lt (by (with_reducible repeat (first | apply Kd.Q_alloc | apply Kd.Q_drewN | apply Kd.Q_drew)); exact HO_290001.out))) (Kd.Q_lt (by (with_reducible repeat (first | apply Kd.Q_alloc | apply Kd.Q_drewN | apply Kd.Q_drew)); exact HO_290003.out))) (Kd.Q_lt (by (with_reducible repeat (first | apply Kd.Q_alloc | apply Kd.Q_drewN | apply Kd.Q_drew)); exact HO_299001.out))) (Kd.Q_lt (by (with_reducible repeat (first | apply Kd.Q_alloc | apply Kd.Q_drewN | apply Kd.Q_drew)); exact HO_299003.out))) (Kd.Q_lt (by (with_reducible repeat (first | apply Kd.Q_alloc | apply Kd.Q_drewN | apply Kd.Q_drew)); exact HO_300001.out))) (Kd.Q_lt (by (with_reducible repeat (first | apply Kd.Q_alloc | apply Kd.Q_drewN | apply Kd.Q_drew)); exact HO_300003.out))) (below_size (by repeat (first | (with_reducible first | exact HB.out | apply below_alloc | apply pw_below_drewN | apply below_drew1 | refine below_set ?_ GE280.out | refine below_set ?_ GE289.out | refine below_set ?_ GE298.out | refine below_set ?_ GE299.out) | exact HB.out))))
                        have n10_ := Aside0.mk (blk_below (g := gb280) (o := .cells #[.bool t272, .slice Ao17 t273.length co17, .bool true, .slice Ao18 t277.length co18] 26 (0, 0)) (by (with_reducible repeat (first | refine blk_drewN ?_ _ | refine blk_drew ?_ | refine blk_alloc ?_ _)); exact BK280.out) hb)
                        have n11_ := Aside0.mk (blk_below (g := gb289) (o := .cells #[.bool t281, .slice Ao23 t282.length co23, .bool t285, .slice Ao24 t286.length co24] 26 (0, 0)) (by (with_reducible repeat (first | refine blk_drewN ?_ _ | refine blk_drew ?_ | refine blk_alloc ?_ _)); exact BK289.out) hb)
                        have n12_ := Aside0.mk (blk_below (g := gb298) (o := .cells #[.bool t290, .slice Ao30 t291.length co30, .bool t294, .slice Ao31 t295.length co31] 26 (0, 0)) (by (with_reducible repeat (first | refine blk_drewN ?_ _ | refine blk_drew ?_ | refine blk_alloc ?_ _)); exact BK298.out) hb)
                        have n13_ := Aside0.mk (blk_below (g := gb299) (o := .cells #[.bool x300000_12, .slice Ao63 x300001_12.length co63, .bool true, .slice Ao18 t277.length co18] 26 (0, 0)) (by (with_reducible repeat (first | refine blk_drewN ?_ _ | refine blk_drew ?_ | refine blk_alloc ?_ _)); exact BK299.out) hb)
                        have n14_ := Aside0.mk (below_step (by repeat (first | (with_reducible first | exact HB.out | apply below_alloc | apply pw_below_drewN | apply below_drew1 | refine below_set ?_ GE280.out | refine below_set ?_ GE289.out | refine below_set ?_ GE298.out | refine below_set ?_ GE299.out) | exact HB.out)) hb)
                        clear HO_281001
                        clear HO_281003
                        clear HO_290001
                        clear HO_290003
                        clear HO_299001
                        clear HO_299003
                        clear HO_300001
                        clear HO_300003
                        clear BK280
                        clear BK289
                        clear BK298
                        clear BK299
                        clear HB
                        have HO_281001 := n0_
                        have HO_281003 := n1_
                        have HO_290001 := n2_
                        have HO_290003 := n3_
                        have HO_299001 := n4_
                        have HO_299003 := n5_
                        have HO_300001 := n6_
                        have HO_300003 := n7_
                        have HO304 := n8_
                        have HO308 := n9_
                        have BK280 := n10_
                        have BK289 := n11_
                        have BK298 := n12_
                        have BK299 := n13_
                        have HB := n14_
                        clear n0_ n1_ n2_ n3_ n4_ n5_ n6_ n7_ n8_ n9_ n10_ n11_ n12_ n13_ n14_
                        (try clear hb)
                        (try clear hb2)
                        (try clear hk)
                        (try clear hi)
                        (try clear ho0)
                        (try clear ho1)
                        obtain ⟨Ao67, co67, eo67, _⟩ := Kd.Q_slice HO304.out
                        (first | subst eo67 | (injection eo67 with f1_ f2_ f3_; have f4_ := f1_.symm; have f5_ := f3_.symm; clear f1_ f2_ f3_; subst f4_; subst f5_))
                        obtain ⟨Ao68, co68, eo68, _⟩ := Kd.Q_slice HO308.out
                        (first | subst eo68 | (injection eo68 with f1_ f2_ f3_; have f4_ := f1_.symm; have f5_ := f3_.symm; clear f1_ f2_ f3_; subst f4_; subst f5_))
                        refine hK.out _ _ ⟨(blk_cell BK280.out 0).trans rfl, (blk_cell BK280.out 1).trans rfl, (blk_cell BK280.out 2).trans rfl, (blk_cell BK280.out 3).trans rfl⟩ (fun hHeld => ?_)
                        clear hK K
                        refine norm_ (a' := ?_) ?_ ?_
                        rotate_left
                        · show Act.put _ (some 55) _ = _
                          simp only [Act.put, List.setIfInBounds_toArray, List.set_cons_zero, List.set_cons_succ, i64_w, i32_w]
                          rfl
                        refine one_ (i := 4) (N := some 57) #[true, true, true, true, true, false] rfl rfl (by kernel_rfl) (by decide) (fun K hK => ?_)
                        refine goes_ Tryd.func10 (by kernel_rfl) rfl #[.agg #[.bool t301, .slice Ao67 t302.length co67, .bool t305, .slice Ao68 t306.length co68], .agg #[.bool t272, .slice Ao17 t273.length co17, .bool true, .slice Ao18 t277.length co18]] (by rfl) rfl rfl (by (try simp only [List.map_toArray, List.map_cons, List.map_nil]); first | done | rfl | (simp only [List.length_drop, List.length_take]; rfl)) ?_
                        with_reducible refine (glacisref10_SameOne.calls kj12 t301 _ _ t302 t305 _ _ t306 t272 _ _ t273 true _ _ t277 t309 _ ?side1 ?side2 ?side3 ?side4 ?side5 ?side6 ?side7 ?side8 A51.out).mono ?_
                        (case side1 => repeat (first | exact (Kd.Q_reads' HO304.out).2.2 | (with_reducible refine Kd.C_alloc ?_ _) | (with_reducible refine Kd.C_drewN ?_ _) | (with_reducible refine Kd.C_drew ?_)))
                        (case side2 => exact (Kd.Q_reads' HO304.out).2.1)
                        (case side3 => repeat (first | exact (Kd.Q_reads' HO308.out).2.2 | (with_reducible refine Kd.C_alloc ?_ _) | (with_reducible refine Kd.C_drewN ?_ _) | (with_reducible refine Kd.C_drew ?_)))
                        (case side4 => exact (Kd.Q_reads' HO308.out).2.1)
                        (case side5 => repeat (first | exact (Kd.Q_reads' HO_281001.out).2.2 | (with_reducible refine Kd.C_alloc ?_ _) | (with_reducible refine Kd.C_drewN ?_ _) | (with_reducible refine Kd.C_drew ?_)))
                        (case side6 => exact (Kd.Q_reads' HO_281001.out).2.1)
                        (case side7 => repeat (first | exact (Kd.Q_reads' HO_281003.out).2.2 | (with_reducible refine Kd.C_alloc ?_ _) | (with_reducible refine Kd.C_drewN ?_ _) | (with_reducible refine Kd.C_drew ?_)))
                        (case side8 => exact (Kd.Q_reads' HO_281003.out).2.1)
                        rintro e w69 ⟨rfl, hb⟩
                        refine ⟨_, rfl, ?_⟩
                        have n0_ := Aside0.mk (Kd.Q_below (by (with_reducible repeat (first | apply Kd.Q_alloc | apply Kd.Q_drewN | apply Kd.Q_drew)); exact HO_281001.out) hb)
                        have n1_ := Aside0.mk (Kd.Q_below (by (with_reducible repeat (first | apply Kd.Q_alloc | apply Kd.Q_drewN | apply Kd.Q_drew)); exact HO_281003.out) hb)
                        have n2_ := Aside0.mk (Kd.Q_below (by (with_reducible repeat (first | apply Kd.Q_alloc | apply Kd.Q_drewN | apply Kd.Q_drew)); exact HO_290001.out) hb)
                        have n3_ := Aside0.mk (Kd.Q_below (by (with_reducible repeat (first | apply Kd.Q_alloc | apply Kd.Q_drewN | apply Kd.Q_drew)); exact HO_290003.out) hb)
                        have n4_ := Aside0.mk (Kd.Q_below (by (with_reducible repeat (first | apply Kd.Q_alloc | apply Kd.Q_drewN | apply Kd.Q_drew)); exact HO_299001.out) hb)
                        have n5_ := Aside0.mk (Kd.Q_below (by (with_reducible repeat (first | apply Kd.Q_alloc | apply Kd.Q_drewN | apply Kd.Q_drew)); exact HO_299003.out) hb)
                        have n6_ := Aside0.mk (Kd.Q_below (by (with_reducible repeat (first | apply Kd.Q_alloc | apply Kd.Q_drewN | apply Kd.Q_drew)); exact HO_300001.out) hb)
                        have n7_ := Aside0.mk (Kd.Q_below (by (with_reducible repeat (first | apply Kd.Q_alloc | apply Kd.Q_drewN | apply Kd.Q_drew)); exact HO_300003.out) hb)
                        have n8_ := Aside0.mk (Kd.Q_below (by (with_reducible repeat (first | apply Kd.Q_alloc | apply Kd.Q_drewN | apply Kd.Q_drew)); exact HO304.out) hb)
                        have n9_ := Aside0.mk (Kd.Q_below (by (with_reducible repeat (first | apply Kd.Q_alloc | apply Kd.Q_drewN | apply Kd.Q_drew)); exact HO308.out) hb)
                        have n10_ := Aside0.mk (blk_below (g := gb280) (o := .cells #[.bool t272, .slice Ao17 t273.length co17, .bool true, .slice Ao18 t277.length co18] 26 (0, 0)) (by (with_reducible repeat (first | refine blk_drewN ?_ _ | refine blk_drew ?_ | refine blk_alloc ?_ _)); exact BK280.out) hb)
                        have n11_ := Aside0.mk (blk_below (g := gb289) (o := .cells #[.bool t281, .slice Ao23 t282.length co23, .bool t285, .slice Ao24 t286.length co24] 26 (0, 0)) (by (with_reducible repeat (first | refine blk_drewN ?_ _ | refine blk_drew ?_ | refine blk_alloc ?_ _)); exact BK289.out) hb)
                        have n12_ := Aside0.mk (blk_below (g := gb298) (o := .cells #[.bool t290, .slice Ao30 t291.length co30, .bool t294, .slice Ao31 t295.length co31] 26 (0, 0)) (by (with_reducible repeat (first | refine blk_drewN ?_ _ | refine blk_drew ?_ | refine blk_alloc ?_ _)); exact BK298.out) hb)
                        have n13_ := Aside0.mk (blk_below (g := gb299) (o := .cells #[.bool x300000_12, .slice Ao63 x300001_12.length co63, .bool true, .slice Ao18 t277.length co18] 26 (0, 0)) (by (with_reducible repeat (first | refine blk_drewN ?_ _ | refine blk_drew ?_ | refine blk_alloc ?_ _)); exact BK299.out) hb)
                        have n14_ := Aside0.mk (below_step (by repeat (first | (with_reducible first | exact HB.out | apply below_alloc | apply pw_below_drewN | apply below_drew1 | refine below_set ?_ GE280.out | refine below_set ?_ GE289.out | refine below_set ?_ GE298.out | refine below_set ?_ GE299.out) | exact HB.out)) hb)
                        clear HO_281001
                        clear HO_281003
                        clear HO_290001
                        clear HO_290003
                        clear HO_299001
                        clear HO_299003
                        clear HO_300001
                        clear HO_300003
                        clear HO304
                        clear HO308
                        clear BK280
                        clear BK289
                        clear BK298
                        clear BK299
                        clear HB
                        have HO_281001 := n0_
                        have HO_281003 := n1_
                        have HO_290001 := n2_
                        have HO_290003 := n3_
                        have HO_299001 := n4_
                        have HO_299003 := n5_
                        have HO_300001 := n6_
                        have HO_300003 := n7_
                        have HO304 := n8_
                        have HO308 := n9_
                        have BK280 := n10_
                        have BK289 := n11_
                        have BK298 := n12_
                        have BK299 := n13_
                        have HB := n14_
                        clear n0_ n1_ n2_ n3_ n4_ n5_ n6_ n7_ n8_ n9_ n10_ n11_ n12_ n13_ n14_
                        (try clear hb)
                        (try clear hb2)
                        (try clear hk)
                        (try clear hi)
                        refine hK.out _ _ ⟨(blk_cell BK280.out 0).trans rfl, (blk_cell BK280.out 1).trans rfl, (blk_cell BK280.out 2).trans rfl, (blk_cell BK280.out 3).trans rfl⟩ (fun hHeld => ?_)
                        clear hK K
                        refine norm_ (a' := ?_) ?_ ?_
                        rotate_left
                        · show Act.put _ (some 57) _ = _
                          simp only [Act.put, List.setIfInBounds_toArray, List.set_cons_zero, List.set_cons_succ, i64_w, i32_w]
                          rfl
                        refine pure_ (i := 5) (N := some 11) (v := ?_) (a' := ?_) #[true, true, true, true, true, true] rfl rfl (by kernel_rfl) (fun _ _ _ h => h) (Or.inl ⟨by rfl, ?_⟩) ?_ ?_
                        rotate_left
                        · intro w'
                          go_simp
                          with_reducible rfl
                        rotate_left
                        · simp only [Act.put, List.setIfInBounds_toArray, List.set_cons_zero, List.set_cons_succ, i64_w, i32_w]
                          rfl
                        refine done_ (by kernel_rfl) ?_
                        try go_wp2
                        go_ret
                        exact ⟨by first | rfl | (simp [errW_none, errW_some] <;> rfl) | (simp [*, errW_none, errW_some] <;> rfl) | (simp [q_ne_nil]; done), by repeat (first | (with_reducible first | exact HB.out | apply below_alloc | apply pw_below_drewN | apply below_drew1 | refine below_set ?_ GE280.out | refine below_set ?_ GE289.out | refine below_set ?_ GE298.out | refine below_set ?_ GE299.out) | exact HB.out)⟩
                      · exact absurd H (by rw [if_neg c53]; simp)
                    · exact absurd H (by rw [if_neg c52]; simp)
                  · exact absurd H (by rw [if_neg c49]; simp)
                · replace c47 := Bool.eq_false_iff.mpr c47
                  subst c47
                  have H1 : ((glacisref10_SameOne.f kj12 t290 t291 t294 t295 x300000_12 x300001_12 t285 t286).bind fun t310 => (if 10 + a0.size ≤ 9223372036854775807 then ((cspparse_One.f ((⟨#[105, 109, 103, 45, 115, 114, 99, 32, 120, 59]⟩ : ByteArray) ++ a0)).bind fun bt311 => ((glacisref10_SameOne.f kj12 bt311.1 bt311.2.1 bt311.2.2.1 bt311.2.2.2 t272 t273 false t277).bind fun t319 => (if t271 = true then (if t310 = true then (some t319) else (none)) else (none)))) else (none))) = some r := by rw [if_neg (show ¬ (false = true) by decide)] at H; exact H
                  clear H
                  have H := H1
                  clear H1
                  replace H := Option.bind_eq_some_iff.mp H
                  obtain ⟨t310, A1020, H⟩ := H
                  replace H : (if 10 + a0.size ≤ 9223372036854775807 then ((cspparse_One.f ((⟨#[105, 109, 103, 45, 115, 114, 99, 32, 120, 59]⟩ : ByteArray) ++ a0)).bind fun bt311 => ((glacisref10_SameOne.f kj12 bt311.1 bt311.2.1 bt311.2.2.1 bt311.2.2.2 t272 t273 false t277).bind fun t319 => (if t271 = true then (if t310 = true then (some t319) else (none)) else (none)))) else (none)) = some r := H
                  have A102 := Aside0.mk A1020
                  clear A1020
                  by_cases c103 : 10 + a0.size ≤ 9223372036854775807
                  · rw [if_pos c103] at H
                    have c103b0 := eq_true c103
                    have c103b1 : decide (10 + a0.size ≤ 9223372036854775807) = true := decide_eq_true c103
                    try have c103b2 : (9223372036854775807 < 10 + a0.size) = False := eq_false (Nat.not_lt.2 c103)
                    replace H := Option.bind_eq_some_iff.mp H
                    obtain ⟨⟨t311, t312, t315, t316⟩, A1040, H⟩ := H
                    replace H : ((glacisref10_SameOne.f kj12 t311 t312 t315 t316 t272 t273 false t277).bind fun t319 => (if t271 = true then (if t310 = true then (some t319) else (none)) else (none))) = some r := H
                    have A104 := Aside0.mk A1040
                    clear A1040
                    replace H := Option.bind_eq_some_iff.mp H
                    obtain ⟨t319, A1050, H⟩ := H
                    replace H : (if t271 = true then (if t310 = true then (some t319) else (none)) else (none)) = some r := H
                    have A105 := Aside0.mk A1050
                    clear A1050
                    by_cases c106 : t271 = true
                    · subst c106
                      have H1 : (if t310 = true then (some t319) else (none)) = some r := by rw [if_pos rfl] at H; exact H
                      clear H
                      have H := H1
                      clear H1
                      by_cases c107 : t310 = true
                      · subst c107
                        have H1 : (some t319) = some r := by rw [if_pos rfl] at H; exact H
                        clear H
                        have H := H1
                        clear H1
                        obtain rfl := Option.some.inj H
                        have hnb108 := NB280_289.out
                        have hnc108 := NB289_280.out
                        have hnb109 := NB280_298.out
                        have hnc109 := NB298_280.out
                        have hnb110 := NB280_299.out
                        have hnc110 := NB299_280.out
                        have hcz111_0 : wc.cell? ⟨gb280, 0, none⟩ = some (.bool t272) := (blk_cell BK280.out 0).trans rfl
                        have hcz111_1 : wc.cell? ⟨gb280, 1, none⟩ = some (.slice Ao17 t273.length co17) := (blk_cell BK280.out 1).trans rfl
                        have hcz111_2 : wc.cell? ⟨gb280, 2, none⟩ = some (.bool false) := (blk_cell BK280.out 2).trans rfl
                        have hcz111_3 : wc.cell? ⟨gb280, 3, none⟩ = some (.slice Ao18 t277.length co18) := (blk_cell BK280.out 3).trans rfl
                        have hfz111_0 := blk_frozen BK280.out 0
                        have hfz111_1 := blk_frozen BK280.out 1
                        have hfz111_2 := blk_frozen BK280.out 2
                        have hfz111_3 := blk_frozen BK280.out 3
                        have hnb112 := NB289_298.out
                        have hnc112 := NB298_289.out
                        have hnb113 := NB289_299.out
                        have hnc113 := NB299_289.out
                        have hcz114_0 : wc.cell? ⟨gb289, 0, none⟩ = some (.bool t281) := (blk_cell BK289.out 0).trans rfl
                        have hcz114_1 : wc.cell? ⟨gb289, 1, none⟩ = some (.slice Ao23 t282.length co23) := (blk_cell BK289.out 1).trans rfl
                        have hcz114_2 : wc.cell? ⟨gb289, 2, none⟩ = some (.bool t285) := (blk_cell BK289.out 2).trans rfl
                        have hcz114_3 : wc.cell? ⟨gb289, 3, none⟩ = some (.slice Ao24 t286.length co24) := (blk_cell BK289.out 3).trans rfl
                        have hfz114_0 := blk_frozen BK289.out 0
                        have hfz114_1 := blk_frozen BK289.out 1
                        have hfz114_2 := blk_frozen BK289.out 2
                        have hfz114_3 := blk_frozen BK289.out 3
                        have hnb115 := NB299_298.out
                        have hnc115 := NB298_299.out
                        have hcz116_0 : wc.cell? ⟨gb299, 0, none⟩ = some (.bool x300000_12) := (blk_cell BK299.out 0).trans rfl
                        have hcz116_1 : wc.cell? ⟨gb299, 1, none⟩ = some (u300001) := (blk_cell BK299.out 1).trans rfl
                        have hcz116_2 : wc.cell? ⟨gb299, 2, none⟩ = some (.bool false) := (blk_cell BK299.out 2).trans rfl
                        have hcz116_3 : wc.cell? ⟨gb299, 3, none⟩ = some (.slice Ao18 t277.length co18) := (blk_cell BK299.out 3).trans rfl
                        have hfz116_0 := blk_frozen BK299.out 0
                        have hfz116_1 := blk_frozen BK299.out 1
                        have hfz116_2 := blk_frozen BK299.out 2
                        have hfz116_3 := blk_frozen BK299.out 3
                        have hcz117_0 : wc.cell? ⟨gb298, 0, none⟩ = some (.bool t290) := (blk_cell BK298.out 0).trans rfl
                        have hcz117_1 : wc.cell? ⟨gb298, 1, none⟩ = some (.slice Ao30 t291.length co30) := (blk_cell BK298.out 1).trans rfl
                        have hcz117_2 : wc.cell? ⟨gb298, 2, none⟩ = some (.bool t294) := (blk_cell BK298.out 2).trans rfl
                        have hcz117_3 : wc.cell? ⟨gb298, 3, none⟩ = some (.slice Ao31 t295.length co31) := (blk_cell BK298.out 3).trans rfl
                        have hfz117_0 := blk_frozen BK298.out 0
                        have hfz117_1 := blk_frozen BK298.out 1
                        have hfz117_2 := blk_frozen BK298.out 2
                        have hfz117_3 := blk_frozen BK298.out 3
                        obtain ⟨Ao118, co118, eo118, _⟩ := Kd.Q_slice HO_300001.out
                        subst eo118
                        try go_wp2_with (first | ((with_reducible refine gate_callee (f := 10) rfl ?_); refine goesL_ (some 52) rfl rfl Tryd.func10 (by kernel_rfl) rfl #[.agg #[.bool t290, .slice Ao30 t291.length co30, .bool t294, .slice Ao31 t295.length co31], .agg #[.bool x300000_12, .slice Ao118 x300001_12.length co118, .bool t285, .slice Ao24 t286.length co24]] rfl (by (try simp only [List.map_toArray, List.map_cons, List.map_nil]); first | done | rfl | (simp only [List.length_drop, List.length_take]; rfl)) ?_; (with_reducible refine (glacisref10_SameOne.calls kj12 t290 _ _ t291 t294 _ _ t295 x300000_12 _ _ x300001_12 t285 _ _ t286 true _ ?side1 ?side2 ?side3 ?side4 ?side5 ?side6 ?side7 ?side8 A102.out).mono ?_); (case side1 => refine (Kd.Q_reads' (e := 9) (base := w.heap.size) (ok := fun _ => True) (n := t291.length) (c := co30) ?_).2.2; exact (by (with_reducible repeat (first | apply Kd.Q_alloc | apply Kd.Q_drewN | apply Kd.Q_drew)); exact (Kd.Q_mono (Kd.Q_far (p := ⟨gb299, 3, none⟩) (Kd.Q_far (p := ⟨gb299, 2, none⟩) (Kd.Q_types HO_299001.out BK299.out (by decide)) (fun _ hk => hk.2) (.bool t285)) (fun _ hk => hk.2) (.slice Ao24 t286.length co24)) (fun _ _ => trivial)))); (case side2 => exact (Kd.Q_reads' HO_299001.out).2.1); (case side3 => refine (Kd.Q_reads' (e := 9) (base := w.heap.size) (ok := fun _ => True) (n := t295.length) (c := co31) ?_).2.2; exact (by (with_reducible repeat (first | apply Kd.Q_alloc | apply Kd.Q_drewN | apply Kd.Q_drew)); exact (Kd.Q_mono (Kd.Q_far (p := ⟨gb299, 3, none⟩) (Kd.Q_far (p := ⟨gb299, 2, none⟩) (Kd.Q_types HO_299003.out BK299.out (by decide)) (fun _ hk => hk.2) (.bool t285)) (fun _ hk => hk.2) (.slice Ao24 t286.length co24)) (fun _ _ => trivial)))); (case side4 => exact (Kd.Q_reads' HO_299003.out).2.1); (case side5 => refine (Kd.Q_reads' (e := 9) (base := w.heap.size) (ok := fun _ => True) (n := x300001_12.length) (c := co118) ?_).2.2; exact (by (with_reducible repeat (first | apply Kd.Q_alloc | apply Kd.Q_drewN | apply Kd.Q_drew)); exact (Kd.Q_mono (Kd.Q_far (p := ⟨gb299, 3, none⟩) (Kd.Q_far (p := ⟨gb299, 2, none⟩) (Kd.Q_types HO_300001.out BK299.out (by decide)) (fun _ hk => hk.2) (.bool t285)) (fun _ hk => hk.2) (.slice Ao24 t286.length co24)) (fun _ _ => trivial)))); (case side6 => exact (Kd.Q_reads' HO_300001.out).2.1); (case side7 => refine (Kd.Q_reads' (e := 9) (base := w.heap.size) (ok := fun _ => True) (n := t286.length) (c := co24) ?_).2.2; exact (by (with_reducible repeat (first | apply Kd.Q_alloc | apply Kd.Q_drewN | apply Kd.Q_drew)); exact (Kd.Q_mono (Kd.Q_far (p := ⟨gb299, 3, none⟩) (Kd.Q_far (p := ⟨gb299, 2, none⟩) (Kd.Q_types HO_290003.out BK299.out (by decide)) (fun _ hk => hk.2) (.bool t285)) (fun _ hk => hk.2) (.slice Ao24 t286.length co24)) (fun _ _ => trivial)))); (case side8 => exact (Kd.Q_reads' HO_290003.out).2.1); rintro e w119 ⟨rfl, hb⟩; refine ⟨_, rfl, ?_⟩; have n0_ := Aside0.mk (Kd.Q_below (by (with_reducible repeat (first | apply Kd.Q_alloc | apply Kd.Q_drewN | apply Kd.Q_drew)); exact (Kd.Q_mono (Kd.Q_far (p := ⟨gb299, 3, none⟩) (Kd.Q_far (p := ⟨gb299, 2, none⟩) (Kd.Q_types HO_281001.out BK299.out (by decide)) (fun _ hk => hk.2) (.bool t285)) (fun _ hk => hk.2) (.slice Ao24 t286.length co24)) (fun _ _ => trivial))) hb); have n1_ := Aside0.mk (Kd.Q_below (by (with_reducible repeat (first | apply Kd.Q_alloc | apply Kd.Q_drewN | apply Kd.Q_drew)); exact (Kd.Q_mono (Kd.Q_far (p := ⟨gb299, 3, none⟩) (Kd.Q_far (p := ⟨gb299, 2, none⟩) (Kd.Q_types HO_281003.out BK299.out (by decide)) (fun _ hk => hk.2) (.bool t285)) (fun _ hk => hk.2) (.slice Ao24 t286.length co24)) (fun _ _ => trivial))) hb); have n2_ := Aside0.mk (Kd.Q_below (by (with_reducible repeat (first | apply Kd.Q_alloc | apply Kd.Q_drewN | apply Kd.Q_drew)); exact (Kd.Q_mono (Kd.Q_far (p := ⟨gb299, 3, none⟩) (Kd.Q_far (p := ⟨gb299, 2, none⟩) (Kd.Q_types HO_290001.out BK299.out (by decide)) (fun _ hk => hk.2) (.bool t285)) (fun _ hk => hk.2) (.slice Ao24 t286.length co24)) (fun _ _ => trivial))) hb); have n3_ := Aside0.mk (Kd.Q_below (by (with_reducible repeat (first | apply Kd.Q_alloc | apply Kd.Q_drewN | apply Kd.Q_drew)); exact (Kd.Q_mono (Kd.Q_far (p := ⟨gb299, 3, none⟩) (Kd.Q_far (p := ⟨gb299, 2, none⟩) (Kd.Q_types HO_290003.out BK299.out (by decide)) (fun _ hk => hk.2) (.bool t285)) (fun _ hk => hk.2) (.slice Ao24 t286.length co24)) (fun _ _ => trivial))) hb); have n4_ := Aside0.mk (Kd.Q_below (by (with_reducible repeat (first | apply Kd.Q_alloc | apply Kd.Q_drewN | apply Kd.Q_drew)); exact (Kd.Q_mono (Kd.Q_far (p := ⟨gb299, 3, none⟩) (Kd.Q_far (p := ⟨gb299, 2, none⟩) (Kd.Q_types HO_299001.out BK299.out (by decide)) (fun _ hk => hk.2) (.bool t285)) (fun _ hk => hk.2) (.slice Ao24 t286.length co24)) (fun _ _ => trivial))) hb); have n5_ := Aside0.mk (Kd.Q_below (by (with_reducible repeat (first | apply Kd.Q_alloc | apply Kd.Q_drewN | apply Kd.Q_drew)); exact (Kd.Q_mono (Kd.Q_far (p := ⟨gb299, 3, none⟩) (Kd.Q_far (p := ⟨gb299, 2, none⟩) (Kd.Q_types HO_299003.out BK299.out (by decide)) (fun _ hk => hk.2) (.bool t285)) (fun _ hk => hk.2) (.slice Ao24 t286.length co24)) (fun _ _ => trivial))) hb); have n6_ := Aside0.mk (Kd.Q_below (by (with_reducible repeat (first | apply Kd.Q_alloc | apply Kd.Q_drewN | apply Kd.Q_drew)); exact (Kd.Q_mono (Kd.Q_far (p := ⟨gb299, 3, none⟩) (Kd.Q_far (p := ⟨gb299, 2, none⟩) (Kd.Q_types HO_300001.out BK299.out (by decide)) (fun _ hk => hk.2) (.bool t285)) (fun _ hk => hk.2) (.slice Ao24 t286.length co24)) (fun _ _ => trivial))) hb); have n7_ := Aside0.mk (Kd.Q_below (by (with_reducible repeat (first | apply Kd.Q_alloc | apply Kd.Q_drewN | apply Kd.Q_drew)); exact (Kd.Q_mono (Kd.Q_far (p := ⟨gb299, 3, none⟩) (Kd.Q_far (p := ⟨gb299, 2, none⟩) (Kd.Q_types HO_300003.out BK299.out (by decide)) (fun _ hk => hk.2) (.bool t285)) (fun _ hk => hk.2) (.slice Ao24 t286.length co24)) (fun _ _ => trivial))) hb); have n8_ := Aside0.mk (blk_below (g := gb280) (o := .cells #[.bool t272, .slice Ao17 t273.length co17, .bool false, .slice Ao18 t277.length co18] 26 (0, 0)) (by (with_reducible repeat (first | refine blk_drewN ?_ _ | refine blk_drew ?_ | refine blk_alloc ?_ _)); refine blk_far ?_ NB280_299.out _; (with_reducible repeat (first | refine blk_drewN ?_ _ | refine blk_drew ?_ | refine blk_alloc ?_ _)); refine blk_far ?_ NB280_299.out _; (with_reducible repeat (first | refine blk_drewN ?_ _ | refine blk_drew ?_ | refine blk_alloc ?_ _)); exact BK280.out) hb); have n9_ := Aside0.mk (blk_below (g := gb289) (o := .cells #[.bool t281, .slice Ao23 t282.length co23, .bool t285, .slice Ao24 t286.length co24] 26 (0, 0)) (by (with_reducible repeat (first | refine blk_drewN ?_ _ | refine blk_drew ?_ | refine blk_alloc ?_ _)); refine blk_far ?_ NB289_299.out _; (with_reducible repeat (first | refine blk_drewN ?_ _ | refine blk_drew ?_ | refine blk_alloc ?_ _)); refine blk_far ?_ NB289_299.out _; (with_reducible repeat (first | refine blk_drewN ?_ _ | refine blk_drew ?_ | refine blk_alloc ?_ _)); exact BK289.out) hb); have n10_ := Aside0.mk (blk_below (g := gb298) (o := .cells #[.bool t290, .slice Ao30 t291.length co30, .bool t294, .slice Ao31 t295.length co31] 26 (0, 0)) (by (with_reducible repeat (first | refine blk_drewN ?_ _ | refine blk_drew ?_ | refine blk_alloc ?_ _)); refine blk_far ?_ NB298_299.out _; (with_reducible repeat (first | refine blk_drewN ?_ _ | refine blk_drew ?_ | refine blk_alloc ?_ _)); refine blk_far ?_ NB298_299.out _; (with_reducible repeat (first | refine blk_drewN ?_ _ | refine blk_drew ?_ | refine blk_alloc ?_ _)); exact BK298.out) hb); have n11_ := Aside0.mk (blk_below (g := gb299) (o := .cells #[.bool x300000_12, .slice Ao118 x300001_12.length co118, .bool t285, .slice Ao24 t286.length co24] 26 (0, 0)) (by (with_reducible repeat (first | refine blk_drewN ?_ _ | refine blk_drew ?_ | refine blk_alloc ?_ _)); refine blk_put (cs := #[.bool x300000_12, .slice Ao118 x300001_12.length co118, .bool t285, .slice Ao18 t277.length co18]) ?_ 3 _ rfl; (with_reducible repeat (first | refine blk_drewN ?_ _ | refine blk_drew ?_ | refine blk_alloc ?_ _)); refine blk_put (cs := #[.bool x300000_12, .slice Ao118 x300001_12.length co118, .bool false, .slice Ao18 t277.length co18]) ?_ 2 _ rfl; (with_reducible repeat (first | refine blk_drewN ?_ _ | refine blk_drew ?_ | refine blk_alloc ?_ _)); exact BK299.out) hb); have n12_ := Aside0.mk (below_step (by repeat (first | (with_reducible first | exact HB.out | apply below_alloc | apply pw_below_drewN | apply below_drew1 | refine below_set ?_ GE280.out | refine below_set ?_ GE289.out | refine below_set ?_ GE298.out | refine below_set ?_ GE299.out) | exact HB.out)) hb); clear HO_281001; clear HO_281003; clear HO_290001; clear HO_290003; clear HO_299001; clear HO_299003; clear HO_300001; clear HO_300003; clear BK280; clear BK289; clear BK298; clear BK299; clear HB; have HO_281001 := n0_; have HO_281003 := n1_; have HO_290001 := n2_; have HO_290003 := n3_; have HO_299001 := n4_; have HO_299003 := n5_; have HO_300001 := n6_; have HO_300003 := n7_; have BK280 := n8_; have BK289 := n9_; have BK298 := n10_; have BK299 := n11_; have HB := n12_; clear n0_ n1_ n2_ n3_ n4_ n5_ n6_ n7_ n8_ n9_ n10_ n11_ n12_; (try clear hb); (try clear hb2); (try clear hk); (try clear hi)))
                        have n0_ := Aside0.mk (Kd.Q_drew HO_281001.out)
                        have n1_ := Aside0.mk (Kd.Q_drew HO_281003.out)
                        have n2_ := Aside0.mk (Kd.Q_drew HO_290001.out)
                        have n3_ := Aside0.mk (Kd.Q_drew HO_290003.out)
                        have n4_ := Aside0.mk (Kd.Q_drew HO_299001.out)
                        have n5_ := Aside0.mk (Kd.Q_drew HO_299003.out)
                        have n6_ := Aside0.mk (Kd.Q_drew HO_300001.out)
                        have n7_ := Aside0.mk (Kd.Q_drew HO_300003.out)
                        have n8_ := Aside0.mk (blk_drew BK280.out)
                        have n9_ := Aside0.mk (blk_drew BK289.out)
                        have n10_ := Aside0.mk (blk_drew BK298.out)
                        have n11_ := Aside0.mk (blk_drew BK299.out)
                        have n12_ := Aside0.mk (below_drew1 HB.out)
                        clear HO_281001
                        clear HO_281003
                        clear HO_290001
                        clear HO_290003
                        clear HO_299001
                        clear HO_299003
                        clear HO_300001
                        clear HO_300003
                        clear BK280
                        clear BK289
                        clear BK298
                        clear BK299
                        clear HB
                        have HO_281001 := n0_
                        have HO_281003 := n1_
                        have HO_290001 := n2_
                        have HO_290003 := n3_
                        have HO_299001 := n4_
                        have HO_299003 := n5_
                        have HO_300001 := n6_
                        have HO_300003 := n7_
                        have BK280 := n8_
                        have BK289 := n9_
                        have BK298 := n10_
                        have BK299 := n11_
                        have HB := n12_
                        clear n0_ n1_ n2_ n3_ n4_ n5_ n6_ n7_ n8_ n9_ n10_ n11_ n12_
                        refine start_ (n := 6) (S := fun w' => w'.cell? ⟨gb280, 0, none⟩ = some (.bool t272) ∧ w'.cell? ⟨gb280, 1, none⟩ = some (.slice Ao17 t273.length co17) ∧ w'.cell? ⟨gb280, 2, none⟩ = some (.bool false) ∧ w'.cell? ⟨gb280, 3, none⟩ = some (.slice Ao18 t277.length co18)) (ds := []) #[false, false, false, false, false, false] (by kernel_rfl) rfl rfl ⟨(blk_cell BK280.out 0).trans rfl, (blk_cell BK280.out 1).trans rfl, (blk_cell BK280.out 2).trans rfl, (blk_cell BK280.out 3).trans rfl⟩ (fun hHeld => ?_)
                        generalize w119.drew = w120 at HO_281001 HO_281003 HO_290001 HO_290003 HO_299001 HO_299003 HO_300001 HO_300003 BK280 BK289 BK298 BK299 HB hHeld ⊢
                        refine pure_ (i := 0) (N := some 53) (v := ?_) (a' := ?_) #[true, false, false, false, false, false] rfl rfl (by kernel_rfl) (fun _ _ _ h => h) (Or.inl ⟨by rfl, ?_⟩) ?_ ?_
                        rotate_left
                        · intro w'
                          go_simp
                          with_reducible rfl
                        rotate_left
                        · simp only [Act.put, List.setIfInBounds_toArray, List.set_cons_zero, List.set_cons_succ, i64_w, i32_w]
                          rfl
                        refine pure_ (i := 1) (N := some 54) (v := ?_) (a' := ?_) #[true, true, false, false, false, false] rfl rfl (by kernel_rfl) (fun _ _ _ h => h) (Or.inl ⟨by rfl, ?_⟩) ?_ ?_
                        rotate_left
                        · intro w'
                          go_simp
                          with_reducible rfl
                        rotate_left
                        · simp only [Act.put, List.setIfInBounds_toArray, List.set_cons_zero, List.set_cons_succ, i64_w, i32_w]
                          rfl
                        refine take_ (i := 3) (N := some 56) (v := ?_) (a' := ?_) #[true, true, false, true, false, false] rfl rfl (by kernel_rfl) (fun _ _ _ h => h) (Or.inl ⟨by rfl, ?_⟩) hHeld ?_ ?_
                        rotate_left
                        · rintro w' ⟨s0, s1, s2, s3⟩
                          go_simp
                          with_reducible rfl
                        rotate_left
                        · simp only [Act.put, List.setIfInBounds_toArray, List.set_cons_zero, List.set_cons_succ, i64_w, i32_w]
                          rfl
                        refine one_ (i := 2) (N := some 55) #[true, true, true, true, false, false] rfl rfl (by kernel_rfl) (by decide) (fun K hK => ?_)
                        refine goes_ Tryd.func11 (by kernel_rfl) rfl #[.string ((⟨#[105, 109, 103, 45, 115, 114, 99, 32, 120, 59]⟩ : ByteArray) ++ a0)] (by rfl) rfl rfl (by (try simp only [List.map_toArray, List.map_cons, List.map_nil]); first | done | rfl | (simp only [List.length_drop, List.length_take]; rfl)) ?_
                        with_reducible refine (cspparse_One.calls ((⟨#[105, 109, 103, 45, 115, 114, 99, 32, 120, 59]⟩ : ByteArray) ++ a0) t311 t312 t315 t316 _ A104.out).mono ?_
                        rintro e w121 ⟨v313, v317, rfl, ho0, ho1, hb⟩
                        refine ⟨_, rfl, ?_⟩
                        have n0_ := Aside0.mk (Kd.Q_mono (Kd.Q_told (Kd.Q_told (Kd.Q_old (by (with_reducible repeat (first | apply Kd.Q_alloc | apply Kd.Q_drewN | apply Kd.Q_drew)); exact HO_281001.out) hb) (Kd.Q_base ho0)) (Kd.Q_base ho1)) (fun _ _ => trivial))
                        have n1_ := Aside0.mk (Kd.Q_mono (Kd.Q_told (Kd.Q_told (Kd.Q_old (by (with_reducible repeat (first | apply Kd.Q_alloc | apply Kd.Q_drewN | apply Kd.Q_drew)); exact HO_281003.out) hb) (Kd.Q_base ho0)) (Kd.Q_base ho1)) (fun _ _ => trivial))
                        have n2_ := Aside0.mk (Kd.Q_mono (Kd.Q_told (Kd.Q_told (Kd.Q_old (by (with_reducible repeat (first | apply Kd.Q_alloc | apply Kd.Q_drewN | apply Kd.Q_drew)); exact HO_290001.out) hb) (Kd.Q_base ho0)) (Kd.Q_base ho1)) (fun _ _ => trivial))
                        have n3_ := Aside0.mk (Kd.Q_mono (Kd.Q_told (Kd.Q_told (Kd.Q_old (by (with_reducible repeat (first | apply Kd.Q_alloc | apply Kd.Q_drewN | apply Kd.Q_drew)); exact HO_290003.out) hb) (Kd.Q_base ho0)) (Kd.Q_base ho1)) (fun _ _ => trivial))
                        have n4_ := Aside0.mk (Kd.Q_mono (Kd.Q_told (Kd.Q_told (Kd.Q_old (by (with_reducible repeat (first | apply Kd.Q_alloc | apply Kd.Q_drewN | apply Kd.Q_drew)); exact HO_299001.out) hb) (Kd.Q_base ho0)) (Kd.Q_base ho1)) (fun _ _ => trivial))
                        have n5_ := Aside0.mk (Kd.Q_mono (Kd.Q_told (Kd.Q_told (Kd.Q_old (by (with_reducible repeat (first | apply Kd.Q_alloc | apply Kd.Q_drewN | apply Kd.Q_drew)); exact HO_299003.out) hb) (Kd.Q_base ho0)) (Kd.Q_base ho1)) (fun _ _ => trivial))
                        have n6_ := Aside0.mk (Kd.Q_mono (Kd.Q_told (Kd.Q_told (Kd.Q_old (by (with_reducible repeat (first | apply Kd.Q_alloc | apply Kd.Q_drewN | apply Kd.Q_drew)); exact HO_300001.out) hb) (Kd.Q_base ho0)) (Kd.Q_base ho1)) (fun _ _ => trivial))
                        have n7_ := Aside0.mk (Kd.Q_mono (Kd.Q_told (Kd.Q_told (Kd.Q_old (by (with_reducible repeat (first | apply Kd.Q_alloc | apply Kd.Q_drewN | apply Kd.Q_drew)); exact HO_300003.out) hb) (Kd.Q_base ho0)) (Kd.Q_base ho1)) (fun _ _ => trivial))
                        have n8_ := Aside0.mk (Kd.Q_lower (Kd.Q_new' (Kd.Q_new' (Kd.Q_new' (Kd.Q_new' (Kd.Q_new' (Kd.Q_new' (Kd.Q_new' (Kd.Q_new' ho0 (Kd.Q_lt (by (with_reducible repeat (first | apply Kd.Q_alloc | apply Kd.Q_drewN | apply Kd.Q_drew)); exact HO_281001.out))) (Kd.Q_lt (by (with_reducible repeat (first | apply Kd.Q_alloc | apply Kd.Q_drewN | apply Kd.Q_drew)); exact HO_281003.out))) (Kd.Q_lt (by (with_reducible repeat (first | apply Kd.Q_alloc | apply Kd.Q_drewN | apply Kd.Q_drew)); exact HO_290001.out))) (Kd.Q_lt (by (with_reducible repeat (first | apply Kd.Q_alloc | apply Kd.Q_drewN | apply Kd.Q_drew)); exact HO_290003.out))) (Kd.Q_lt (by (with_reducible repeat (first | apply Kd.Q_alloc | apply Kd.Q_drewN | apply Kd.Q_drew)); exact HO_299001.out))) (Kd.Q_lt (by (with_reducible repeat (first | apply Kd.Q_alloc | apply Kd.Q_drewN | apply Kd.Q_drew)); exact HO_299003.out))) (Kd.Q_lt (by (with_reducible repeat (first | apply Kd.Q_alloc | apply Kd.Q_drewN | apply Kd.Q_drew)); exact HO_300001.out))) (Kd.Q_lt (by (with_reducible repeat (first | apply Kd.Q_alloc | apply Kd.Q_drewN | apply Kd.Q_drew)); exact HO_300003.out))) (below_size (by repeat (first | (with_reducible first | exact HB.out | apply below_alloc | apply pw_below_drewN | apply below_drew1 | refine below_set ?_ GE280.out | refine below_set ?_ GE289.out | refine below_set ?_ GE298.out | refine below_set ?_ GE299.out) | exact HB.out))))
                        have n9_ := Aside0.mk (Kd.Q_lower (Kd.Q_new' (Kd.Q_new' (Kd.Q_new' (Kd.Q_new' (Kd.Q_new' (Kd.Q_new' (Kd.Q_new' (Kd.Q_new' ho1 (Kd.Q_lt (by (with_reducible repeat (first | apply Kd.Q_alloc | apply Kd.Q_drewN | apply Kd.Q_drew)); exact HO_281001.out))) (Kd.Q_lt (by (with_reducible repeat (first | apply Kd.Q_alloc | apply Kd.Q_drewN | apply Kd.Q_drew)); exact HO_281003.out))) (Kd.Q_lt (by (with_reducible repeat (first | apply Kd.Q_alloc | apply Kd.Q_drewN | apply Kd.Q_drew)); exact HO_290001.out))) (Kd.Q_lt (by (with_reducible repeat (first | apply Kd.Q_alloc | apply Kd.Q_drewN | apply Kd.Q_drew)); exact HO_290003.out))) (Kd.Q_lt (by (with_reducible repeat (first | apply Kd.Q_alloc | apply Kd.Q_drewN | apply Kd.Q_drew)); exact HO_299001.out))) (Kd.Q_lt (by (with_reducible repeat (first | apply Kd.Q_alloc | apply Kd.Q_drewN | apply Kd.Q_drew)); exact HO_299003.out))) (Kd.Q_lt (by (with_reducible repeat (first | apply Kd.Q_alloc | apply Kd.Q_drewN | apply Kd.Q_drew)); exact HO_300001.out))) (Kd.Q_lt (by (with_reducible repeat (first | apply Kd.Q_alloc | apply Kd.Q_drewN | apply Kd.Q_drew)); exact HO_300003.out))) (below_size (by repeat (first | (with_reducible first | exact HB.out | apply below_alloc | apply pw_below_drewN | apply below_drew1 | refine below_set ?_ GE280.out | refine below_set ?_ GE289.out | refine below_set ?_ GE298.out | refine below_set ?_ GE299.out) | exact HB.out))))
                        have n10_ := Aside0.mk (blk_below (g := gb280) (o := .cells #[.bool t272, .slice Ao17 t273.length co17, .bool false, .slice Ao18 t277.length co18] 26 (0, 0)) (by (with_reducible repeat (first | refine blk_drewN ?_ _ | refine blk_drew ?_ | refine blk_alloc ?_ _)); exact BK280.out) hb)
                        have n11_ := Aside0.mk (blk_below (g := gb289) (o := .cells #[.bool t281, .slice Ao23 t282.length co23, .bool t285, .slice Ao24 t286.length co24] 26 (0, 0)) (by (with_reducible repeat (first | refine blk_drewN ?_ _ | refine blk_drew ?_ | refine blk_alloc ?_ _)); exact BK289.out) hb)
                        have n12_ := Aside0.mk (blk_below (g := gb298) (o := .cells #[.bool t290, .slice Ao30 t291.length co30, .bool t294, .slice Ao31 t295.length co31] 26 (0, 0)) (by (with_reducible repeat (first | refine blk_drewN ?_ _ | refine blk_drew ?_ | refine blk_alloc ?_ _)); exact BK298.out) hb)
                        have n13_ := Aside0.mk (blk_below (g := gb299) (o := .cells #[.bool x300000_12, .slice Ao118 x300001_12.length co118, .bool t285, .slice Ao24 t286.length co24] 26 (0, 0)) (by (with_reducible repeat (first | refine blk_drewN ?_ _ | refine blk_drew ?_ | refine blk_alloc ?_ _)); exact BK299.out) hb)
                        have n14_ := Aside0.mk (below_step (by repeat (first | (with_reducible first | exact HB.out | apply below_alloc | apply pw_below_drewN | apply below_drew1 | refine below_set ?_ GE280.out | refine below_set ?_ GE289.out | refine below_set ?_ GE298.out | refine below_set ?_ GE299.out) | exact HB.out)) hb)
                        clear HO_281001
                        clear HO_281003
                        clear HO_290001
                        clear HO_290003
                        clear HO_299001
                        clear HO_299003
                        clear HO_300001
                        clear HO_300003
                        clear BK280
                        clear BK289
                        clear BK298
                        clear BK299
                        clear HB
                        have HO_281001 := n0_
                        have HO_281003 := n1_
                        have HO_290001 := n2_
                        have HO_290003 := n3_
                        have HO_299001 := n4_
                        have HO_299003 := n5_
                        have HO_300001 := n6_
                        have HO_300003 := n7_
                        have HO314 := n8_
                        have HO318 := n9_
                        have BK280 := n10_
                        have BK289 := n11_
                        have BK298 := n12_
                        have BK299 := n13_
                        have HB := n14_
                        clear n0_ n1_ n2_ n3_ n4_ n5_ n6_ n7_ n8_ n9_ n10_ n11_ n12_ n13_ n14_
                        (try clear hb)
                        (try clear hb2)
                        (try clear hk)
                        (try clear hi)
                        (try clear ho0)
                        (try clear ho1)
                        obtain ⟨Ao122, co122, eo122, _⟩ := Kd.Q_slice HO314.out
                        (first | subst eo122 | (injection eo122 with f1_ f2_ f3_; have f4_ := f1_.symm; have f5_ := f3_.symm; clear f1_ f2_ f3_; subst f4_; subst f5_))
                        obtain ⟨Ao123, co123, eo123, _⟩ := Kd.Q_slice HO318.out
                        (first | subst eo123 | (injection eo123 with f1_ f2_ f3_; have f4_ := f1_.symm; have f5_ := f3_.symm; clear f1_ f2_ f3_; subst f4_; subst f5_))
                        refine hK.out _ _ ⟨(blk_cell BK280.out 0).trans rfl, (blk_cell BK280.out 1).trans rfl, (blk_cell BK280.out 2).trans rfl, (blk_cell BK280.out 3).trans rfl⟩ (fun hHeld => ?_)
                        clear hK K
                        refine norm_ (a' := ?_) ?_ ?_
                        rotate_left
                        · show Act.put _ (some 55) _ = _
                          simp only [Act.put, List.setIfInBounds_toArray, List.set_cons_zero, List.set_cons_succ, i64_w, i32_w]
                          rfl
                        refine one_ (i := 4) (N := some 57) #[true, true, true, true, true, false] rfl rfl (by kernel_rfl) (by decide) (fun K hK => ?_)
                        refine goes_ Tryd.func10 (by kernel_rfl) rfl #[.agg #[.bool t311, .slice Ao122 t312.length co122, .bool t315, .slice Ao123 t316.length co123], .agg #[.bool t272, .slice Ao17 t273.length co17, .bool false, .slice Ao18 t277.length co18]] (by rfl) rfl rfl (by (try simp only [List.map_toArray, List.map_cons, List.map_nil]); first | done | rfl | (simp only [List.length_drop, List.length_take]; rfl)) ?_
                        with_reducible refine (glacisref10_SameOne.calls kj12 t311 _ _ t312 t315 _ _ t316 t272 _ _ t273 false _ _ t277 t319 _ ?side1 ?side2 ?side3 ?side4 ?side5 ?side6 ?side7 ?side8 A105.out).mono ?_
                        (case side1 => repeat (first | exact (Kd.Q_reads' HO314.out).2.2 | (with_reducible refine Kd.C_alloc ?_ _) | (with_reducible refine Kd.C_drewN ?_ _) | (with_reducible refine Kd.C_drew ?_)))
                        (case side2 => exact (Kd.Q_reads' HO314.out).2.1)
                        (case side3 => repeat (first | exact (Kd.Q_reads' HO318.out).2.2 | (with_reducible refine Kd.C_alloc ?_ _) | (with_reducible refine Kd.C_drewN ?_ _) | (with_reducible refine Kd.C_drew ?_)))
                        (case side4 => exact (Kd.Q_reads' HO318.out).2.1)
                        (case side5 => repeat (first | exact (Kd.Q_reads' HO_281001.out).2.2 | (with_reducible refine Kd.C_alloc ?_ _) | (with_reducible refine Kd.C_drewN ?_ _) | (with_reducible refine Kd.C_drew ?_)))
                        (case side6 => exact (Kd.Q_reads' HO_281001.out).2.1)
                        (case side7 => repeat (first | exact (Kd.Q_reads' HO_281003.out).2.2 | (with_reducible refine Kd.C_alloc ?_ _) | (with_reducible refine Kd.C_drewN ?_ _) | (with_reducible refine Kd.C_drew ?_)))
                        (case side8 => exact (Kd.Q_reads' HO_281003.out).2.1)
                        rintro e w124 ⟨rfl, hb⟩
                        refine ⟨_, rfl, ?_⟩
                        have n0_ := Aside0.mk (Kd.Q_below (by (with_reducible repeat (first | apply Kd.Q_alloc | apply Kd.Q_drewN | apply Kd.Q_drew)); exact HO_281001.out) hb)
                        have n1_ := Aside0.mk (Kd.Q_below (by (with_reducible repeat (first | apply Kd.Q_alloc | apply Kd.Q_drewN | apply Kd.Q_drew)); exact HO_281003.out) hb)
                        have n2_ := Aside0.mk (Kd.Q_below (by (with_reducible repeat (first | apply Kd.Q_alloc | apply Kd.Q_drewN | apply Kd.Q_drew)); exact HO_290001.out) hb)
                        have n3_ := Aside0.mk (Kd.Q_below (by (with_reducible repeat (first | apply Kd.Q_alloc | apply Kd.Q_drewN | apply Kd.Q_drew)); exact HO_290003.out) hb)
                        have n4_ := Aside0.mk (Kd.Q_below (by (with_reducible repeat (first | apply Kd.Q_alloc | apply Kd.Q_drewN | apply Kd.Q_drew)); exact HO_299001.out) hb)
                        have n5_ := Aside0.mk (Kd.Q_below (by (with_reducible repeat (first | apply Kd.Q_alloc | apply Kd.Q_drewN | apply Kd.Q_drew)); exact HO_299003.out) hb)
                        have n6_ := Aside0.mk (Kd.Q_below (by (with_reducible repeat (first | apply Kd.Q_alloc | apply Kd.Q_drewN | apply Kd.Q_drew)); exact HO_300001.out) hb)
                        have n7_ := Aside0.mk (Kd.Q_below (by (with_reducible repeat (first | apply Kd.Q_alloc | apply Kd.Q_drewN | apply Kd.Q_drew)); exact HO_300003.out) hb)
                        have n8_ := Aside0.mk (Kd.Q_below (by (with_reducible repeat (first | apply Kd.Q_alloc | apply Kd.Q_drewN | apply Kd.Q_drew)); exact HO314.out) hb)
                        have n9_ := Aside0.mk (Kd.Q_below (by (with_reducible repeat (first | apply Kd.Q_alloc | apply Kd.Q_drewN | apply Kd.Q_drew)); exact HO318.out) hb)
                        have n10_ := Aside0.mk (blk_below (g := gb280) (o := .cells #[.bool t272, .slice Ao17 t273.length co17, .bool false, .slice Ao18 t277.length co18] 26 (0, 0)) (by (with_reducible repeat (first | refine blk_drewN ?_ _ | refine blk_drew ?_ | refine blk_alloc ?_ _)); exact BK280.out) hb)
                        have n11_ := Aside0.mk (blk_below (g := gb289) (o := .cells #[.bool t281, .slice Ao23 t282.length co23, .bool t285, .slice Ao24 t286.length co24] 26 (0, 0)) (by (with_reducible repeat (first | refine blk_drewN ?_ _ | refine blk_drew ?_ | refine blk_alloc ?_ _)); exact BK289.out) hb)
                        have n12_ := Aside0.mk (blk_below (g := gb298) (o := .cells #[.bool t290, .slice Ao30 t291.length co30, .bool t294, .slice Ao31 t295.length co31] 26 (0, 0)) (by (with_reducible repeat (first | refine blk_drewN ?_ _ | refine blk_drew ?_ | refine blk_alloc ?_ _)); exact BK298.out) hb)
                        have n13_ := Aside0.mk (blk_below (g := gb299) (o := .cells #[.bool x300000_12, .slice Ao118 x300001_12.length co118, .bool t285, .slice Ao24 t286.length co24] 26 (0, 0)) (by (with_reducible repeat (first | refine blk_drewN ?_ _ | refine blk_drew ?_ | refine blk_alloc ?_ _)); exact BK299.out) hb)
                        have n14_ := Aside0.mk (below_step (by repeat (first | (with_reducible first | exact HB.out | apply below_alloc | apply pw_below_drewN | apply below_drew1 | refine below_set ?_ GE280.out | refine below_set ?_ GE289.out | refine below_set ?_ GE298.out | refine below_set ?_ GE299.out) | exact HB.out)) hb)
                        clear HO_281001
                        clear HO_281003
                        clear HO_290001
                        clear HO_290003
                        clear HO_299001
                        clear HO_299003
                        clear HO_300001
                        clear HO_300003
                        clear HO314
                        clear HO318
                        clear BK280
                        clear BK289
                        clear BK298
                        clear BK299
                        clear HB
                        have HO_281001 := n0_
                        have HO_281003 := n1_
                        have HO_290001 := n2_
                        have HO_290003 := n3_
                        have HO_299001 := n4_
                        have HO_299003 := n5_
                        have HO_300001 := n6_
                        have HO_300003 := n7_
                        have HO314 := n8_
                        have HO318 := n9_
                        have BK280 := n10_
                        have BK289 := n11_
                        have BK298 := n12_
                        have BK299 := n13_
                        have HB := n14_
                        clear n0_ n1_ n2_ n3_ n4_ n5_ n6_ n7_ n8_ n9_ n10_ n11_ n12_ n13_ n14_
                        (try clear hb)
                        (try clear hb2)
                        (try clear hk)
                        (try clear hi)
                        refine hK.out _ _ ⟨(blk_cell BK280.out 0).trans rfl, (blk_cell BK280.out 1).trans rfl, (blk_cell BK280.out 2).trans rfl, (blk_cell BK280.out 3).trans rfl⟩ (fun hHeld => ?_)
                        clear hK K
                        refine norm_ (a' := ?_) ?_ ?_
                        rotate_left
                        · show Act.put _ (some 57) _ = _
                          simp only [Act.put, List.setIfInBounds_toArray, List.set_cons_zero, List.set_cons_succ, i64_w, i32_w]
                          rfl
                        refine pure_ (i := 5) (N := some 11) (v := ?_) (a' := ?_) #[true, true, true, true, true, true] rfl rfl (by kernel_rfl) (fun _ _ _ h => h) (Or.inl ⟨by rfl, ?_⟩) ?_ ?_
                        rotate_left
                        · intro w'
                          go_simp
                          with_reducible rfl
                        rotate_left
                        · simp only [Act.put, List.setIfInBounds_toArray, List.set_cons_zero, List.set_cons_succ, i64_w, i32_w]
                          rfl
                        refine done_ (by kernel_rfl) ?_
                        try go_wp2
                        go_ret
                        exact ⟨by first | rfl | (simp [errW_none, errW_some] <;> rfl) | (simp [*, errW_none, errW_some] <;> rfl) | (simp [q_ne_nil]; done), by repeat (first | (with_reducible first | exact HB.out | apply below_alloc | apply pw_below_drewN | apply below_drew1 | refine below_set ?_ GE280.out | refine below_set ?_ GE289.out | refine below_set ?_ GE298.out | refine below_set ?_ GE299.out) | exact HB.out)⟩
                      · exact absurd H (by rw [if_neg c107]; simp)
                    · exact absurd H (by rw [if_neg c106]; simp)
                  · exact absurd H (by rw [if_neg c103]; simp)
          · exact absurd H (by rw [if_neg c11]; simp)
        · exact absurd H (by rw [if_neg c10]; simp)

end Go.Proofs.YtkjlhhhnananlaaDoor.Q
