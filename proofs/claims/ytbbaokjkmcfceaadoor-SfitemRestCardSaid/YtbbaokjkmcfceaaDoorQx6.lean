-- Laid by this seat's own driver (wip/tools/drive.py) out of the translation.
import Derived.Test.YtbbaokjkmcfceaaDoorQx0
import Derived.Test.YtbbaokjkmcfceaaDoorQx2
import Derived.Test.YtbbaokjkmcfceaaDoorQx4
import Derived.Test.YtbbaokjkmcfceaaDoorQx5
namespace Go.Proofs.YtbbaokjkmcfceaaDoor.Q
open Go.RowKit Go.Proofs.YtbbaokjkmcfceaaDoorW.PrintWords Go.Proofs.YtbbaokjkmcfceaaDoorW.PrintLast Go.Proofs.YtbbaokjkmcfceaaDoorW.PrintMore
attribute [local go_sem] max2_int min2_int max_two min_two max_three min_three max_four min_four   -- for this text's walks alone
set_option linter.unusedVariables false
set_option linter.unusedSimpArgs false

/-! ### glacislaw05_SfitemRest: function 5 -/
def glacislaw05_SfitemRest.j0 : Nat → ByteArray → Bool → Int → Bool → Int → Int → ByteArray → List (S38) → Option (Bool)
  | 0, _, _, _, _, _, _, _, _ => none
  | k + 1, x0, x3, x7, x57, x205000, x205001, x205002, x205003 => if x57 = true then (none) else (if 0 ≤ x7 then (if x7 ≤ (x0.size : Int) then ((sfitem_Parse.f (x0.extract 0 (x7 : Int).toNat)).bind fun bt205 => ((glacisref05_Same.f k x205000 x205001 x205002 x205003 bt205.1 bt205.2.1 bt205.2.2.1 bt205.2.2.2.1).bind fun t213 => (if x3 = true then (if bt205.2.2.2.2 = 0 then (some t213) else (none)) else (none)))) else (none)) else (none))
def glacislaw05_SfitemRest.f (k : Nat) (a0 : ByteArray) : Option (Bool) := (glacislaw05_awake.f).bind fun t195 => (if (a0.size : Int) > 4000 then (some t195) else ((sfitem_Next.f a0).bind fun bt196 => (if bt196.2.2.2.2.2 = 0 then (if (wrap64 ((a0.size : Int) - (bt196.2.2.2.2.1.size : Int))) < 1 then (glacislaw05_SfitemRest.j0 k a0 t195 (wrap64 ((a0.size : Int) - (bt196.2.2.2.2.1.size : Int))) true bt196.1 bt196.2.1 bt196.2.2.1 bt196.2.2.2.1) else (if 0 ≤ (wrap64 ((a0.size : Int) - (bt196.2.2.2.2.1.size : Int))) then (if (wrap64 ((a0.size : Int) - (bt196.2.2.2.2.1.size : Int))) ≤ (a0.size : Int) then (if (a0.extract ((wrap64 ((a0.size : Int) - (bt196.2.2.2.2.1.size : Int))) : Int).toNat a0.size).toList = bt196.2.2.2.2.1.toList then (if (bt196.2.2.2.2.1.size : Int) > 0 then (if 0 < (bt196.2.2.2.2.1.size : Int) then (glacislaw05_SfitemRest.j0 k a0 t195 (wrap64 ((a0.size : Int) - (bt196.2.2.2.2.1.size : Int))) ((bt bt196.2.2.2.2.1 0) == 59) bt196.1 bt196.2.1 bt196.2.2.1 bt196.2.2.2.1) else (none)) else (glacislaw05_SfitemRest.j0 k a0 t195 (wrap64 ((a0.size : Int) - (bt196.2.2.2.2.1.size : Int))) false bt196.1 bt196.2.1 bt196.2.2.1 bt196.2.2.2.1)) else (glacislaw05_SfitemRest.j0 k a0 t195 (wrap64 ((a0.size : Int) - (bt196.2.2.2.2.1.size : Int))) true bt196.1 bt196.2.1 bt196.2.2.1 bt196.2.2.2.1)) else (none)) else (none))) else (if t195 = true then (if bt196.2.2.2.2.1.toList = ([] : List UInt8) then (some (bt196.1 == 0)) else (none)) else (none)))))
theorem glacislaw05_SfitemRest.mono_l : ∀ k, (∀ y0 y1 y2 y3 y4 y5 y6 y7, LeO (glacislaw05_SfitemRest.j0 k y0 y1 y2 y3 y4 y5 y6 y7) (glacislaw05_SfitemRest.j0 (k + 1) y0 y1 y2 y3 y4 y5 y6 y7))
  | 0 => fun _ _ _ _ _ _ _ _ r h => by simp [glacislaw05_SfitemRest.j0] at h
  | k + 1 => by
    have ih0 := glacislaw05_SfitemRest.mono_l k
    · intro y0 y1 y2 y3 y4 y5 y6 y7
      unfold glacislaw05_SfitemRest.j0
      repeat' first
      | (with_reducible exact ih0 _ _ _ _ _ _ _ _)
      | (with_reducible exact glacisref05_Same.mono _ _ _ _ _ _ _ _ _)
      | (with_reducible exact LeO.refl _)
      | (with_reducible exact LeO.none _)
      | (with_reducible refine LeO.ite ?_ ?_)
      | (with_reducible refine LeO.bind ?_ (fun _ => ?_))
      | exact ih0 _ _ _ _ _ _ _ _
      | exact glacisref05_Same.mono _ _ _ _ _ _ _ _ _
      | exact LeO.none _
      | refine LeO.ite ?_ ?_
      | refine LeO.bind ?_ (fun _ => ?_)
theorem glacislaw05_SfitemRest.mono : ∀ a0 k, LeO (glacislaw05_SfitemRest.f k a0) (glacislaw05_SfitemRest.f (k + 1) a0) := by
  intro a0 k
  have ih0 := glacislaw05_SfitemRest.mono_l k
  unfold glacislaw05_SfitemRest.f
  repeat' first
      | (with_reducible exact ih0 _ _ _ _ _ _ _ _)
      | (with_reducible exact glacisref05_Same.mono _ _ _ _ _ _ _ _ _)
      | (with_reducible exact LeO.refl _)
      | (with_reducible exact LeO.none _)
      | (with_reducible refine LeO.ite ?_ ?_)
      | (with_reducible refine LeO.bind ?_ (fun _ => ?_))
      | exact ih0 _ _ _ _ _ _ _ _
      | exact glacisref05_Same.mono _ _ _ _ _ _ _ _ _
      | exact LeO.none _
      | refine LeO.ite ?_ ?_
      | refine LeO.bind ?_ (fun _ => ?_)
set_option maxHeartbeats 8000000 in
set_option maxRecDepth 100000 in
theorem glacislaw05_SfitemRest.calls (k : Nat) (a0 : ByteArray) (r : Bool) (w : World) (hT_ : Aside0 (TabW w)) (h : glacislaw05_SfitemRest.f k a0 = some r) :
    Calls Tryd.prog 5 #[.string a0] w fun e w' => e = .returned (.bool r) ∧ Below w.heap.size w w' := by
  have hu25 := Tryd.underlying25
  have HB := Aside0.mk (Below.refl w.heap.size w)
  have H : ((glacislaw05_awake.f).bind fun t195 => (if (a0.size : Int) > 4000 then (some t195) else ((sfitem_Next.f a0).bind fun bt196 => (if bt196.2.2.2.2.2 = 0 then (if (wrap64 ((a0.size : Int) - (bt196.2.2.2.2.1.size : Int))) < 1 then (glacislaw05_SfitemRest.j0 k a0 t195 (wrap64 ((a0.size : Int) - (bt196.2.2.2.2.1.size : Int))) true bt196.1 bt196.2.1 bt196.2.2.1 bt196.2.2.2.1) else (if 0 ≤ (wrap64 ((a0.size : Int) - (bt196.2.2.2.2.1.size : Int))) then (if (wrap64 ((a0.size : Int) - (bt196.2.2.2.2.1.size : Int))) ≤ (a0.size : Int) then (if (a0.extract ((wrap64 ((a0.size : Int) - (bt196.2.2.2.2.1.size : Int))) : Int).toNat a0.size).toList = bt196.2.2.2.2.1.toList then (if (bt196.2.2.2.2.1.size : Int) > 0 then (if 0 < (bt196.2.2.2.2.1.size : Int) then (glacislaw05_SfitemRest.j0 k a0 t195 (wrap64 ((a0.size : Int) - (bt196.2.2.2.2.1.size : Int))) ((bt bt196.2.2.2.2.1 0) == 59) bt196.1 bt196.2.1 bt196.2.2.1 bt196.2.2.2.1) else (none)) else (glacislaw05_SfitemRest.j0 k a0 t195 (wrap64 ((a0.size : Int) - (bt196.2.2.2.2.1.size : Int))) false bt196.1 bt196.2.1 bt196.2.2.1 bt196.2.2.2.1)) else (glacislaw05_SfitemRest.j0 k a0 t195 (wrap64 ((a0.size : Int) - (bt196.2.2.2.2.1.size : Int))) true bt196.1 bt196.2.1 bt196.2.2.1 bt196.2.2.2.1)) else (none)) else (none))) else (if t195 = true then (if bt196.2.2.2.2.1.toList = ([] : List UInt8) then (some (bt196.1 == 0)) else (none)) else (none)))))) = some r := h
  clear h
  replace H := Option.bind_eq_some_iff.mp H
  obtain ⟨t195, A20, H⟩ := H
  replace H : (if (a0.size : Int) > 4000 then (some t195) else ((sfitem_Next.f a0).bind fun bt196 => (if bt196.2.2.2.2.2 = 0 then (if (wrap64 ((a0.size : Int) - (bt196.2.2.2.2.1.size : Int))) < 1 then (glacislaw05_SfitemRest.j0 k a0 t195 (wrap64 ((a0.size : Int) - (bt196.2.2.2.2.1.size : Int))) true bt196.1 bt196.2.1 bt196.2.2.1 bt196.2.2.2.1) else (if 0 ≤ (wrap64 ((a0.size : Int) - (bt196.2.2.2.2.1.size : Int))) then (if (wrap64 ((a0.size : Int) - (bt196.2.2.2.2.1.size : Int))) ≤ (a0.size : Int) then (if (a0.extract ((wrap64 ((a0.size : Int) - (bt196.2.2.2.2.1.size : Int))) : Int).toNat a0.size).toList = bt196.2.2.2.2.1.toList then (if (bt196.2.2.2.2.1.size : Int) > 0 then (if 0 < (bt196.2.2.2.2.1.size : Int) then (glacislaw05_SfitemRest.j0 k a0 t195 (wrap64 ((a0.size : Int) - (bt196.2.2.2.2.1.size : Int))) ((bt bt196.2.2.2.2.1 0) == 59) bt196.1 bt196.2.1 bt196.2.2.1 bt196.2.2.2.1) else (none)) else (glacislaw05_SfitemRest.j0 k a0 t195 (wrap64 ((a0.size : Int) - (bt196.2.2.2.2.1.size : Int))) false bt196.1 bt196.2.1 bt196.2.2.1 bt196.2.2.2.1)) else (glacislaw05_SfitemRest.j0 k a0 t195 (wrap64 ((a0.size : Int) - (bt196.2.2.2.2.1.size : Int))) true bt196.1 bt196.2.1 bt196.2.2.1 bt196.2.2.2.1)) else (none)) else (none))) else (if t195 = true then (if bt196.2.2.2.2.1.toList = ([] : List UInt8) then (some (bt196.1 == 0)) else (none)) else (none))))) = some r := H
  have A2 := Aside0.mk A20
  clear A20
  by_cases c3 : (a0.size : Int) > 4000
  · rw [if_pos c3] at H
    have c3b0 : decide (4000 < (a0.size : Int)) = true := decide_eq_true c3
    have c3b1 : decide (4000 < a0.size) = true := decide_eq_true (by omega)
    clear c3
    obtain rfl := Option.some.inj H
    go_enter Tryd.func5, Tryd.ntmps5
    go_wp2_with (first | ((with_reducible refine gate_callee (f := 9) rfl ?_); refine goesL_ (some 11) rfl rfl Tryd.func9 (by kernel_rfl) rfl #[] rfl (by (try simp only [List.map_toArray, List.map_cons, List.map_nil]); first | done | rfl | (simp only [List.length_drop, List.length_take]; rfl)) ?_; (with_reducible refine (glacislaw05_awake.calls  t195 _ (tab_ hT_ ?hTab) A2.out).mono ?_); (case hTab => exact (by repeat (first | (with_reducible first | exact HB.out | apply below_alloc | apply pw_below_drewN | apply below_drew1) | exact HB.out))); rintro e w4 ⟨rfl, hb⟩; refine ⟨_, rfl, ?_⟩; have n0_ := Aside0.mk (below_step (by repeat (first | (with_reducible first | exact HB.out | apply below_alloc | apply pw_below_drewN | apply below_drew1) | exact HB.out)) hb); clear HB; have HB := n0_; clear n0_; (try clear hb); (try clear hb2); (try clear hk); (try clear hi)))
    go_ret
    exact ⟨by first | rfl | (simp [errW_none, errW_some] <;> rfl) | (simp [*, errW_none, errW_some] <;> rfl) | (simp [q_ne_nil]; done), by repeat (first | (with_reducible first | exact HB.out | apply below_alloc | apply pw_below_drewN | apply below_drew1) | exact HB.out)⟩
  · rw [if_neg c3] at H
    have c3b0 : decide (4000 < (a0.size : Int)) = false := decide_eq_false c3
    have c3b1 : decide (4000 < a0.size) = false := decide_eq_false (by omega)
    clear c3
    replace H := Option.bind_eq_some_iff.mp H
    obtain ⟨⟨t196, t197, t198, t199, t202, t203⟩, A50, H⟩ := H
    replace H : (if t203 = 0 then (if (wrap64 ((a0.size : Int) - (t202.size : Int))) < 1 then (glacislaw05_SfitemRest.j0 k a0 t195 (wrap64 ((a0.size : Int) - (t202.size : Int))) true t196 t197 t198 t199) else (if 0 ≤ (wrap64 ((a0.size : Int) - (t202.size : Int))) then (if (wrap64 ((a0.size : Int) - (t202.size : Int))) ≤ (a0.size : Int) then (if (a0.extract ((wrap64 ((a0.size : Int) - (t202.size : Int))) : Int).toNat a0.size).toList = t202.toList then (if (t202.size : Int) > 0 then (if 0 < (t202.size : Int) then (glacislaw05_SfitemRest.j0 k a0 t195 (wrap64 ((a0.size : Int) - (t202.size : Int))) ((bt t202 0) == 59) t196 t197 t198 t199) else (none)) else (glacislaw05_SfitemRest.j0 k a0 t195 (wrap64 ((a0.size : Int) - (t202.size : Int))) false t196 t197 t198 t199)) else (glacislaw05_SfitemRest.j0 k a0 t195 (wrap64 ((a0.size : Int) - (t202.size : Int))) true t196 t197 t198 t199)) else (none)) else (none))) else (if t195 = true then (if t202.toList = ([] : List UInt8) then (some (t196 == 0)) else (none)) else (none))) = some r := H
    have A5 := Aside0.mk A50
    clear A50
    by_cases c6 : t203 = 0
    · rw [if_pos c6] at H
      have c6b0 : (t203 == 0) = true := beq_iff_eq.mpr c6
      have c6b1 : (t203 != 0) = false := bne_eq_false_iff_eq.mpr c6
      clear c6
      have HC7 := Aside0.mk H
      clear H
      go_enter Tryd.func5, Tryd.ntmps5
      go_upto_region 8 with (first | ((with_reducible refine gate_callee (f := 9) rfl ?_); refine goesL_ (some 11) rfl rfl Tryd.func9 (by kernel_rfl) rfl #[] rfl (by (try simp only [List.map_toArray, List.map_cons, List.map_nil]); first | done | rfl | (simp only [List.length_drop, List.length_take]; rfl)) ?_; (with_reducible refine (glacislaw05_awake.calls  t195 _ (tab_ hT_ ?hTab) A2.out).mono ?_); (case hTab => exact (by repeat (first | (with_reducible first | exact HB.out | apply below_alloc | apply pw_below_drewN | apply below_drew1) | exact HB.out))); rintro e w8 ⟨rfl, hb⟩; refine ⟨_, rfl, ?_⟩; have n0_ := Aside0.mk (below_step (by repeat (first | (with_reducible first | exact HB.out | apply below_alloc | apply pw_below_drewN | apply below_drew1) | exact HB.out)) hb); clear HB; have HB := n0_; clear n0_; (try clear hb); (try clear hb2); (try clear hk); (try clear hi)) | ((with_reducible refine gate_callee (f := 14) rfl ?_); refine goesL_ (some 18) rfl rfl Tryd.func14 (by kernel_rfl) rfl #[.string a0] rfl (by (try simp only [List.map_toArray, List.map_cons, List.map_nil]); first | done | rfl | (simp only [List.length_drop, List.length_take]; rfl)) ?_; (with_reducible refine (sfitem_Next.calls a0 t196 t197 t198 t199 t202 t203 _ A5.out).mono ?_); rintro e w9 ⟨v200, rfl, ho0, hb⟩; refine ⟨_, rfl, ?_⟩; have n0_ := Aside0.mk (Kd.R_lower ho0 (below_size (by repeat (first | (with_reducible first | exact HB.out | apply below_alloc | apply pw_below_drewN | apply below_drew1) | exact HB.out)))); have n1_ := Aside0.mk (below_step (by repeat (first | (with_reducible first | exact HB.out | apply below_alloc | apply pw_below_drewN | apply below_drew1) | exact HB.out)) hb); clear HB; have HO201 := n0_; have HB := n1_; clear n0_ n1_; (try clear hb); (try clear hb2); (try clear hk); (try clear hi); (try clear ho0)) | ((with_reducible refine gate_dst (N := 4) rfl ?_); (try (refine gate_guard (by rfl) ?_; dsimp only)); refine box_event ?hg (N := 4) ?hd (cs := #[.int .i64 0, .int .i64 0, .string (⟨#[]⟩ : ByteArray), .slice none 0 0]) (t := 25) ?hr ?_; (case hd => rfl); (case hg => rfl); (case hr => first | (go_simp; done) | (go_simp; rfl)); intro gb204 hg w10 hbox hb; have n0_ := Aside0.mk (Kd.R_below (by (with_reducible repeat (first | apply Kd.R_alloc | apply Kd.R_drewN | apply Kd.R_drew)); exact HO201.out) hb); have n1_ := Aside0.mk (below_step (by repeat (first | (with_reducible first | exact HB.out | apply below_alloc | apply pw_below_drewN | apply below_drew1) | exact HB.out)) hb); have n2_ := Aside0.mk (hbox); have n3_ := Aside0.mk ((by rw [hg]; exact (below_size (by repeat (first | (with_reducible first | exact HB.out | apply below_alloc | apply pw_below_drewN | apply below_drew1) | exact HB.out))) : w.heap.size ≤ gb204)); have n4_ := Aside0.mk ((by rw [hg]; exact (below_size (by repeat (first | (with_reducible first | exact HB.out | apply below_alloc | apply pw_below_drewN | apply below_drew1) | exact HB.out))) : w.heap.size ≤ gb204)); clear HO201; clear HB; have HO201 := n0_; have HB := n1_; have BK204 := n2_; have GW204 := n3_; have GE204 := n4_; clear n0_ n1_ n2_ n3_ n4_; clear hb hbox hg; have hcz11_0 : w10.cell? ⟨gb204, 0, none⟩ = some (.int .i64 0) := (blk_cell BK204.out 0).trans rfl; have hcz11_1 : w10.cell? ⟨gb204, 1, none⟩ = some (.int .i64 0) := (blk_cell BK204.out 1).trans rfl; have hcz11_2 : w10.cell? ⟨gb204, 2, none⟩ = some (.string (⟨#[]⟩ : ByteArray)) := (blk_cell BK204.out 2).trans rfl; have hcz11_3 : w10.cell? ⟨gb204, 3, none⟩ = some (.slice none 0 0) := (blk_cell BK204.out 3).trans rfl; have hfz11_0 := blk_frozen BK204.out 0; have hfz11_1 := blk_frozen BK204.out 1; have hfz11_2 := blk_frozen BK204.out 2; have hfz11_3 := blk_frozen BK204.out 3; obtain ⟨Ao12, co12, eo12⟩ := Kd.R_slice HO201.out; subst eo12))
      (try simp only [Act.put, List.setIfInBounds_toArray, List.set_cons_zero, List.set_cons_succ])
      go_cut [57] (fun v57 wc => ∃ (kq : Nat) (x57_6 : Bool), v57 = .bool x57_6 ∧ Aside0 (glacislaw05_SfitemRest.j0 kq a0 t195 (wrap64 ((a0.size : Int) - (t202.size : Int))) x57_6 t196 t197 t198 t199 = some r) ∧ Aside0 (kq ≤ k) ∧ Aside0 (Kd.R k38 38 wc w.heap.size (fun _ => True) (.slice Ao12 t199.length co12) t199) ∧ Aside0 (wc.heap[gb204]? = some (.cells #[.int .i64 t196, .int .i64 t197, .string t198, (.slice Ao12 t199.length co12)] 25 (0, 0))) ∧ Aside0 (Below w.heap.size w wc))
      case first =>
        have H := HC7.out
        clear HC7
        by_cases c13 : (wrap64 ((a0.size : Int) - (t202.size : Int))) < 1
        · rw [if_pos c13] at H
          have c13b0 : decide ((wrap64 ((a0.size : Int) - (t202.size : Int))) < 1) = true := decide_eq_true c13
          clear c13
          (first | rw [c13b0] | (simp only [i64_w, i32_w]; rw [c13b0]) | skip)
          have H' := Aside0.mk H
          clear H
          go_wp2
          go_meet
          case rel => exact ⟨_, (true), (by first | rfl | (simp; done) | (simp [*]; done) | (simp [q_ne_nil]; done)), H', ⟨by first | omega | exact Nat.le_refl _⟩, ⟨by (with_reducible repeat (first | apply Kd.R_alloc | apply Kd.R_drewN | apply Kd.R_drew)); exact Kd.R_mono (Kd.R_far (p := ⟨gb204, 3, none⟩) (Kd.R_far (p := ⟨gb204, 2, none⟩) (Kd.R_far (p := ⟨gb204, 1, none⟩) (Kd.R_far (p := ⟨gb204, 0, none⟩) (Kd.R_types HO201.out BK204.out (by decide)) (fun _ hk => hk.2) (.int .i64 t196)) (fun _ hk => hk.2) (.int .i64 t197)) (fun _ hk => hk.2) (.string t198)) (fun _ hk => hk.2) (.slice Ao12 t199.length co12)) (fun _ hk => trivial)⟩, ⟨by (with_reducible repeat (first | refine blk_drewN ?_ _ | refine blk_drew ?_ | refine blk_alloc ?_ _)); refine blk_put (cs := #[.int .i64 t196, .int .i64 t197, .string t198, .slice none 0 0]) ?_ 3 _ rfl; (with_reducible repeat (first | refine blk_drewN ?_ _ | refine blk_drew ?_ | refine blk_alloc ?_ _)); refine blk_put (cs := #[.int .i64 t196, .int .i64 t197, .string (⟨#[]⟩ : ByteArray), .slice none 0 0]) ?_ 2 _ rfl; (with_reducible repeat (first | refine blk_drewN ?_ _ | refine blk_drew ?_ | refine blk_alloc ?_ _)); refine blk_put (cs := #[.int .i64 t196, .int .i64 0, .string (⟨#[]⟩ : ByteArray), .slice none 0 0]) ?_ 1 _ rfl; (with_reducible repeat (first | refine blk_drewN ?_ _ | refine blk_drew ?_ | refine blk_alloc ?_ _)); refine blk_put (cs := #[.int .i64 0, .int .i64 0, .string (⟨#[]⟩ : ByteArray), .slice none 0 0]) ?_ 0 _ rfl; (with_reducible repeat (first | refine blk_drewN ?_ _ | refine blk_drew ?_ | refine blk_alloc ?_ _)); exact BK204.out⟩, ⟨by repeat (first | (with_reducible first | exact HB.out | apply below_alloc | apply pw_below_drewN | apply below_drew1 | refine below_set ?_ GE204.out) | exact HB.out)⟩⟩
        · rw [if_neg c13] at H
          have c13b0 : decide ((wrap64 ((a0.size : Int) - (t202.size : Int))) < 1) = false := decide_eq_false c13
          clear c13
          (first | rw [c13b0] | (simp only [i64_w, i32_w]; rw [c13b0]) | skip)
          obtain ⟨ji14, hji14⟩ : ∃ j_ : Int, (wrap64 ((a0.size : Int) - (t202.size : Int))) = j_ := ⟨_, rfl⟩
          replace H : (if 0 ≤ (ji14) then (if (ji14) ≤ (a0.size : Int) then (if (a0.extract ((ji14) : Int).toNat a0.size).toList = t202.toList then (if (t202.size : Int) > 0 then (if 0 < (t202.size : Int) then (glacislaw05_SfitemRest.j0 k a0 t195 ji14 ((bt t202 0) == 59) t196 t197 t198 t199) else (none)) else (glacislaw05_SfitemRest.j0 k a0 t195 ji14 false t196 t197 t198 t199)) else (glacislaw05_SfitemRest.j0 k a0 t195 ji14 true t196 t197 t198 t199)) else (none)) else (none)) = some r := by first | (rw [hji14] at H; exact H) | (simp only [hji14] at H ⊢; exact H)
          (try rw [hji14] at c13b0)
          have hji14w : (IntKind.i64.wrap ((a0.size : Int) - (t202.size : Int))) = ji14 := (i64_w _).trans hji14
          by_cases c15 : 0 ≤ (ji14)
          · rw [if_pos c15] at H
            have c15b0 := eq_true c15
            have c15b1 : decide (0 ≤ (ji14)) = true := decide_eq_true c15
            clear c15
            by_cases c16 : (ji14) ≤ (a0.size : Int)
            · rw [if_pos c16] at H
              have c16b0 := eq_true c16
              have c16b1 : decide ((ji14) ≤ (a0.size : Int)) = true := decide_eq_true c16
              clear c16
              by_cases c17 : (a0.extract ((ji14) : Int).toNat a0.size).toList = t202.toList
              · rw [if_pos c17] at H
                have c17b0 : ((a0.extract ((ji14) : Int).toNat a0.size).toList == t202.toList) = true := beq_iff_eq.mpr c17
                have c17b1 : ((a0.extract ((ji14) : Int).toNat a0.size).toList != t202.toList) = false := bne_eq_false_iff_eq.mpr c17
                clear c17
                by_cases c18 : (t202.size : Int) > 0
                · rw [if_pos c18] at H
                  have c18b0 : decide (0 < (t202.size : Int)) = true := decide_eq_true c18
                  have c18b1 : decide (0 < t202.size) = true := decide_eq_true (by omega)
                  clear c18
                  by_cases c19 : 0 < (t202.size : Int)
                  · rw [if_pos c19] at H
                    have c19b0 : decide (0 < (t202.size : Int)) = true := decide_eq_true c19
                    have c19b1 : decide (0 < t202.size) = true := decide_eq_true (by omega)
                    clear c19
                    have H' := Aside0.mk H
                    clear H
                    have p20 : 0 ≤ (0 : Int) := (by omega)
                    have q20 : 0 < t202.size := (by have : (0 : Int) < (t202.size : Int) := of_decide_eq_true (by first | (with_reducible assumption) | assumption); omega)
                    have hx20 : ∀ h : 0 < t202.size, ((t202[0]'h).toNat : Int) = bt t202 0 := bt_at t202 0
                    clear p20
                    have qi20 : (0 < (t202.size : Int)) = True := eq_true (of_decide_eq_true (by first | (with_reducible assumption) | assumption))
                    replace q20 := eq_true q20
                    go_wp2
                    go_meet
                    case rel => exact ⟨_, (((bt t202 0) == 59)), (by first | rfl | (simp; done) | (simp [*]; done) | (simp [q_ne_nil]; done)), (by first | exact H' | (rw [hji14]; exact H')), ⟨by first | omega | exact Nat.le_refl _⟩, ⟨by (with_reducible repeat (first | apply Kd.R_alloc | apply Kd.R_drewN | apply Kd.R_drew)); exact Kd.R_mono (Kd.R_far (p := ⟨gb204, 3, none⟩) (Kd.R_far (p := ⟨gb204, 2, none⟩) (Kd.R_far (p := ⟨gb204, 1, none⟩) (Kd.R_far (p := ⟨gb204, 0, none⟩) (Kd.R_types HO201.out BK204.out (by decide)) (fun _ hk => hk.2) (.int .i64 t196)) (fun _ hk => hk.2) (.int .i64 t197)) (fun _ hk => hk.2) (.string t198)) (fun _ hk => hk.2) (.slice Ao12 t199.length co12)) (fun _ hk => trivial)⟩, ⟨by (with_reducible repeat (first | refine blk_drewN ?_ _ | refine blk_drew ?_ | refine blk_alloc ?_ _)); refine blk_put (cs := #[.int .i64 t196, .int .i64 t197, .string t198, .slice none 0 0]) ?_ 3 _ rfl; (with_reducible repeat (first | refine blk_drewN ?_ _ | refine blk_drew ?_ | refine blk_alloc ?_ _)); refine blk_put (cs := #[.int .i64 t196, .int .i64 t197, .string (⟨#[]⟩ : ByteArray), .slice none 0 0]) ?_ 2 _ rfl; (with_reducible repeat (first | refine blk_drewN ?_ _ | refine blk_drew ?_ | refine blk_alloc ?_ _)); refine blk_put (cs := #[.int .i64 t196, .int .i64 0, .string (⟨#[]⟩ : ByteArray), .slice none 0 0]) ?_ 1 _ rfl; (with_reducible repeat (first | refine blk_drewN ?_ _ | refine blk_drew ?_ | refine blk_alloc ?_ _)); refine blk_put (cs := #[.int .i64 0, .int .i64 0, .string (⟨#[]⟩ : ByteArray), .slice none 0 0]) ?_ 0 _ rfl; (with_reducible repeat (first | refine blk_drewN ?_ _ | refine blk_drew ?_ | refine blk_alloc ?_ _)); exact BK204.out⟩, ⟨by repeat (first | (with_reducible first | exact HB.out | apply below_alloc | apply pw_below_drewN | apply below_drew1 | refine below_set ?_ GE204.out) | exact HB.out)⟩⟩
                  · exact absurd H (by rw [if_neg c19]; simp)
                · rw [if_neg c18] at H
                  have c18b0 : decide (0 < (t202.size : Int)) = false := decide_eq_false c18
                  have c18b1 : decide (0 < t202.size) = false := decide_eq_false (by omega)
                  clear c18
                  have H' := Aside0.mk H
                  clear H
                  go_wp2
                  go_meet
                  case rel => exact ⟨_, (false), (by first | rfl | (simp; done) | (simp [*]; done) | (simp [q_ne_nil]; done)), (by first | exact H' | (rw [hji14]; exact H')), ⟨by first | omega | exact Nat.le_refl _⟩, ⟨by (with_reducible repeat (first | apply Kd.R_alloc | apply Kd.R_drewN | apply Kd.R_drew)); exact Kd.R_mono (Kd.R_far (p := ⟨gb204, 3, none⟩) (Kd.R_far (p := ⟨gb204, 2, none⟩) (Kd.R_far (p := ⟨gb204, 1, none⟩) (Kd.R_far (p := ⟨gb204, 0, none⟩) (Kd.R_types HO201.out BK204.out (by decide)) (fun _ hk => hk.2) (.int .i64 t196)) (fun _ hk => hk.2) (.int .i64 t197)) (fun _ hk => hk.2) (.string t198)) (fun _ hk => hk.2) (.slice Ao12 t199.length co12)) (fun _ hk => trivial)⟩, ⟨by (with_reducible repeat (first | refine blk_drewN ?_ _ | refine blk_drew ?_ | refine blk_alloc ?_ _)); refine blk_put (cs := #[.int .i64 t196, .int .i64 t197, .string t198, .slice none 0 0]) ?_ 3 _ rfl; (with_reducible repeat (first | refine blk_drewN ?_ _ | refine blk_drew ?_ | refine blk_alloc ?_ _)); refine blk_put (cs := #[.int .i64 t196, .int .i64 t197, .string (⟨#[]⟩ : ByteArray), .slice none 0 0]) ?_ 2 _ rfl; (with_reducible repeat (first | refine blk_drewN ?_ _ | refine blk_drew ?_ | refine blk_alloc ?_ _)); refine blk_put (cs := #[.int .i64 t196, .int .i64 0, .string (⟨#[]⟩ : ByteArray), .slice none 0 0]) ?_ 1 _ rfl; (with_reducible repeat (first | refine blk_drewN ?_ _ | refine blk_drew ?_ | refine blk_alloc ?_ _)); refine blk_put (cs := #[.int .i64 0, .int .i64 0, .string (⟨#[]⟩ : ByteArray), .slice none 0 0]) ?_ 0 _ rfl; (with_reducible repeat (first | refine blk_drewN ?_ _ | refine blk_drew ?_ | refine blk_alloc ?_ _)); exact BK204.out⟩, ⟨by repeat (first | (with_reducible first | exact HB.out | apply below_alloc | apply pw_below_drewN | apply below_drew1 | refine below_set ?_ GE204.out) | exact HB.out)⟩⟩
              · rw [if_neg c17] at H
                have c17b0 : ((a0.extract ((ji14) : Int).toNat a0.size).toList == t202.toList) = false := beq_eq_false_iff_ne.mpr c17
                have c17b1 : ((a0.extract ((ji14) : Int).toNat a0.size).toList != t202.toList) = true := bne_iff_ne.mpr c17
                have H' := Aside0.mk H
                clear H
                go_wp2
                go_meet
                case rel => exact ⟨_, (true), (by first | rfl | (simp; done) | (simp [*]; done) | (simp [q_ne_nil]; done)), (by first | exact H' | (rw [hji14]; exact H')), ⟨by first | omega | exact Nat.le_refl _⟩, ⟨by (with_reducible repeat (first | apply Kd.R_alloc | apply Kd.R_drewN | apply Kd.R_drew)); exact Kd.R_mono (Kd.R_far (p := ⟨gb204, 3, none⟩) (Kd.R_far (p := ⟨gb204, 2, none⟩) (Kd.R_far (p := ⟨gb204, 1, none⟩) (Kd.R_far (p := ⟨gb204, 0, none⟩) (Kd.R_types HO201.out BK204.out (by decide)) (fun _ hk => hk.2) (.int .i64 t196)) (fun _ hk => hk.2) (.int .i64 t197)) (fun _ hk => hk.2) (.string t198)) (fun _ hk => hk.2) (.slice Ao12 t199.length co12)) (fun _ hk => trivial)⟩, ⟨by (with_reducible repeat (first | refine blk_drewN ?_ _ | refine blk_drew ?_ | refine blk_alloc ?_ _)); refine blk_put (cs := #[.int .i64 t196, .int .i64 t197, .string t198, .slice none 0 0]) ?_ 3 _ rfl; (with_reducible repeat (first | refine blk_drewN ?_ _ | refine blk_drew ?_ | refine blk_alloc ?_ _)); refine blk_put (cs := #[.int .i64 t196, .int .i64 t197, .string (⟨#[]⟩ : ByteArray), .slice none 0 0]) ?_ 2 _ rfl; (with_reducible repeat (first | refine blk_drewN ?_ _ | refine blk_drew ?_ | refine blk_alloc ?_ _)); refine blk_put (cs := #[.int .i64 t196, .int .i64 0, .string (⟨#[]⟩ : ByteArray), .slice none 0 0]) ?_ 1 _ rfl; (with_reducible repeat (first | refine blk_drewN ?_ _ | refine blk_drew ?_ | refine blk_alloc ?_ _)); refine blk_put (cs := #[.int .i64 0, .int .i64 0, .string (⟨#[]⟩ : ByteArray), .slice none 0 0]) ?_ 0 _ rfl; (with_reducible repeat (first | refine blk_drewN ?_ _ | refine blk_drew ?_ | refine blk_alloc ?_ _)); exact BK204.out⟩, ⟨by repeat (first | (with_reducible first | exact HB.out | apply below_alloc | apply pw_below_drewN | apply below_drew1 | refine below_set ?_ GE204.out) | exact HB.out)⟩⟩
            · exact absurd H (by rw [if_neg c16]; simp)
          · exact absurd H (by rw [if_neg c15]; simp)
      case rest =>
        clear HC7
        try clear c1
        try clear p2
        try clear q2
        try clear hx2
        try clear qi2
        try clear c3
        try clear c3b0
        try clear c3b1
        try clear c5
        try clear c6
        try clear c6b0
        try clear c6b1
        try clear p6
        try clear c9
        try clear c13
        try clear c13b0
        try clear c14
        try clear c15
        try clear c15b0
        try clear c15b1
        try clear c16
        try clear c16b0
        try clear c16b1
        try clear c17
        try clear c17b0
        try clear c17b1
        try clear c18
        try clear c18b0
        try clear c18b1
        try clear c19
        try clear c19b0
        try clear c19b1
        try clear p20
        try clear q20
        try clear hx20
        try clear qi20
        try clear hcz11_0
        try clear hcz11_1
        try clear hcz11_2
        try clear hcz11_3
        try clear hfz11_0
        try clear hfz11_1
        try clear hfz11_2
        try clear hfz11_3
        try clear p20
        try clear q20
        obtain ⟨kq, x57_6, rfl, HA, HJ6, HO_205003, BK204, HB⟩ := hcut
        cases kq with
        | zero => exact absurd HA.out (by simp [glacislaw05_SfitemRest.j0])
        | succ kj6 =>
          have H := HA.out
          clear HA
          simp only [glacislaw05_SfitemRest.j0] at H
          by_cases c21 : x57_6 = true
          · subst c21
            have H1 : (none) = some r := by rw [if_pos rfl] at H; exact H
            clear H
            have H := H1
            clear H1
            exact absurd H (by simp)
          · replace c21 := Bool.eq_false_iff.mpr c21
            subst c21
            have H1 : (if 0 ≤ (wrap64 ((a0.size : Int) - (t202.size : Int))) then (if (wrap64 ((a0.size : Int) - (t202.size : Int))) ≤ (a0.size : Int) then ((sfitem_Parse.f (a0.extract 0 ((wrap64 ((a0.size : Int) - (t202.size : Int))) : Int).toNat)).bind fun bt205 => ((glacisref05_Same.f kj6 t196 t197 t198 t199 bt205.1 bt205.2.1 bt205.2.2.1 bt205.2.2.2.1).bind fun t213 => (if t195 = true then (if bt205.2.2.2.2 = 0 then (some t213) else (none)) else (none)))) else (none)) else (none)) = some r := by rw [if_neg (show ¬ (false = true) by decide)] at H; exact H
            clear H
            have H := H1
            clear H1
            obtain ⟨ji22, hji22⟩ : ∃ j_ : Int, (wrap64 ((a0.size : Int) - (t202.size : Int))) = j_ := ⟨_, rfl⟩
            replace H : (if 0 ≤ (ji22) then (if (ji22) ≤ (a0.size : Int) then ((sfitem_Parse.f (a0.extract 0 ((ji22) : Int).toNat)).bind fun bt205 => ((glacisref05_Same.f kj6 t196 t197 t198 t199 bt205.1 bt205.2.1 bt205.2.2.1 bt205.2.2.2.1).bind fun t213 => (if t195 = true then (if bt205.2.2.2.2 = 0 then (some t213) else (none)) else (none)))) else (none)) else (none)) = some r := by first | (rw [hji22] at H; exact H) | (simp only [hji22] at H ⊢; exact H)
            have hji22w : (IntKind.i64.wrap ((a0.size : Int) - (t202.size : Int))) = ji22 := (i64_w _).trans hji22
            by_cases c23 : 0 ≤ (ji22)
            · rw [if_pos c23] at H
              have c23b0 := eq_true c23
              have c23b1 : decide (0 ≤ (ji22)) = true := decide_eq_true c23
              clear c23
              by_cases c24 : (ji22) ≤ (a0.size : Int)
              · rw [if_pos c24] at H
                have c24b0 := eq_true c24
                have c24b1 : decide ((ji22) ≤ (a0.size : Int)) = true := decide_eq_true c24
                clear c24
                replace H := Option.bind_eq_some_iff.mp H
                obtain ⟨⟨t205, t206, t207, t208, t211⟩, A250, H⟩ := H
                replace H : ((glacisref05_Same.f kj6 t196 t197 t198 t199 t205 t206 t207 t208).bind fun t213 => (if t195 = true then (if t211 = 0 then (some t213) else (none)) else (none))) = some r := H
                have A25 := Aside0.mk A250
                clear A250
                replace H := Option.bind_eq_some_iff.mp H
                obtain ⟨t213, A260, H⟩ := H
                replace H : (if t195 = true then (if t211 = 0 then (some t213) else (none)) else (none)) = some r := H
                have A26 := Aside0.mk A260
                clear A260
                by_cases c27 : t195 = true
                · subst c27
                  have H1 : (if t211 = 0 then (some t213) else (none)) = some r := by rw [if_pos rfl] at H; exact H
                  clear H
                  have H := H1
                  clear H1
                  by_cases c28 : t211 = 0
                  · rw [if_pos c28] at H
                    have c28b0 : (t211 == 0) = true := beq_iff_eq.mpr c28
                    have c28b1 : (t211 != 0) = false := bne_eq_false_iff_eq.mpr c28
                    clear c28
                    obtain rfl := Option.some.inj H
                    go_wp2_with (first | ((with_reducible refine gate_callee (f := 12) rfl ?_); refine goesL_ (some 62) rfl rfl Tryd.func12 (by kernel_rfl) rfl #[.string (a0.extract 0 ((ji22) : Int).toNat)] rfl (by (try simp only [List.map_toArray, List.map_cons, List.map_nil]); first | done | (simp only [hji22]; rfl) | rfl | (simp only [List.length_drop, List.length_take]; rfl)) ?_; (with_reducible refine (sfitem_Parse.calls (a0.extract 0 ((ji22) : Int).toNat) t205 t206 t207 t208 t211 _ A25.out).mono ?_); rintro e w29 ⟨v209, rfl, ho0, hb⟩; refine ⟨_, rfl, ?_⟩; have n0_ := Aside0.mk (Kd.R_elder' (by (with_reducible repeat (first | apply Kd.R_alloc | apply Kd.R_drewN | apply Kd.R_drew)); exact HO_205003.out) (Kd.R_base ho0) hb); have n1_ := Aside0.mk (Kd.R_lower (Kd.R_new' ho0 (Kd.R_lt (by (with_reducible repeat (first | apply Kd.R_alloc | apply Kd.R_drewN | apply Kd.R_drew)); exact HO_205003.out))) (below_size (by repeat (first | (with_reducible first | exact HB.out | apply below_alloc | apply pw_below_drewN | apply below_drew1 | refine below_set ?_ GE204.out) | exact HB.out)))); have n2_ := Aside0.mk (blk_below (g := gb204) (o := .cells #[.int .i64 t196, .int .i64 t197, .string t198, .slice Ao12 t199.length co12] 25 (0, 0)) (by (with_reducible repeat (first | refine blk_drewN ?_ _ | refine blk_drew ?_ | refine blk_alloc ?_ _)); exact BK204.out) hb); have n3_ := Aside0.mk (below_step (by repeat (first | (with_reducible first | exact HB.out | apply below_alloc | apply pw_below_drewN | apply below_drew1 | refine below_set ?_ GE204.out) | exact HB.out)) hb); clear HO_205003; clear BK204; clear HB; have HO_205003 := n0_; have HO210 := n1_; have BK204 := n2_; have HB := n3_; clear n0_ n1_ n2_ n3_; (try clear hb); (try clear hb2); (try clear hk); (try clear hi); (try clear ho0)) | ((with_reducible refine gate_dst (N := 8) rfl ?_); (try (refine gate_guard (by rfl) ?_; dsimp only)); refine box_event ?hg (N := 8) ?hd (cs := #[.int .i64 0, .int .i64 0, .string (⟨#[]⟩ : ByteArray), .slice none 0 0]) (t := 25) ?hr ?_; (case hd => rfl); (case hg => rfl); (case hr => first | (go_simp; done) | (go_simp; rfl)); intro gb212 hg w30 hbox hb; have n0_ := Aside0.mk (Kd.R_below (by (with_reducible repeat (first | apply Kd.R_alloc | apply Kd.R_drewN | apply Kd.R_drew)); exact HO_205003.out) hb); have n1_ := Aside0.mk (Kd.R_below (by (with_reducible repeat (first | apply Kd.R_alloc | apply Kd.R_drewN | apply Kd.R_drew)); exact HO210.out) hb); have n2_ := Aside0.mk (blk_below (g := gb204) (o := .cells #[.int .i64 t196, .int .i64 t197, .string t198, .slice Ao12 t199.length co12] 25 (0, 0)) (by (with_reducible repeat (first | refine blk_drewN ?_ _ | refine blk_drew ?_ | refine blk_alloc ?_ _)); exact BK204.out) hb); have n3_ := Aside0.mk (below_step (by repeat (first | (with_reducible first | exact HB.out | apply below_alloc | apply pw_below_drewN | apply below_drew1 | refine below_set ?_ GE204.out) | exact HB.out)) hb); have n4_ := Aside0.mk (hbox); have n5_ := Aside0.mk ((by rw [hg]; exact (below_size (by repeat (first | (with_reducible first | exact HB.out | apply below_alloc | apply pw_below_drewN | apply below_drew1 | refine below_set ?_ GE204.out) | exact HB.out))) : w.heap.size ≤ gb212)); have n6_ := Aside0.mk ((by rw [hg]; exact (below_size (by repeat (first | (with_reducible first | exact HB.out | apply below_alloc | apply pw_below_drewN | apply below_drew1 | refine below_set ?_ GE204.out) | exact HB.out))) : w.heap.size ≤ gb212)); have n7_ := Aside0.mk ((by rw [hg]; exact Nat.ne_of_lt (blk_lt (g := gb204) (o := .cells #[.int .i64 t196, .int .i64 t197, .string t198, .slice Ao12 t199.length co12] 25 (0, 0)) (by (with_reducible repeat (first | refine blk_drewN ?_ _ | refine blk_drew ?_ | refine blk_alloc ?_ _)); exact BK204.out)) : gb204 ≠ gb212)); have n8_ := Aside0.mk ((by rw [hg]; exact Nat.ne_of_gt (blk_lt (g := gb204) (o := .cells #[.int .i64 t196, .int .i64 t197, .string t198, .slice Ao12 t199.length co12] 25 (0, 0)) (by (with_reducible repeat (first | refine blk_drewN ?_ _ | refine blk_drew ?_ | refine blk_alloc ?_ _)); exact BK204.out)) : gb212 ≠ gb204)); clear HO_205003; clear HO210; clear BK204; clear HB; have HO_205003 := n0_; have HO210 := n1_; have BK204 := n2_; have HB := n3_; have BK212 := n4_; have GW212 := n5_; have GE212 := n6_; have NB204_212 := n7_; have NB212_204 := n8_; clear n0_ n1_ n2_ n3_ n4_ n5_ n6_ n7_ n8_; clear hb hbox hg; have hnb31 := NB212_204.out; have hnc31 := NB204_212.out; have hcz32_0 : w30.cell? ⟨gb212, 0, none⟩ = some (.int .i64 0) := (blk_cell BK212.out 0).trans rfl; have hcz32_1 : w30.cell? ⟨gb212, 1, none⟩ = some (.int .i64 0) := (blk_cell BK212.out 1).trans rfl; have hcz32_2 : w30.cell? ⟨gb212, 2, none⟩ = some (.string (⟨#[]⟩ : ByteArray)) := (blk_cell BK212.out 2).trans rfl; have hcz32_3 : w30.cell? ⟨gb212, 3, none⟩ = some (.slice none 0 0) := (blk_cell BK212.out 3).trans rfl; have hfz32_0 := blk_frozen BK212.out 0; have hfz32_1 := blk_frozen BK212.out 1; have hfz32_2 := blk_frozen BK212.out 2; have hfz32_3 := blk_frozen BK212.out 3; obtain ⟨Ao33, co33, eo33⟩ := Kd.R_slice HO210.out; subst eo33; have hcz34_0 : w30.cell? ⟨gb204, 0, none⟩ = some (.int .i64 t196) := (blk_cell BK204.out 0).trans rfl; have hcz34_1 : w30.cell? ⟨gb204, 1, none⟩ = some (.int .i64 t197) := (blk_cell BK204.out 1).trans rfl; have hcz34_2 : w30.cell? ⟨gb204, 2, none⟩ = some (.string t198) := (blk_cell BK204.out 2).trans rfl; have hcz34_3 : w30.cell? ⟨gb204, 3, none⟩ = some (.slice Ao12 t199.length co12) := (blk_cell BK204.out 3).trans rfl; have hfz34_0 := blk_frozen BK204.out 0; have hfz34_1 := blk_frozen BK204.out 1; have hfz34_2 := blk_frozen BK204.out 2; have hfz34_3 := blk_frozen BK204.out 3) | ((with_reducible refine gate_callee (f := 13) rfl ?_); refine goesL_ (some 67) rfl rfl Tryd.func13 (by kernel_rfl) rfl #[.agg #[.int .i64 t196, .int .i64 t197, .string t198, .slice Ao12 t199.length co12], .agg #[.int .i64 t205, .int .i64 t206, .string t207, .slice Ao33 t208.length co33]] rfl (by (try simp only [List.map_toArray, List.map_cons, List.map_nil]); first | done | rfl | (simp only [List.length_drop, List.length_take]; rfl)) ?_; (with_reducible refine (glacisref05_Same.calls kj6 t196 t197 t198 _ _ t199 t205 t206 t207 _ _ t208 t213 _ ?side1 ?side2 ?side3 ?side4 A26.out).mono ?_); (case side1 => refine (Kd.R_reads' (e := 38) (base := w.heap.size) (ok := fun k_ => (True ∧ some k_ ≠ (.slice Ao33 t208.length co33 : Value).ownBlock)) (n := t199.length) (c := co12) ?_).2.2; exact (by (with_reducible repeat (first | apply Kd.R_alloc | apply Kd.R_drewN | apply Kd.R_drew)); exact (Kd.R_mono (Kd.R_far (p := ⟨gb212, 3, none⟩) (Kd.R_far (p := ⟨gb212, 2, none⟩) (Kd.R_far (p := ⟨gb212, 1, none⟩) (Kd.R_far (p := ⟨gb212, 0, none⟩) (Kd.R_types HO_205003.out BK212.out (by decide)) (fun _ hk => hk.2) (.int .i64 t205)) (fun _ hk => hk.2) (.int .i64 t206)) (fun _ hk => hk.2) (.string t207)) (fun _ hk => hk.2) (.slice Ao33 t208.length co33)) (fun _ h_ => h_.1)))); (case side2 => exact (Kd.R_reads' HO_205003.out).2.1); (case side3 => refine (Kd.R_reads' (e := 38) (base := w.heap.size) (ok := fun k_ => (True ∧ some k_ ≠ (.slice Ao12 t199.length co12 : Value).ownBlock)) (n := t208.length) (c := co33) ?_).2.2; exact (by (with_reducible repeat (first | apply Kd.R_alloc | apply Kd.R_drewN | apply Kd.R_drew)); exact (Kd.R_mono (Kd.R_far (p := ⟨gb212, 3, none⟩) (Kd.R_far (p := ⟨gb212, 2, none⟩) (Kd.R_far (p := ⟨gb212, 1, none⟩) (Kd.R_far (p := ⟨gb212, 0, none⟩) (Kd.R_types HO210.out BK212.out (by decide)) (fun _ hk => hk.2) (.int .i64 t205)) (fun _ hk => hk.2) (.int .i64 t206)) (fun _ hk => hk.2) (.string t207)) (fun _ hk => hk.2) (.slice Ao33 t208.length co33)) (fun _ h_ => h_.1)))); (case side4 => exact (Kd.R_reads' HO210.out).2.1); rintro e w35 ⟨rfl, hb⟩; refine ⟨_, rfl, ?_⟩; have n0_ := Aside0.mk (Kd.R_below (by (with_reducible repeat (first | apply Kd.R_alloc | apply Kd.R_drewN | apply Kd.R_drew)); exact (Kd.R_mono (Kd.R_far (p := ⟨gb212, 3, none⟩) (Kd.R_far (p := ⟨gb212, 2, none⟩) (Kd.R_far (p := ⟨gb212, 1, none⟩) (Kd.R_far (p := ⟨gb212, 0, none⟩) (Kd.R_types HO_205003.out BK212.out (by decide)) (fun _ hk => hk.2) (.int .i64 t205)) (fun _ hk => hk.2) (.int .i64 t206)) (fun _ hk => hk.2) (.string t207)) (fun _ hk => hk.2) (.slice Ao33 t208.length co33)) (fun _ h_ => h_.1))) hb); have n1_ := Aside0.mk (Kd.R_below (by (with_reducible repeat (first | apply Kd.R_alloc | apply Kd.R_drewN | apply Kd.R_drew)); exact (Kd.R_mono (Kd.R_far (p := ⟨gb212, 3, none⟩) (Kd.R_far (p := ⟨gb212, 2, none⟩) (Kd.R_far (p := ⟨gb212, 1, none⟩) (Kd.R_far (p := ⟨gb212, 0, none⟩) (Kd.R_types HO210.out BK212.out (by decide)) (fun _ hk => hk.2) (.int .i64 t205)) (fun _ hk => hk.2) (.int .i64 t206)) (fun _ hk => hk.2) (.string t207)) (fun _ hk => hk.2) (.slice Ao33 t208.length co33)) (fun _ h_ => h_.1))) hb); have n2_ := Aside0.mk (blk_below (g := gb204) (o := .cells #[.int .i64 t196, .int .i64 t197, .string t198, .slice Ao12 t199.length co12] 25 (0, 0)) (by (with_reducible repeat (first | refine blk_drewN ?_ _ | refine blk_drew ?_ | refine blk_alloc ?_ _)); refine blk_far ?_ NB204_212.out _; (with_reducible repeat (first | refine blk_drewN ?_ _ | refine blk_drew ?_ | refine blk_alloc ?_ _)); refine blk_far ?_ NB204_212.out _; (with_reducible repeat (first | refine blk_drewN ?_ _ | refine blk_drew ?_ | refine blk_alloc ?_ _)); refine blk_far ?_ NB204_212.out _; (with_reducible repeat (first | refine blk_drewN ?_ _ | refine blk_drew ?_ | refine blk_alloc ?_ _)); refine blk_far ?_ NB204_212.out _; (with_reducible repeat (first | refine blk_drewN ?_ _ | refine blk_drew ?_ | refine blk_alloc ?_ _)); exact BK204.out) hb); have n3_ := Aside0.mk (blk_below (g := gb212) (o := .cells #[.int .i64 t205, .int .i64 t206, .string t207, .slice Ao33 t208.length co33] 25 (0, 0)) (by (with_reducible repeat (first | refine blk_drewN ?_ _ | refine blk_drew ?_ | refine blk_alloc ?_ _)); refine blk_put (cs := #[.int .i64 t205, .int .i64 t206, .string t207, .slice none 0 0]) ?_ 3 _ rfl; (with_reducible repeat (first | refine blk_drewN ?_ _ | refine blk_drew ?_ | refine blk_alloc ?_ _)); refine blk_put (cs := #[.int .i64 t205, .int .i64 t206, .string (⟨#[]⟩ : ByteArray), .slice none 0 0]) ?_ 2 _ rfl; (with_reducible repeat (first | refine blk_drewN ?_ _ | refine blk_drew ?_ | refine blk_alloc ?_ _)); refine blk_put (cs := #[.int .i64 t205, .int .i64 0, .string (⟨#[]⟩ : ByteArray), .slice none 0 0]) ?_ 1 _ rfl; (with_reducible repeat (first | refine blk_drewN ?_ _ | refine blk_drew ?_ | refine blk_alloc ?_ _)); refine blk_put (cs := #[.int .i64 0, .int .i64 0, .string (⟨#[]⟩ : ByteArray), .slice none 0 0]) ?_ 0 _ rfl; (with_reducible repeat (first | refine blk_drewN ?_ _ | refine blk_drew ?_ | refine blk_alloc ?_ _)); exact BK212.out) hb); have n4_ := Aside0.mk (below_step (by repeat (first | (with_reducible first | exact HB.out | apply below_alloc | apply pw_below_drewN | apply below_drew1 | refine below_set ?_ GE204.out | refine below_set ?_ GE212.out) | exact HB.out)) hb); clear HO_205003; clear HO210; clear BK204; clear BK212; clear HB; have HO_205003 := n0_; have HO210 := n1_; have BK204 := n2_; have BK212 := n3_; have HB := n4_; clear n0_ n1_ n2_ n3_ n4_; (try clear hb); (try clear hb2); (try clear hk); (try clear hi)))
                    go_ret
                    exact ⟨by first | rfl | (simp [errW_none, errW_some] <;> rfl) | (simp only [← hji22]; first | rfl | (simp [errW_none, errW_some] <;> rfl)) | (simp [*, errW_none, errW_some] <;> rfl) | (simp [q_ne_nil]; done), by repeat (first | (with_reducible first | exact HB.out | apply below_alloc | apply pw_below_drewN | apply below_drew1 | refine below_set ?_ GE204.out | refine below_set ?_ GE212.out) | exact HB.out)⟩
                  · exact absurd H (by rw [if_neg c28]; simp)
                · exact absurd H (by rw [if_neg c27]; simp)
              · exact absurd H (by rw [if_neg c24]; simp)
            · exact absurd H (by rw [if_neg c23]; simp)
    · rw [if_neg c6] at H
      have c6b0 : (t203 == 0) = false := beq_eq_false_iff_ne.mpr c6
      have c6b1 : (t203 != 0) = true := bne_iff_ne.mpr c6
      by_cases c50 : t195 = true
      · subst c50
        have H1 : (if t202.toList = ([] : List UInt8) then (some (t196 == 0)) else (none)) = some r := by rw [if_pos rfl] at H; exact H
        clear H
        have H := H1
        clear H1
        by_cases c51 : t202.toList = ([] : List UInt8)
        · rw [if_pos c51] at H
          have c51b0 : (t202.toList == ([] : List UInt8)) = true := beq_iff_eq.mpr c51
          have c51b1 : (t202.toList != ([] : List UInt8)) = false := bne_eq_false_iff_eq.mpr c51
          clear c51
          obtain rfl := Option.some.inj H
          go_enter Tryd.func5, Tryd.ntmps5
          go_wp2_with (first | ((with_reducible refine gate_callee (f := 9) rfl ?_); refine goesL_ (some 11) rfl rfl Tryd.func9 (by kernel_rfl) rfl #[] rfl (by (try simp only [List.map_toArray, List.map_cons, List.map_nil]); first | done | rfl | (simp only [List.length_drop, List.length_take]; rfl)) ?_; (with_reducible refine (glacislaw05_awake.calls  true _ (tab_ hT_ ?hTab) A2.out).mono ?_); (case hTab => exact (by repeat (first | (with_reducible first | exact HB.out | apply below_alloc | apply pw_below_drewN | apply below_drew1) | exact HB.out))); rintro e w52 ⟨rfl, hb⟩; refine ⟨_, rfl, ?_⟩; have n0_ := Aside0.mk (below_step (by repeat (first | (with_reducible first | exact HB.out | apply below_alloc | apply pw_below_drewN | apply below_drew1) | exact HB.out)) hb); clear HB; have HB := n0_; clear n0_; (try clear hb); (try clear hb2); (try clear hk); (try clear hi)) | ((with_reducible refine gate_callee (f := 14) rfl ?_); refine goesL_ (some 18) rfl rfl Tryd.func14 (by kernel_rfl) rfl #[.string a0] rfl (by (try simp only [List.map_toArray, List.map_cons, List.map_nil]); first | done | rfl | (simp only [List.length_drop, List.length_take]; rfl)) ?_; (with_reducible refine (sfitem_Next.calls a0 t196 t197 t198 t199 t202 t203 _ A5.out).mono ?_); rintro e w53 ⟨v200, rfl, ho0, hb⟩; refine ⟨_, rfl, ?_⟩; have n0_ := Aside0.mk (Kd.R_lower ho0 (below_size (by repeat (first | (with_reducible first | exact HB.out | apply below_alloc | apply pw_below_drewN | apply below_drew1) | exact HB.out)))); have n1_ := Aside0.mk (below_step (by repeat (first | (with_reducible first | exact HB.out | apply below_alloc | apply pw_below_drewN | apply below_drew1) | exact HB.out)) hb); clear HB; have HO201 := n0_; have HB := n1_; clear n0_ n1_; (try clear hb); (try clear hb2); (try clear hk); (try clear hi); (try clear ho0)) | ((with_reducible refine gate_dst (N := 4) rfl ?_); (try (refine gate_guard (by rfl) ?_; dsimp only)); refine box_event ?hg (N := 4) ?hd (cs := #[.int .i64 0, .int .i64 0, .string (⟨#[]⟩ : ByteArray), .slice none 0 0]) (t := 25) ?hr ?_; (case hd => rfl); (case hg => rfl); (case hr => first | (go_simp; done) | (go_simp; rfl)); intro gb204 hg w54 hbox hb; have n0_ := Aside0.mk (Kd.R_below (by (with_reducible repeat (first | apply Kd.R_alloc | apply Kd.R_drewN | apply Kd.R_drew)); exact HO201.out) hb); have n1_ := Aside0.mk (below_step (by repeat (first | (with_reducible first | exact HB.out | apply below_alloc | apply pw_below_drewN | apply below_drew1) | exact HB.out)) hb); have n2_ := Aside0.mk (hbox); have n3_ := Aside0.mk ((by rw [hg]; exact (below_size (by repeat (first | (with_reducible first | exact HB.out | apply below_alloc | apply pw_below_drewN | apply below_drew1) | exact HB.out))) : w.heap.size ≤ gb204)); have n4_ := Aside0.mk ((by rw [hg]; exact (below_size (by repeat (first | (with_reducible first | exact HB.out | apply below_alloc | apply pw_below_drewN | apply below_drew1) | exact HB.out))) : w.heap.size ≤ gb204)); clear HO201; clear HB; have HO201 := n0_; have HB := n1_; have BK204 := n2_; have GW204 := n3_; have GE204 := n4_; clear n0_ n1_ n2_ n3_ n4_; clear hb hbox hg; have hcz55_0 : w54.cell? ⟨gb204, 0, none⟩ = some (.int .i64 0) := (blk_cell BK204.out 0).trans rfl; have hcz55_1 : w54.cell? ⟨gb204, 1, none⟩ = some (.int .i64 0) := (blk_cell BK204.out 1).trans rfl; have hcz55_2 : w54.cell? ⟨gb204, 2, none⟩ = some (.string (⟨#[]⟩ : ByteArray)) := (blk_cell BK204.out 2).trans rfl; have hcz55_3 : w54.cell? ⟨gb204, 3, none⟩ = some (.slice none 0 0) := (blk_cell BK204.out 3).trans rfl; have hfz55_0 := blk_frozen BK204.out 0; have hfz55_1 := blk_frozen BK204.out 1; have hfz55_2 := blk_frozen BK204.out 2; have hfz55_3 := blk_frozen BK204.out 3; obtain ⟨Ao56, co56, eo56⟩ := Kd.R_slice HO201.out; subst eo56))
          go_ret
          exact ⟨by first | rfl | (simp [errW_none, errW_some] <;> rfl) | (simp [*, errW_none, errW_some] <;> rfl) | (simp [q_ne_nil]; done), by repeat (first | (with_reducible first | exact HB.out | apply below_alloc | apply pw_below_drewN | apply below_drew1 | refine below_set ?_ GE204.out) | exact HB.out)⟩
        · exact absurd H (by rw [if_neg c51]; simp)
      · exact absurd H (by rw [if_neg c50]; simp)

end Go.Proofs.YtbbaokjkmcfceaaDoor.Q
