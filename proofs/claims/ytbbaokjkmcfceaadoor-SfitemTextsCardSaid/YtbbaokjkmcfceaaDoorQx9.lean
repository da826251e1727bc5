-- Laid by this seat's own driver (wip/tools/drive.py) out of the translation.
import Derived.Test.YtbbaokjkmcfceaaDoorQx0
import Derived.Test.YtbbaokjkmcfceaaDoorQx4
namespace Go.Proofs.YtbbaokjkmcfceaaDoor.Q
open Go.RowKit Go.Proofs.YtbbaokjkmcfceaaDoorW.PrintWords Go.Proofs.YtbbaokjkmcfceaaDoorW.PrintLast Go.Proofs.YtbbaokjkmcfceaaDoorW.PrintMore
attribute [local go_sem] max2_int min2_int max_two min_two max_three min_three max_four min_four   -- for this text's walks alone
set_option linter.unusedVariables false
set_option linter.unusedSimpArgs false

/-! ### glacislaw05_SfitemTexts: function 8 -/
def glacislaw05_SfitemTexts.l0 : Nat → ByteArray → Bool → Bool → Int → Option (Bool)
  | 0, _, _, _, _ => none
  | k + 1, x0, x3, x4, x5 => if x5 < (x0.size : Int) then (if x4 = true then (if 0 ≤ x5 then (if (bt x0 x5) ≥ 32 then (glacislaw05_SfitemTexts.l0 k x0 x3 (decide ((bt x0 x5) ≤ 126)) (wrap64 (x5 + 1))) else (glacislaw05_SfitemTexts.l0 k x0 x3 false (wrap64 (x5 + 1)))) else (none)) else (glacislaw05_SfitemTexts.l0 k x0 x3 false (wrap64 (x5 + 1)))) else ((sfitem_Text.f 3 0 x0 ([] : List (S38))).bind fun bt260 => (if x4 = true then ((sfitem_Parse.f bt260.1).bind fun bt262 => (if x3 = true then (if bt260.2 = 0 then (if bt262.2.2.2.2 = 0 then (if bt262.1 = 3 then (if bt262.2.2.1.toList = x0.toList then (some ((bt262.2.2.2.1.length : Int) == 0)) else (none)) else (none)) else (none)) else (none)) else (none))) else (if x3 = true then (if bt260.2 = 50 then (some (bt260.1.toList == ([] : List UInt8))) else (none)) else (none))))
def glacislaw05_SfitemTexts.f (k : Nat) (a0 : ByteArray) : Option (Bool) := (glacislaw05_awake.f).bind fun t259 => (if (a0.size : Int) > 1000 then (some t259) else (glacislaw05_SfitemTexts.l0 k a0 t259 true 0))
theorem glacislaw05_SfitemTexts.mono_l : ∀ k, (∀ y0 y1 y2 y3, LeO (glacislaw05_SfitemTexts.l0 k y0 y1 y2 y3) (glacislaw05_SfitemTexts.l0 (k + 1) y0 y1 y2 y3))
  | 0 => fun _ _ _ _ r h => by simp [glacislaw05_SfitemTexts.l0] at h
  | k + 1 => by
    have ih0 := glacislaw05_SfitemTexts.mono_l k
    · intro y0 y1 y2 y3
      unfold glacislaw05_SfitemTexts.l0
      repeat' first
      | (with_reducible exact ih0 _ _ _ _)
      | (with_reducible exact LeO.refl _)
      | (with_reducible exact LeO.none _)
      | (with_reducible refine LeO.ite ?_ ?_)
      | (with_reducible refine LeO.bind ?_ (fun _ => ?_))
      | exact ih0 _ _ _ _
      | exact LeO.none _
      | refine LeO.ite ?_ ?_
      | refine LeO.bind ?_ (fun _ => ?_)
theorem glacislaw05_SfitemTexts.mono : ∀ a0 k, LeO (glacislaw05_SfitemTexts.f k a0) (glacislaw05_SfitemTexts.f (k + 1) a0) := by
  intro a0 k
  have ih0 := glacislaw05_SfitemTexts.mono_l k
  unfold glacislaw05_SfitemTexts.f
  repeat' first
      | (with_reducible exact ih0 _ _ _ _)
      | (with_reducible exact LeO.refl _)
      | (with_reducible exact LeO.none _)
      | (with_reducible refine LeO.ite ?_ ?_)
      | (with_reducible refine LeO.bind ?_ (fun _ => ?_))
      | exact ih0 _ _ _ _
      | exact LeO.none _
      | refine LeO.ite ?_ ?_
      | refine LeO.bind ?_ (fun _ => ?_)
set_option maxHeartbeats 8000000 in
set_option maxRecDepth 100000 in
theorem glacislaw05_SfitemTexts.calls (k : Nat) (a0 : ByteArray) (r : Bool) (w : World) (hT_ : Aside0 (TabW w)) (h : glacislaw05_SfitemTexts.f k a0 = some r) :
    Calls Tryd.prog 8 #[.string a0] w fun e w' => e = .returned (.bool r) ∧ Below w.heap.size w w' := by
  have hu25 := Tryd.underlying25
  have HB := Aside0.mk (Below.refl w.heap.size w)
  have H : ((glacislaw05_awake.f).bind fun t259 => (if (a0.size : Int) > 1000 then (some t259) else (glacislaw05_SfitemTexts.l0 k a0 t259 true 0))) = some r := h
  clear h
  replace H := Option.bind_eq_some_iff.mp H
  obtain ⟨t259, A20, H⟩ := H
  replace H : (if (a0.size : Int) > 1000 then (some t259) else (glacislaw05_SfitemTexts.l0 k a0 t259 true 0)) = some r := H
  have A2 := Aside0.mk A20
  clear A20
  by_cases c3 : (a0.size : Int) > 1000
  · rw [if_pos c3] at H
    have c3b0 : decide (1000 < (a0.size : Int)) = true := decide_eq_true c3
    have c3b1 : decide (1000 < a0.size) = true := decide_eq_true (by omega)
    clear c3
    obtain rfl := Option.some.inj H
    go_enter Tryd.func8, Tryd.ntmps8
    go_wp2_with (first | ((with_reducible refine gate_callee (f := 9) rfl ?_); refine goesL_ (some 10) rfl rfl Tryd.func9 (by kernel_rfl) rfl #[] rfl (by (try simp only [List.map_toArray, List.map_cons, List.map_nil]); first | done | rfl | (simp only [List.length_drop, List.length_take]; rfl)) ?_; (with_reducible refine (glacislaw05_awake.calls  t259 _ (tab_ hT_ ?hTab) A2.out).mono ?_); (case hTab => exact (by repeat (first | (with_reducible first | exact HB.out | apply below_alloc | apply pw_below_drewN | apply below_drew1) | exact HB.out))); rintro e w4 ⟨rfl, hb⟩; refine ⟨_, rfl, ?_⟩; have n0_ := Aside0.mk (below_step (by repeat (first | (with_reducible first | exact HB.out | apply below_alloc | apply pw_below_drewN | apply below_drew1) | exact HB.out)) hb); clear HB; have HB := n0_; clear n0_; (try clear hb); (try clear hb2); (try clear hk); (try clear hi)))
    go_ret
    exact ⟨by first | rfl | (simp [errW_none, errW_some] <;> rfl) | (simp [*, errW_none, errW_some] <;> rfl) | (simp [q_ne_nil]; done), by repeat (first | (with_reducible first | exact HB.out | apply below_alloc | apply pw_below_drewN | apply below_drew1) | exact HB.out)⟩
  · rw [if_neg c3] at H
    have c3b0 : decide (1000 < (a0.size : Int)) = false := decide_eq_false c3
    have c3b1 : decide (1000 < a0.size) = false := decide_eq_false (by omega)
    clear c3
    have H' := Aside0.mk H
    clear H
    go_enter Tryd.func8, Tryd.ntmps8
    go_wp2_with (first | ((with_reducible refine gate_callee (f := 9) rfl ?_); refine goesL_ (some 10) rfl rfl Tryd.func9 (by kernel_rfl) rfl #[] rfl (by (try simp only [List.map_toArray, List.map_cons, List.map_nil]); first | done | rfl | (simp only [List.length_drop, List.length_take]; rfl)) ?_; (with_reducible refine (glacislaw05_awake.calls  t259 _ (tab_ hT_ ?hTab) A2.out).mono ?_); (case hTab => exact (by repeat (first | (with_reducible first | exact HB.out | apply below_alloc | apply pw_below_drewN | apply below_drew1) | exact HB.out))); rintro e w5 ⟨rfl, hb⟩; refine ⟨_, rfl, ?_⟩; have n0_ := Aside0.mk (below_step (by repeat (first | (with_reducible first | exact HB.out | apply below_alloc | apply pw_below_drewN | apply below_drew1) | exact HB.out)) hb); clear HB; have HB := n0_; clear n0_; (try clear hb); (try clear hb2); (try clear hk); (try clear hi)))
    go_loopg [4, 5] k (fun kq v4 v5 w' => ∃ (x4_1 : Bool) (x5_1 : Int), v4 = .bool x4_1 ∧ v5 = .int .i64 x5_1 ∧ Aside0 (glacislaw05_SfitemTexts.l0 kq a0 t259 x4_1 x5_1 = some r) ∧ Aside0 (kq ≤ k) ∧ Aside0 (Below w.heap.size w w'))
    case atStart => exact ⟨(true), (0), (by first | rfl | (simp; done) | (simp [*]; done) | (simp [q_ne_nil]; done)), (by first | rfl | (simp; done) | (simp [*]; done) | (simp [q_ne_nil]; done)), H', ⟨Nat.le_refl _⟩, ⟨by repeat (first | (with_reducible first | exact HB.out | apply below_alloc | apply pw_below_drewN | apply below_drew1) | exact HB.out)⟩⟩
    case round =>
      clear H'
      try clear p2
      try clear c3
      try clear c3b0
      try clear c3b1
      obtain ⟨x4_1, x5_1, rfl, rfl, HA, HK1, HB⟩ := hrel
      cases gk with
      | zero => exact absurd HA.out (by simp [glacislaw05_SfitemTexts.l0])
      | succ k1 =>
        have H := HA.out
        clear HA
        simp only [glacislaw05_SfitemTexts.l0] at H
        by_cases c6 : x5_1 < (a0.size : Int)
        · rw [if_pos c6] at H
          have c6b0 : decide (x5_1 < (a0.size : Int)) = true := decide_eq_true c6
          clear c6
          by_cases c7 : x4_1 = true
          · subst c7
            have H1 : (if 0 ≤ x5_1 then (if (bt a0 x5_1) ≥ 32 then (glacislaw05_SfitemTexts.l0 k1 a0 t259 (decide ((bt a0 x5_1) ≤ 126)) (wrap64 (x5_1 + 1))) else (glacislaw05_SfitemTexts.l0 k1 a0 t259 false (wrap64 (x5_1 + 1)))) else (none)) = some r := by rw [if_pos rfl] at H; exact H
            clear H
            have H := H1
            clear H1
            by_cases c8 : 0 ≤ x5_1
            · rw [if_pos c8] at H
              have c8b0 : decide (0 ≤ x5_1) = true := decide_eq_true c8
              clear c8
              by_cases c10 : (bt a0 x5_1) ≥ 32
              · rw [if_pos c10] at H
                have c10b0 : decide (32 ≤ (bt a0 x5_1)) = true := decide_eq_true c10
                clear c10
                have H' := Aside0.mk H
                clear H
                have p9 : 0 ≤ (x5_1 : Int) := of_decide_eq_true (by first | (with_reducible assumption) | assumption)
                have q9 : x5_1 < (a0.size : Int) := of_decide_eq_true (by first | (with_reducible assumption) | assumption)
                have hx9 := bt_at a0 x5_1
                replace p9 := eq_true p9
                replace q9 := eq_true q9
                have p11 : 0 ≤ (x5_1 : Int) := of_decide_eq_true (by first | (with_reducible assumption) | assumption)
                have q11 : x5_1 < (a0.size : Int) := of_decide_eq_true (by first | (with_reducible assumption) | assumption)
                have hx11 := bt_at a0 x5_1
                replace p11 := eq_true p11
                replace q11 := eq_true q11
                go_wp2
                go_roundg k1
                case measure => have := HK1.out; omega
                case rel => exact ⟨(decide ((bt a0 x5_1) ≤ 126)), (wrap64 (x5_1 + 1)), (by first | rfl | (simp; done) | (simp [*]; done) | (simp [q_ne_nil]; done)), (by first | rfl | (simp; done) | (simp [*]; done) | (simp [q_ne_nil]; done)), H', ⟨by have := HK1.out; omega⟩, ⟨by repeat (first | (with_reducible first | exact HB.out | apply below_alloc | apply pw_below_drewN | apply below_drew1) | exact HB.out)⟩⟩
              · rw [if_neg c10] at H
                have c10b0 : decide (32 ≤ (bt a0 x5_1)) = false := decide_eq_false c10
                clear c10
                have H' := Aside0.mk H
                clear H
                have p9 : 0 ≤ (x5_1 : Int) := of_decide_eq_true (by first | (with_reducible assumption) | assumption)
                have q9 : x5_1 < (a0.size : Int) := of_decide_eq_true (by first | (with_reducible assumption) | assumption)
                have hx9 := bt_at a0 x5_1
                replace p9 := eq_true p9
                replace q9 := eq_true q9
                go_wp2
                go_roundg k1
                case measure => have := HK1.out; omega
                case rel => exact ⟨(false), (wrap64 (x5_1 + 1)), (by first | rfl | (simp; done) | (simp [*]; done) | (simp [q_ne_nil]; done)), (by first | rfl | (simp; done) | (simp [*]; done) | (simp [q_ne_nil]; done)), H', ⟨by have := HK1.out; omega⟩, ⟨by repeat (first | (with_reducible first | exact HB.out | apply below_alloc | apply pw_below_drewN | apply below_drew1) | exact HB.out)⟩⟩
            · exact absurd H (by rw [if_neg c8]; simp)
          · replace c7 := Bool.eq_false_iff.mpr c7
            subst c7
            have H1 : (glacislaw05_SfitemTexts.l0 k1 a0 t259 false (wrap64 (x5_1 + 1))) = some r := by rw [if_neg (show ¬ (false = true) by decide)] at H; exact H
            clear H
            have H := H1
            clear H1
            have H' := Aside0.mk H
            clear H
            go_wp2
            go_roundg k1
            case measure => have := HK1.out; omega
            case rel => exact ⟨(false), (wrap64 (x5_1 + 1)), (by first | rfl | (simp; done) | (simp [*]; done) | (simp [q_ne_nil]; done)), (by first | rfl | (simp; done) | (simp [*]; done) | (simp [q_ne_nil]; done)), H', ⟨by have := HK1.out; omega⟩, ⟨by repeat (first | (with_reducible first | exact HB.out | apply below_alloc | apply pw_below_drewN | apply below_drew1) | exact HB.out)⟩⟩
        · rw [if_neg c6] at H
          have c6b0 : decide (x5_1 < (a0.size : Int)) = false := decide_eq_false c6
          clear c6
          replace H := Option.bind_eq_some_iff.mp H
          obtain ⟨⟨t260, t261⟩, A120, H⟩ := H
          replace H : (if x4_1 = true then ((sfitem_Parse.f t260).bind fun bt262 => (if t259 = true then (if t261 = 0 then (if bt262.2.2.2.2 = 0 then (if bt262.1 = 3 then (if bt262.2.2.1.toList = a0.toList then (some ((bt262.2.2.2.1.length : Int) == 0)) else (none)) else (none)) else (none)) else (none)) else (none))) else (if t259 = true then (if t261 = 50 then (some (t260.toList == ([] : List UInt8))) else (none)) else (none))) = some r := H
          have A12 := Aside0.mk A120
          clear A120
          by_cases c13 : x4_1 = true
          · subst c13
            have H1 : ((sfitem_Parse.f t260).bind fun bt262 => (if t259 = true then (if t261 = 0 then (if bt262.2.2.2.2 = 0 then (if bt262.1 = 3 then (if bt262.2.2.1.toList = a0.toList then (some ((bt262.2.2.2.1.length : Int) == 0)) else (none)) else (none)) else (none)) else (none)) else (none))) = some r := by rw [if_pos rfl] at H; exact H
            clear H
            have H := H1
            clear H1
            replace H := Option.bind_eq_some_iff.mp H
            obtain ⟨⟨t262, t263, t264, t265, t268⟩, A140, H⟩ := H
            replace H : (if t259 = true then (if t261 = 0 then (if t268 = 0 then (if t262 = 3 then (if t264.toList = a0.toList then (some ((t265.length : Int) == 0)) else (none)) else (none)) else (none)) else (none)) else (none)) = some r := H
            have A14 := Aside0.mk A140
            clear A140
            by_cases c15 : t259 = true
            · subst c15
              have H1 : (if t261 = 0 then (if t268 = 0 then (if t262 = 3 then (if t264.toList = a0.toList then (some ((t265.length : Int) == 0)) else (none)) else (none)) else (none)) else (none)) = some r := by rw [if_pos rfl] at H; exact H
              clear H
              have H := H1
              clear H1
              by_cases c16 : t261 = 0
              · rw [if_pos c16] at H
                have c16b0 : (t261 == 0) = true := beq_iff_eq.mpr c16
                have c16b1 : (t261 != 0) = false := bne_eq_false_iff_eq.mpr c16
                clear c16
                by_cases c17 : t268 = 0
                · rw [if_pos c17] at H
                  have c17b0 : (t268 == 0) = true := beq_iff_eq.mpr c17
                  have c17b1 : (t268 != 0) = false := bne_eq_false_iff_eq.mpr c17
                  clear c17
                  by_cases c18 : t262 = 3
                  · rw [if_pos c18] at H
                    have c18b0 : (t262 == 3) = true := beq_iff_eq.mpr c18
                    have c18b1 : (t262 != 3) = false := bne_eq_false_iff_eq.mpr c18
                    clear c18
                    by_cases c19 : t264.toList = a0.toList
                    · rw [if_pos c19] at H
                      have c19b0 : (t264.toList == a0.toList) = true := beq_iff_eq.mpr c19
                      have c19b1 : (t264.toList != a0.toList) = false := bne_eq_false_iff_eq.mpr c19
                      clear c19
                      obtain rfl := Option.some.inj H
                      go_wp2_with (first | ((with_reducible refine gate_callee (f := 11) rfl ?_); refine goesL_ (some 37) rfl rfl Tryd.func11 (by kernel_rfl) rfl #[.agg #[.int .i64 3, .int .i64 0, .string a0, .slice none 0 0]] rfl (by (try simp only [List.map_toArray, List.map_cons, List.map_nil]); first | done | rfl | (simp only [List.length_drop, List.length_take]; rfl)) ?_; (refine (sfitem_Text.calls 3 0 a0 _ _ ([] : List (S38)) t260 t261 _ (tab_ hT_ ?hTab) ?side1 ?side2 A12.out).mono ?_); (case hTab => exact (by repeat (first | (with_reducible first | exact HB.out | apply below_alloc | apply pw_below_drewN | apply below_drew1) | exact HB.out))); (case side1 => exact Kd.C_nil _ _); (case side2 => exact Nat.le_refl _); rintro e w20 ⟨rfl, hb⟩; refine ⟨_, rfl, ?_⟩; have n0_ := Aside0.mk (below_step (by repeat (first | (with_reducible first | exact HB.out | apply below_alloc | apply pw_below_drewN | apply below_drew1) | exact HB.out)) hb); clear HB; have HB := n0_; clear n0_; (try clear hb); (try clear hb2); (try clear hk); (try clear hi)) | ((with_reducible refine gate_callee (f := 12) rfl ?_); refine goesL_ (some 53) rfl rfl Tryd.func12 (by kernel_rfl) rfl #[.string t260] rfl (by (try simp only [List.map_toArray, List.map_cons, List.map_nil]); first | done | rfl | (simp only [List.length_drop, List.length_take]; rfl)) ?_; (with_reducible refine (sfitem_Parse.calls t260 t262 t263 t264 t265 t268 _ A14.out).mono ?_); rintro e w21 ⟨v266, rfl, ho0, hb⟩; refine ⟨_, rfl, ?_⟩; have n0_ := Aside0.mk (Kd.R_lower ho0 (below_size (by repeat (first | (with_reducible first | exact HB.out | apply below_alloc | apply pw_below_drewN | apply below_drew1) | exact HB.out)))); have n1_ := Aside0.mk (below_step (by repeat (first | (with_reducible first | exact HB.out | apply below_alloc | apply pw_below_drewN | apply below_drew1) | exact HB.out)) hb); clear HB; have HO267 := n0_; have HB := n1_; clear n0_ n1_; (try clear hb); (try clear hb2); (try clear hk); (try clear hi); (try clear ho0)) | ((with_reducible refine gate_dst (N := 8) rfl ?_); (try (refine gate_guard (by rfl) ?_; dsimp only)); refine box_event ?hg (N := 8) ?hd (cs := #[.int .i64 0, .int .i64 0, .string (⟨#[]⟩ : ByteArray), .slice none 0 0]) (t := 25) ?hr ?_; (case hd => rfl); (case hg => rfl); (case hr => first | (go_simp; done) | (go_simp; rfl)); intro gb269 hg w22 hbox hb; have n0_ := Aside0.mk (Kd.R_below (by (with_reducible repeat (first | apply Kd.R_alloc | apply Kd.R_drewN | apply Kd.R_drew)); exact HO267.out) hb); have n1_ := Aside0.mk (below_step (by repeat (first | (with_reducible first | exact HB.out | apply below_alloc | apply pw_below_drewN | apply below_drew1) | exact HB.out)) hb); have n2_ := Aside0.mk (hbox); have n3_ := Aside0.mk ((by rw [hg]; exact (below_size (by repeat (first | (with_reducible first | exact HB.out | apply below_alloc | apply pw_below_drewN | apply below_drew1) | exact HB.out))) : w.heap.size ≤ gb269)); have n4_ := Aside0.mk ((by rw [hg]; exact (below_size (by repeat (first | (with_reducible first | exact HB.out | apply below_alloc | apply pw_below_drewN | apply below_drew1) | exact HB.out))) : w.heap.size ≤ gb269)); clear HO267; clear HB; have HO267 := n0_; have HB := n1_; have BK269 := n2_; have GW269 := n3_; have GE269 := n4_; clear n0_ n1_ n2_ n3_ n4_; clear hb hbox hg; have hcz23_0 : w22.cell? ⟨gb269, 0, none⟩ = some (.int .i64 0) := (blk_cell BK269.out 0).trans rfl; have hcz23_1 : w22.cell? ⟨gb269, 1, none⟩ = some (.int .i64 0) := (blk_cell BK269.out 1).trans rfl; have hcz23_2 : w22.cell? ⟨gb269, 2, none⟩ = some (.string (⟨#[]⟩ : ByteArray)) := (blk_cell BK269.out 2).trans rfl; have hcz23_3 : w22.cell? ⟨gb269, 3, none⟩ = some (.slice none 0 0) := (blk_cell BK269.out 3).trans rfl; have hfz23_0 := blk_frozen BK269.out 0; have hfz23_1 := blk_frozen BK269.out 1; have hfz23_2 := blk_frozen BK269.out 2; have hfz23_3 := blk_frozen BK269.out 3; obtain ⟨Ao24, co24, eo24⟩ := Kd.R_slice HO267.out; subst eo24))
                      go_ret
                      exact ⟨by first | rfl | (simp [errW_none, errW_some] <;> rfl) | (simp [*, errW_none, errW_some] <;> rfl) | (simp [q_ne_nil]; done), by repeat (first | (with_reducible first | exact HB.out | apply below_alloc | apply pw_below_drewN | apply below_drew1 | refine below_set ?_ GE269.out) | exact HB.out)⟩
                    · exact absurd H (by rw [if_neg c19]; simp)
                  · exact absurd H (by rw [if_neg c18]; simp)
                · exact absurd H (by rw [if_neg c17]; simp)
              · exact absurd H (by rw [if_neg c16]; simp)
            · exact absurd H (by rw [if_neg c15]; simp)
          · replace c13 := Bool.eq_false_iff.mpr c13
            subst c13
            have H1 : (if t259 = true then (if t261 = 50 then (some (t260.toList == ([] : List UInt8))) else (none)) else (none)) = some r := by rw [if_neg (show ¬ (false = true) by decide)] at H; exact H
            clear H
            have H := H1
            clear H1
            by_cases c50 : t259 = true
            · subst c50
              have H1 : (if t261 = 50 then (some (t260.toList == ([] : List UInt8))) else (none)) = some r := by rw [if_pos rfl] at H; exact H
              clear H
              have H := H1
              clear H1
              by_cases c51 : t261 = 50
              · rw [if_pos c51] at H
                have c51b0 : (t261 == 50) = true := beq_iff_eq.mpr c51
                have c51b1 : (t261 != 50) = false := bne_eq_false_iff_eq.mpr c51
                clear c51
                obtain rfl := Option.some.inj H
                go_wp2_with (first | ((with_reducible refine gate_callee (f := 11) rfl ?_); refine goesL_ (some 37) rfl rfl Tryd.func11 (by kernel_rfl) rfl #[.agg #[.int .i64 3, .int .i64 0, .string a0, .slice none 0 0]] rfl (by (try simp only [List.map_toArray, List.map_cons, List.map_nil]); first | done | rfl | (simp only [List.length_drop, List.length_take]; rfl)) ?_; (refine (sfitem_Text.calls 3 0 a0 _ _ ([] : List (S38)) t260 t261 _ (tab_ hT_ ?hTab) ?side1 ?side2 A12.out).mono ?_); (case hTab => exact (by repeat (first | (with_reducible first | exact HB.out | apply below_alloc | apply pw_below_drewN | apply below_drew1) | exact HB.out))); (case side1 => exact Kd.C_nil _ _); (case side2 => exact Nat.le_refl _); rintro e w52 ⟨rfl, hb⟩; refine ⟨_, rfl, ?_⟩; have n0_ := Aside0.mk (below_step (by repeat (first | (with_reducible first | exact HB.out | apply below_alloc | apply pw_below_drewN | apply below_drew1) | exact HB.out)) hb); clear HB; have HB := n0_; clear n0_; (try clear hb); (try clear hb2); (try clear hk); (try clear hi)))
                go_ret
                exact ⟨by first | rfl | (simp [errW_none, errW_some] <;> rfl) | (simp [*, errW_none, errW_some] <;> rfl) | (simp [q_ne_nil]; done), by repeat (first | (with_reducible first | exact HB.out | apply below_alloc | apply pw_below_drewN | apply below_drew1) | exact HB.out)⟩
              · exact absurd H (by rw [if_neg c51]; simp)
            · exact absurd H (by rw [if_neg c50]; simp)

end Go.Proofs.YtbbaokjkmcfceaaDoor.Q
