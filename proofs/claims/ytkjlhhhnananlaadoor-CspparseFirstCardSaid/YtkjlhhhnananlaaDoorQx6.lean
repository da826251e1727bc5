-- Laid by this seat's own driver (wip/tools/drive.py) out of the translation.
import Derived.Test.YtkjlhhhnananlaaDoorQx0
import Derived.Test.YtkjlhhhnananlaaDoorQx5
namespace Go.Proofs.YtkjlhhhnananlaaDoor.Q
open Go.RowKit Go.Proofs.YtkjlhhhnananlaaDoorW.PrintWords Go.Proofs.YtkjlhhhnananlaaDoorW.PrintLast Go.Proofs.YtkjlhhhnananlaaDoorW.PrintMore
attribute [local go_sem] max2_int min2_int max_two min_two max_three min_three max_four min_four   -- for this text's walks alone
set_option linter.unusedVariables false
set_option linter.unusedSimpArgs false

/-! ### glacisref10_Text: function 18 -/
mutual
def glacisref10_Text.j0 : Nat → ByteArray → Bool → List ByteArray → Bool → List ByteArray → Option (ByteArray)
  | 0, _, _, _, _, _ => none
  | k + 1, x3, x233000, x233001, x233002, x233003 => if x233000 = true then (glacisref10_Text.j1 k x3 x233002 x233000 x233001 x233002 x233003) else (glacisref10_Text.j1 k x3 false x233000 x233001 x233002 x233003)
def glacisref10_Text.j1 : Nat → ByteArray → Bool → Bool → List ByteArray → Bool → List ByteArray → Option (ByteArray)
  | 0, _, _, _, _, _, _ => none
  | k + 1, x3, x14, x233000, x233001, x233002, x233003 => if x14 = true then (if x3.size + 2 ≤ 9223372036854775807 then (if x233002 = true then ((glacisref10_words.f k (⟨#[115, 97, 110, 100, 98, 111, 120]⟩ : ByteArray) x233003).bind fun t234 => (if (x3 ++ (⟨#[59, 32]⟩ : ByteArray)).size + t234.size ≤ 9223372036854775807 then (some ((x3 ++ (⟨#[59, 32]⟩ : ByteArray)) ++ t234)) else (none))) else (some (x3 ++ (⟨#[59, 32]⟩ : ByteArray)))) else (none)) else (if x233002 = true then ((glacisref10_words.f k (⟨#[115, 97, 110, 100, 98, 111, 120]⟩ : ByteArray) x233003).bind fun t235 => (if x3.size + t235.size ≤ 9223372036854775807 then (some (x3 ++ t235)) else (none))) else (some x3))
end
def glacisref10_Text.f (k : Nat) (a0_0 : Bool) (l0_1 : List ByteArray) (a0_2 : Bool) (l0_3 : List ByteArray) : Option (ByteArray) := if a0_0 = true then ((glacisref10_words.f k (⟨#[102, 114, 97, 109, 101, 45, 97, 110, 99, 101, 115, 116, 111, 114, 115]⟩ : ByteArray) l0_1).bind fun t233 => (glacisref10_Text.j0 k t233 a0_0 l0_1 a0_2 l0_3)) else (glacisref10_Text.j0 k (⟨#[]⟩ : ByteArray) a0_0 l0_1 a0_2 l0_3)
theorem glacisref10_Text.mono_l : ∀ k, (∀ y0 y1 y2 y3 y4, LeO (glacisref10_Text.j0 k y0 y1 y2 y3 y4) (glacisref10_Text.j0 (k + 1) y0 y1 y2 y3 y4)) ∧ (∀ y0 y1 y2 y3 y4 y5, LeO (glacisref10_Text.j1 k y0 y1 y2 y3 y4 y5) (glacisref10_Text.j1 (k + 1) y0 y1 y2 y3 y4 y5))
  | 0 => ⟨fun _ _ _ _ _ r h => by simp [glacisref10_Text.j0] at h, fun _ _ _ _ _ _ r h => by simp [glacisref10_Text.j1] at h⟩
  | k + 1 => by
    obtain ⟨ih0, ih1⟩ := glacisref10_Text.mono_l k
    refine ⟨?_, ?_⟩
    · intro y0 y1 y2 y3 y4
      unfold glacisref10_Text.j0
      repeat' first
      | (with_reducible exact ih0 _ _ _ _ _)
      | (with_reducible exact ih1 _ _ _ _ _ _)
      | (with_reducible exact glacisref10_words.mono _ _ _)
      | (with_reducible exact LeO.refl _)
      | (with_reducible exact LeO.none _)
      | (with_reducible refine LeO.ite ?_ ?_)
      | (with_reducible refine LeO.bind ?_ (fun _ => ?_))
      | exact ih0 _ _ _ _ _
      | exact ih1 _ _ _ _ _ _
      | exact glacisref10_words.mono _ _ _
      | exact LeO.none _
      | refine LeO.ite ?_ ?_
      | refine LeO.bind ?_ (fun _ => ?_)
    · intro y0 y1 y2 y3 y4 y5
      unfold glacisref10_Text.j1
      repeat' first
      | (with_reducible exact ih0 _ _ _ _ _)
      | (with_reducible exact ih1 _ _ _ _ _ _)
      | (with_reducible exact glacisref10_words.mono _ _ _)
      | (with_reducible exact LeO.refl _)
      | (with_reducible exact LeO.none _)
      | (with_reducible refine LeO.ite ?_ ?_)
      | (with_reducible refine LeO.bind ?_ (fun _ => ?_))
      | exact ih0 _ _ _ _ _
      | exact ih1 _ _ _ _ _ _
      | exact glacisref10_words.mono _ _ _
      | exact LeO.none _
      | refine LeO.ite ?_ ?_
      | refine LeO.bind ?_ (fun _ => ?_)
theorem glacisref10_Text.mono : ∀ a0 a1 a2 a3 k, LeO (glacisref10_Text.f k a0 a1 a2 a3) (glacisref10_Text.f (k + 1) a0 a1 a2 a3) := by
  intro a0 a1 a2 a3 k
  obtain ⟨ih0, ih1⟩ := glacisref10_Text.mono_l k
  unfold glacisref10_Text.f
  repeat' first
      | (with_reducible exact ih0 _ _ _ _ _)
      | (with_reducible exact ih1 _ _ _ _ _ _)
      | (with_reducible exact glacisref10_words.mono _ _ _)
      | (with_reducible exact LeO.refl _)
      | (with_reducible exact LeO.none _)
      | (with_reducible refine LeO.ite ?_ ?_)
      | (with_reducible refine LeO.bind ?_ (fun _ => ?_))
      | exact ih0 _ _ _ _ _
      | exact ih1 _ _ _ _ _ _
      | exact glacisref10_words.mono _ _ _
      | exact LeO.none _
      | refine LeO.ite ?_ ?_
      | refine LeO.bind ?_ (fun _ => ?_)
set_option maxHeartbeats 8000000 in
set_option maxRecDepth 100000 in
theorem glacisref10_Text.calls (k : Nat) (a0_0 : Bool) (A0_1 : Option Addr) (c0_1 : Nat) (l0_1 : List ByteArray) (a0_2 : Bool) (A0_3 : Option Addr) (c0_3 : Nat) (l0_3 : List ByteArray) (r : ByteArray) (w : World) (hr0_1 : Kd.C Kd.string w A0_1 l0_1.length l0_1) (hc0_1 : l0_1.length ≤ c0_1) (hr0_3 : Kd.C Kd.string w A0_3 l0_3.length l0_3) (hc0_3 : l0_3.length ≤ c0_3) (h : glacisref10_Text.f k a0_0 l0_1 a0_2 l0_3 = some r) :
    Calls Tryd.prog 18 #[.agg #[.bool a0_0, .slice A0_1 l0_1.length c0_1, .bool a0_2, .slice A0_3 l0_3.length c0_3]] w fun e w' => e = .returned (.string r) ∧ Below w.heap.size w w' := by
  have hu26 := Tryd.underlying26
  have HR0_1 := Aside0.mk hr0_1
  have HC0_1 := Aside0.mk hc0_1
  clear hr0_1 hc0_1
  have HR0_3 := Aside0.mk hr0_3
  have HC0_3 := Aside0.mk hc0_3
  clear hr0_3 hc0_3
  have HB := Aside0.mk (Below.refl w.heap.size w)
  have H : (if a0_0 = true then ((glacisref10_words.f k (⟨#[102, 114, 97, 109, 101, 45, 97, 110, 99, 101, 115, 116, 111, 114, 115]⟩ : ByteArray) l0_1).bind fun t233 => (glacisref10_Text.j0 k t233 a0_0 l0_1 a0_2 l0_3)) else (glacisref10_Text.j0 k (⟨#[]⟩ : ByteArray) a0_0 l0_1 a0_2 l0_3)) = some r := h
  clear h
  have HC2 := Aside0.mk H
  clear H
  go_enter Tryd.func18, Tryd.ntmps18
  go_upto_if 5 with (first | ((with_reducible refine gate_dst (N := 1) rfl ?_); refine box_event ?hg (N := 1) ?hd (cs := #[.bool a0_0, .slice A0_1 l0_1.length c0_1, .bool a0_2, .slice A0_3 l0_3.length c0_3]) (t := 26) ?hr ?_; (case hd => rfl); (case hg => rfl); (case hr => first | (go_simp; done) | (go_simp; rfl)); intro gb232 hg w3 hbox hb; have n0_ := Aside0.mk (below_step (by repeat (first | (with_reducible first | exact HB.out | apply below_alloc | apply pw_below_drewN | apply below_drew1) | exact HB.out)) hb); have n1_ := Aside0.mk (hbox); have n2_ := Aside0.mk ((by rw [hg]; exact (below_size (by repeat (first | (with_reducible first | exact HB.out | apply below_alloc | apply pw_below_drewN | apply below_drew1) | exact HB.out))) : w.heap.size ≤ gb232)); have n3_ := Aside0.mk ((by rw [hg]; exact (below_size (by repeat (first | (with_reducible first | exact HB.out | apply below_alloc | apply pw_below_drewN | apply below_drew1) | exact HB.out))) : w.heap.size ≤ gb232)); clear HB; have HB := n0_; have BK232 := n1_; have GW232 := n2_; have GE232 := n3_; clear n0_ n1_ n2_ n3_; clear hb hbox hg; have hcz4_0 : w3.cell? ⟨gb232, 0, none⟩ = some (.bool a0_0) := (blk_cell BK232.out 0).trans rfl; have hcz4_1 : w3.cell? ⟨gb232, 1, none⟩ = some (.slice A0_1 l0_1.length c0_1) := (blk_cell BK232.out 1).trans rfl; have hcz4_2 : w3.cell? ⟨gb232, 2, none⟩ = some (.bool a0_2) := (blk_cell BK232.out 2).trans rfl; have hcz4_3 : w3.cell? ⟨gb232, 3, none⟩ = some (.slice A0_3 l0_3.length c0_3) := (blk_cell BK232.out 3).trans rfl; have hfz4_0 := blk_frozen BK232.out 0; have hfz4_1 := blk_frozen BK232.out 1; have hfz4_2 := blk_frozen BK232.out 2; have hfz4_3 := blk_frozen BK232.out 3))
  (try simp only [Act.put, List.setIfInBounds_toArray, List.set_cons_zero, List.set_cons_succ])
  go_cut [3] (fun v3 wc => ∃ (kq : Nat) (x3_1 : ByteArray), v3 = .string x3_1 ∧ Aside0 (glacisref10_Text.j0 kq x3_1 a0_0 l0_1 a0_2 l0_3 = some r) ∧ Aside0 (kq ≤ k) ∧ Aside0 (wc.heap[gb232]? = some (.cells #[.bool a0_0, (.slice A0_1 l0_1.length c0_1), .bool a0_2, (.slice A0_3 l0_3.length c0_3)] 26 (0, 0))) ∧ Aside0 (Below w.heap.size w wc))
  case first =>
    have H := HC2.out
    clear HC2
    by_cases c5 : a0_0 = true
    · subst c5
      have H1 : ((glacisref10_words.f k (⟨#[102, 114, 97, 109, 101, 45, 97, 110, 99, 101, 115, 116, 111, 114, 115]⟩ : ByteArray) l0_1).bind fun t233 => (glacisref10_Text.j0 k t233 true l0_1 a0_2 l0_3)) = some r := by rw [if_pos rfl] at H; exact H
      clear H
      have H := H1
      clear H1
      replace H := Option.bind_eq_some_iff.mp H
      obtain ⟨t233, A60, H⟩ := H
      replace H : (glacisref10_Text.j0 k t233 true l0_1 a0_2 l0_3) = some r := H
      have A6 := Aside0.mk A60
      clear A60
      have H' := Aside0.mk H
      clear H
      have hcz7_0 : w3.cell? ⟨gb232, 0, none⟩ = some (.bool true) := (blk_cell BK232.out 0).trans rfl
      have hcz7_1 : w3.cell? ⟨gb232, 1, none⟩ = some (.slice A0_1 l0_1.length c0_1) := (blk_cell BK232.out 1).trans rfl
      have hcz7_2 : w3.cell? ⟨gb232, 2, none⟩ = some (.bool a0_2) := (blk_cell BK232.out 2).trans rfl
      have hcz7_3 : w3.cell? ⟨gb232, 3, none⟩ = some (.slice A0_3 l0_3.length c0_3) := (blk_cell BK232.out 3).trans rfl
      have hfz7_0 := blk_frozen BK232.out 0
      have hfz7_1 := blk_frozen BK232.out 1
      have hfz7_2 := blk_frozen BK232.out 2
      have hfz7_3 := blk_frozen BK232.out 3
      go_wp2_with (first | ((with_reducible refine gate_callee (f := 28) rfl ?_); refine goesL_ (some 8) rfl rfl Tryd.func28 (by kernel_rfl) rfl #[.string (⟨#[102, 114, 97, 109, 101, 45, 97, 110, 99, 101, 115, 116, 111, 114, 115]⟩ : ByteArray), .slice A0_1 l0_1.length c0_1] rfl (by (try simp only [List.map_toArray, List.map_cons, List.map_nil]); first | done | rfl | (simp only [List.length_drop, List.length_take]; rfl)) ?_; (with_reducible refine (glacisref10_words.calls k (⟨#[102, 114, 97, 109, 101, 45, 97, 110, 99, 101, 115, 116, 111, 114, 115]⟩ : ByteArray) _ _ l0_1 t233 _ ?side1 ?side2 A6.out).mono ?_); (case side1 => repeat (first | exact (Kd.C_below HR0_1.out HB.out) | (with_reducible refine Kd.C_alloc ?_ _) | (with_reducible refine Kd.C_drewN ?_ _) | (with_reducible refine Kd.C_drew ?_))); (case side2 => exact HC0_1.out); rintro e w' ⟨rfl, ⟨nd, rfl⟩⟩; refine ⟨_, rfl, ?_⟩))
      go_meet
      case rel => exact ⟨_, (t233), (by first | rfl | (simp; done) | (simp [*]; done) | (simp [q_ne_nil]; done)), H', ⟨by first | omega | exact Nat.le_refl _⟩, ⟨by (with_reducible repeat (first | refine blk_drewN ?_ _ | refine blk_drew ?_ | refine blk_alloc ?_ _)); exact BK232.out⟩, ⟨by repeat (first | (with_reducible first | exact HB.out | apply below_alloc | apply pw_below_drewN | apply below_drew1 | refine below_set ?_ GE232.out) | exact HB.out)⟩⟩
    · replace c5 := Bool.eq_false_iff.mpr c5
      subst c5
      have H1 : (glacisref10_Text.j0 k (⟨#[]⟩ : ByteArray) false l0_1 a0_2 l0_3) = some r := by rw [if_neg (show ¬ (false = true) by decide)] at H; exact H
      clear H
      have H := H1
      clear H1
      have H' := Aside0.mk H
      clear H
      go_wp2
      go_meet
      case rel => exact ⟨_, ((⟨#[]⟩ : ByteArray)), (by first | rfl | (simp; done) | (simp [*]; done) | (simp [q_ne_nil]; done)), H', ⟨by first | omega | exact Nat.le_refl _⟩, ⟨by (with_reducible repeat (first | refine blk_drewN ?_ _ | refine blk_drew ?_ | refine blk_alloc ?_ _)); exact BK232.out⟩, ⟨by repeat (first | (with_reducible first | exact HB.out | apply below_alloc | apply pw_below_drewN | apply below_drew1 | refine below_set ?_ GE232.out) | exact HB.out)⟩⟩
  case rest =>
    clear HC2
    try clear c1
    try clear c2
    try clear p2
    try clear c5
    try clear hcz4_0
    try clear hcz4_1
    try clear hcz4_2
    try clear hcz4_3
    try clear hcz7_0
    try clear hcz7_1
    try clear hcz7_2
    try clear hcz7_3
    try clear hfz4_0
    try clear hfz4_1
    try clear hfz4_2
    try clear hfz4_3
    try clear hfz7_0
    try clear hfz7_1
    try clear hfz7_2
    try clear hfz7_3
    obtain ⟨kq, x3_1, rfl, HA, HJ1, BK232, HB⟩ := hcut
    cases kq with
    | zero => exact absurd HA.out (by simp [glacisref10_Text.j0])
    | succ kj1 =>
      have H := HA.out
      clear HA
      simp only [glacisref10_Text.j0] at H
      have HC8 := Aside0.mk H
      clear H
      go_upto_region 4 with (fail)
      go_cut [14] (fun v14 wc => ∃ (kq : Nat) (x14_7 : Bool), v14 = .bool x14_7 ∧ Aside0 (glacisref10_Text.j1 kq x3_1 x14_7 a0_0 l0_1 a0_2 l0_3 = some r) ∧ Aside0 (kq ≤ kj1) ∧ Aside0 (wc.heap[gb232]? = some (.cells #[.bool a0_0, (.slice A0_1 l0_1.length c0_1), .bool a0_2, (.slice A0_3 l0_3.length c0_3)] 26 (0, 0))) ∧ Aside0 (Below w.heap.size w wc))
      case first =>
        have H := HC8.out
        clear HC8
        by_cases c9 : a0_0 = true
        · subst c9
          have H1 : (glacisref10_Text.j1 kj1 x3_1 a0_2 true l0_1 a0_2 l0_3) = some r := by rw [if_pos rfl] at H; exact H
          clear H
          have H := H1
          clear H1
          have H' := Aside0.mk H
          clear H
          have hcz10_0 : wc.cell? ⟨gb232, 0, none⟩ = some (.bool true) := (blk_cell BK232.out 0).trans rfl
          have hcz10_1 : wc.cell? ⟨gb232, 1, none⟩ = some (.slice A0_1 l0_1.length c0_1) := (blk_cell BK232.out 1).trans rfl
          have hcz10_2 : wc.cell? ⟨gb232, 2, none⟩ = some (.bool a0_2) := (blk_cell BK232.out 2).trans rfl
          have hcz10_3 : wc.cell? ⟨gb232, 3, none⟩ = some (.slice A0_3 l0_3.length c0_3) := (blk_cell BK232.out 3).trans rfl
          have hfz10_0 := blk_frozen BK232.out 0
          have hfz10_1 := blk_frozen BK232.out 1
          have hfz10_2 := blk_frozen BK232.out 2
          have hfz10_3 := blk_frozen BK232.out 3
          go_wp2
          go_meet
          case rel => exact ⟨_, (a0_2), (by first | rfl | (simp; done) | (simp [*]; done) | (simp [q_ne_nil]; done)), H', ⟨by have := HJ1.out; first | omega | exact Nat.le_refl _⟩, ⟨by (with_reducible repeat (first | refine blk_drewN ?_ _ | refine blk_drew ?_ | refine blk_alloc ?_ _)); exact BK232.out⟩, ⟨by repeat (first | (with_reducible first | exact HB.out | apply below_alloc | apply pw_below_drewN | apply below_drew1 | refine below_set ?_ GE232.out) | exact HB.out)⟩⟩
        · replace c9 := Bool.eq_false_iff.mpr c9
          subst c9
          have H1 : (glacisref10_Text.j1 kj1 x3_1 false false l0_1 a0_2 l0_3) = some r := by rw [if_neg (show ¬ (false = true) by decide)] at H; exact H
          clear H
          have H := H1
          clear H1
          have H' := Aside0.mk H
          clear H
          have hcz11_0 : wc.cell? ⟨gb232, 0, none⟩ = some (.bool false) := (blk_cell BK232.out 0).trans rfl
          have hcz11_1 : wc.cell? ⟨gb232, 1, none⟩ = some (.slice A0_1 l0_1.length c0_1) := (blk_cell BK232.out 1).trans rfl
          have hcz11_2 : wc.cell? ⟨gb232, 2, none⟩ = some (.bool a0_2) := (blk_cell BK232.out 2).trans rfl
          have hcz11_3 : wc.cell? ⟨gb232, 3, none⟩ = some (.slice A0_3 l0_3.length c0_3) := (blk_cell BK232.out 3).trans rfl
          have hfz11_0 := blk_frozen BK232.out 0
          have hfz11_1 := blk_frozen BK232.out 1
          have hfz11_2 := blk_frozen BK232.out 2
          have hfz11_3 := blk_frozen BK232.out 3
          go_wp2
          go_meet
          case rel => exact ⟨_, (false), (by first | rfl | (simp; done) | (simp [*]; done) | (simp [q_ne_nil]; done)), H', ⟨by have := HJ1.out; first | omega | exact Nat.le_refl _⟩, ⟨by (with_reducible repeat (first | refine blk_drewN ?_ _ | refine blk_drew ?_ | refine blk_alloc ?_ _)); exact BK232.out⟩, ⟨by repeat (first | (with_reducible first | exact HB.out | apply below_alloc | apply pw_below_drewN | apply below_drew1 | refine below_set ?_ GE232.out) | exact HB.out)⟩⟩
      case rest =>
        clear HC8
        try clear c1
        try clear c2
        try clear p2
        try clear c5
        try clear c9
        try clear hcz10_0
        try clear hcz10_1
        try clear hcz10_2
        try clear hcz10_3
        try clear hcz11_0
        try clear hcz11_1
        try clear hcz11_2
        try clear hcz11_3
        try clear hcz4_0
        try clear hcz4_1
        try clear hcz4_2
        try clear hcz4_3
        try clear hcz7_0
        try clear hcz7_1
        try clear hcz7_2
        try clear hcz7_3
        try clear hfz10_0
        try clear hfz10_1
        try clear hfz10_2
        try clear hfz10_3
        try clear hfz11_0
        try clear hfz11_1
        try clear hfz11_2
        try clear hfz11_3
        try clear hfz4_0
        try clear hfz4_1
        try clear hfz4_2
        try clear hfz4_3
        try clear hfz7_0
        try clear hfz7_1
        try clear hfz7_2
        try clear hfz7_3
        try clear p2
        obtain ⟨kq, x14_7, rfl, HA, HJ7, BK232, HB⟩ := hcut
        cases kq with
        | zero => exact absurd HA.out (by simp [glacisref10_Text.j1])
        | succ kj7 =>
          have H := HA.out
          clear HA
          simp only [glacisref10_Text.j1] at H
          by_cases c12 : x14_7 = true
          · subst c12
            have H1 : (if x3_1.size + 2 ≤ 9223372036854775807 then (if a0_2 = true then ((glacisref10_words.f kj7 (⟨#[115, 97, 110, 100, 98, 111, 120]⟩ : ByteArray) l0_3).bind fun t234 => (if (x3_1 ++ (⟨#[59, 32]⟩ : ByteArray)).size + t234.size ≤ 9223372036854775807 then (some ((x3_1 ++ (⟨#[59, 32]⟩ : ByteArray)) ++ t234)) else (none))) else (some (x3_1 ++ (⟨#[59, 32]⟩ : ByteArray)))) else (none)) = some r := by rw [if_pos rfl] at H; exact H
            clear H
            have H := H1
            clear H1
            by_cases c13 : x3_1.size + 2 ≤ 9223372036854775807
            · rw [if_pos c13] at H
              have c13b0 := eq_true c13
              have c13b1 : decide (x3_1.size + 2 ≤ 9223372036854775807) = true := decide_eq_true c13
              try have c13b2 : (9223372036854775807 < x3_1.size + 2) = False := eq_false (Nat.not_lt.2 c13)
              by_cases c14 : a0_2 = true
              · subst c14
                have H1 : ((glacisref10_words.f kj7 (⟨#[115, 97, 110, 100, 98, 111, 120]⟩ : ByteArray) l0_3).bind fun t234 => (if (x3_1 ++ (⟨#[59, 32]⟩ : ByteArray)).size + t234.size ≤ 9223372036854775807 then (some ((x3_1 ++ (⟨#[59, 32]⟩ : ByteArray)) ++ t234)) else (none))) = some r := by rw [if_pos rfl] at H; exact H
                clear H
                have H := H1
                clear H1
                replace H := Option.bind_eq_some_iff.mp H
                obtain ⟨t234, A150, H⟩ := H
                replace H : (if (x3_1 ++ (⟨#[59, 32]⟩ : ByteArray)).size + t234.size ≤ 9223372036854775807 then (some ((x3_1 ++ (⟨#[59, 32]⟩ : ByteArray)) ++ t234)) else (none)) = some r := H
                have A15 := Aside0.mk A150
                clear A150
                by_cases c16 : (x3_1 ++ (⟨#[59, 32]⟩ : ByteArray)).size + t234.size ≤ 9223372036854775807
                · rw [if_pos c16] at H
                  have c16b0 := eq_true c16
                  have c16b1 : decide ((x3_1 ++ (⟨#[59, 32]⟩ : ByteArray)).size + t234.size ≤ 9223372036854775807) = true := decide_eq_true c16
                  try have c16b2 : (9223372036854775807 < (x3_1 ++ (⟨#[59, 32]⟩ : ByteArray)).size + t234.size) = False := eq_false (Nat.not_lt.2 c16)
                  try (have c16d : (9223372036854775807 < x3_1.size + 2 + t234.size) = False := eq_false (by have h_ := c16; simp only [ByteArray.size_append] at h_; exact Nat.not_lt.2 h_))
                  obtain rfl := Option.some.inj H
                  have hcz17_0 : wc.cell? ⟨gb232, 0, none⟩ = some (.bool a0_0) := (blk_cell BK232.out 0).trans rfl
                  have hcz17_1 : wc.cell? ⟨gb232, 1, none⟩ = some (.slice A0_1 l0_1.length c0_1) := (blk_cell BK232.out 1).trans rfl
                  have hcz17_2 : wc.cell? ⟨gb232, 2, none⟩ = some (.bool true) := (blk_cell BK232.out 2).trans rfl
                  have hcz17_3 : wc.cell? ⟨gb232, 3, none⟩ = some (.slice A0_3 l0_3.length c0_3) := (blk_cell BK232.out 3).trans rfl
                  have hfz17_0 := blk_frozen BK232.out 0
                  have hfz17_1 := blk_frozen BK232.out 1
                  have hfz17_2 := blk_frozen BK232.out 2
                  have hfz17_3 := blk_frozen BK232.out 3
                  go_wp2_with (first | ((with_reducible refine gate_callee (f := 28) rfl ?_); refine goesL_ (some 22) rfl rfl Tryd.func28 (by kernel_rfl) rfl #[.string (⟨#[115, 97, 110, 100, 98, 111, 120]⟩ : ByteArray), .slice A0_3 l0_3.length c0_3] rfl (by (try simp only [List.map_toArray, List.map_cons, List.map_nil]); first | done | rfl | (simp only [List.length_drop, List.length_take]; rfl)) ?_; (with_reducible refine (glacisref10_words.calls kj7 (⟨#[115, 97, 110, 100, 98, 111, 120]⟩ : ByteArray) _ _ l0_3 t234 _ ?side1 ?side2 A15.out).mono ?_); (case side1 => repeat (first | exact (Kd.C_below HR0_3.out HB.out) | (with_reducible refine Kd.C_alloc ?_ _) | (with_reducible refine Kd.C_drewN ?_ _) | (with_reducible refine Kd.C_drew ?_))); (case side2 => exact HC0_3.out); rintro e w' ⟨rfl, ⟨nd, rfl⟩⟩; refine ⟨_, rfl, ?_⟩))
                  go_ret
                  exact ⟨by first | rfl | (simp [errW_none, errW_some] <;> rfl) | (simp [*, errW_none, errW_some] <;> rfl) | (simp [q_ne_nil]; done), by repeat (first | (with_reducible first | exact HB.out | apply below_alloc | apply pw_below_drewN | apply below_drew1 | refine below_set ?_ GE232.out) | exact HB.out)⟩
                · rw [if_neg c16] at H
                  exact absurd H (by simp)
              · replace c14 := Bool.eq_false_iff.mpr c14
                subst c14
                have H1 : (some (x3_1 ++ (⟨#[59, 32]⟩ : ByteArray))) = some r := by rw [if_neg (show ¬ (false = true) by decide)] at H; exact H
                clear H
                have H := H1
                clear H1
                obtain rfl := Option.some.inj H
                have hcz18_0 : wc.cell? ⟨gb232, 0, none⟩ = some (.bool a0_0) := (blk_cell BK232.out 0).trans rfl
                have hcz18_1 : wc.cell? ⟨gb232, 1, none⟩ = some (.slice A0_1 l0_1.length c0_1) := (blk_cell BK232.out 1).trans rfl
                have hcz18_2 : wc.cell? ⟨gb232, 2, none⟩ = some (.bool false) := (blk_cell BK232.out 2).trans rfl
                have hcz18_3 : wc.cell? ⟨gb232, 3, none⟩ = some (.slice A0_3 l0_3.length c0_3) := (blk_cell BK232.out 3).trans rfl
                have hfz18_0 := blk_frozen BK232.out 0
                have hfz18_1 := blk_frozen BK232.out 1
                have hfz18_2 := blk_frozen BK232.out 2
                have hfz18_3 := blk_frozen BK232.out 3
                go_wp2
                go_ret
                exact ⟨by first | rfl | (simp [errW_none, errW_some] <;> rfl) | (simp [*, errW_none, errW_some] <;> rfl) | (simp [q_ne_nil]; done), by repeat (first | (with_reducible first | exact HB.out | apply below_alloc | apply pw_below_drewN | apply below_drew1 | refine below_set ?_ GE232.out) | exact HB.out)⟩
            · rw [if_neg c13] at H
              exact absurd H (by simp)
          · replace c12 := Bool.eq_false_iff.mpr c12
            subst c12
            have H1 : (if a0_2 = true then ((glacisref10_words.f kj7 (⟨#[115, 97, 110, 100, 98, 111, 120]⟩ : ByteArray) l0_3).bind fun t235 => (if x3_1.size + t235.size ≤ 9223372036854775807 then (some (x3_1 ++ t235)) else (none))) else (some x3_1)) = some r := by rw [if_neg (show ¬ (false = true) by decide)] at H; exact H
            clear H
            have H := H1
            clear H1
            by_cases c19 : a0_2 = true
            · subst c19
              have H1 : ((glacisref10_words.f kj7 (⟨#[115, 97, 110, 100, 98, 111, 120]⟩ : ByteArray) l0_3).bind fun t235 => (if x3_1.size + t235.size ≤ 9223372036854775807 then (some (x3_1 ++ t235)) else (none))) = some r := by rw [if_pos rfl] at H; exact H
              clear H
              have H := H1
              clear H1
              replace H := Option.bind_eq_some_iff.mp H
              obtain ⟨t235, A200, H⟩ := H
              replace H : (if x3_1.size + t235.size ≤ 9223372036854775807 then (some (x3_1 ++ t235)) else (none)) = some r := H
              have A20 := Aside0.mk A200
              clear A200
              by_cases c21 : x3_1.size + t235.size ≤ 9223372036854775807
              · rw [if_pos c21] at H
                have c21b0 := eq_true c21
                have c21b1 : decide (x3_1.size + t235.size ≤ 9223372036854775807) = true := decide_eq_true c21
                try have c21b2 : (9223372036854775807 < x3_1.size + t235.size) = False := eq_false (Nat.not_lt.2 c21)
                obtain rfl := Option.some.inj H
                have hcz22_0 : wc.cell? ⟨gb232, 0, none⟩ = some (.bool a0_0) := (blk_cell BK232.out 0).trans rfl
                have hcz22_1 : wc.cell? ⟨gb232, 1, none⟩ = some (.slice A0_1 l0_1.length c0_1) := (blk_cell BK232.out 1).trans rfl
                have hcz22_2 : wc.cell? ⟨gb232, 2, none⟩ = some (.bool true) := (blk_cell BK232.out 2).trans rfl
                have hcz22_3 : wc.cell? ⟨gb232, 3, none⟩ = some (.slice A0_3 l0_3.length c0_3) := (blk_cell BK232.out 3).trans rfl
                have hfz22_0 := blk_frozen BK232.out 0
                have hfz22_1 := blk_frozen BK232.out 1
                have hfz22_2 := blk_frozen BK232.out 2
                have hfz22_3 := blk_frozen BK232.out 3
                go_wp2_with (first | ((with_reducible refine gate_callee (f := 28) rfl ?_); refine goesL_ (some 22) rfl rfl Tryd.func28 (by kernel_rfl) rfl #[.string (⟨#[115, 97, 110, 100, 98, 111, 120]⟩ : ByteArray), .slice A0_3 l0_3.length c0_3] rfl (by (try simp only [List.map_toArray, List.map_cons, List.map_nil]); first | done | rfl | (simp only [List.length_drop, List.length_take]; rfl)) ?_; (with_reducible refine (glacisref10_words.calls kj7 (⟨#[115, 97, 110, 100, 98, 111, 120]⟩ : ByteArray) _ _ l0_3 t235 _ ?side1 ?side2 A20.out).mono ?_); (case side1 => repeat (first | exact (Kd.C_below HR0_3.out HB.out) | (with_reducible refine Kd.C_alloc ?_ _) | (with_reducible refine Kd.C_drewN ?_ _) | (with_reducible refine Kd.C_drew ?_))); (case side2 => exact HC0_3.out); rintro e w' ⟨rfl, ⟨nd, rfl⟩⟩; refine ⟨_, rfl, ?_⟩))
                go_ret
                exact ⟨by first | rfl | (simp [errW_none, errW_some] <;> rfl) | (simp [*, errW_none, errW_some] <;> rfl) | (simp [q_ne_nil]; done), by repeat (first | (with_reducible first | exact HB.out | apply below_alloc | apply pw_below_drewN | apply below_drew1 | refine below_set ?_ GE232.out) | exact HB.out)⟩
              · rw [if_neg c21] at H
                exact absurd H (by simp)
            · replace c19 := Bool.eq_false_iff.mpr c19
              subst c19
              have H1 : (some x3_1) = some r := by rw [if_neg (show ¬ (false = true) by decide)] at H; exact H
              clear H
              have H := H1
              clear H1
              obtain rfl := Option.some.inj H
              have hcz23_0 : wc.cell? ⟨gb232, 0, none⟩ = some (.bool a0_0) := (blk_cell BK232.out 0).trans rfl
              have hcz23_1 : wc.cell? ⟨gb232, 1, none⟩ = some (.slice A0_1 l0_1.length c0_1) := (blk_cell BK232.out 1).trans rfl
              have hcz23_2 : wc.cell? ⟨gb232, 2, none⟩ = some (.bool false) := (blk_cell BK232.out 2).trans rfl
              have hcz23_3 : wc.cell? ⟨gb232, 3, none⟩ = some (.slice A0_3 l0_3.length c0_3) := (blk_cell BK232.out 3).trans rfl
              have hfz23_0 := blk_frozen BK232.out 0
              have hfz23_1 := blk_frozen BK232.out 1
              have hfz23_2 := blk_frozen BK232.out 2
              have hfz23_3 := blk_frozen BK232.out 3
              go_wp2
              go_ret
              exact ⟨by first | rfl | (simp [errW_none, errW_some] <;> rfl) | (simp [*, errW_none, errW_some] <;> rfl) | (simp [q_ne_nil]; done), by repeat (first | (with_reducible first | exact HB.out | apply below_alloc | apply pw_below_drewN | apply below_drew1 | refine below_set ?_ GE232.out) | exact HB.out)⟩

end Go.Proofs.YtkjlhhhnananlaaDoor.Q
