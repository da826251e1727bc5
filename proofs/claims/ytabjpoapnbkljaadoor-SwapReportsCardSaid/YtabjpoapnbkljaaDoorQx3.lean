-- Laid by this seat's own driver (wip/tools/drive.py) out of the translation.
import Derived.Test.YtabjpoapnbkljaaDoorQx0
import Derived.Test.YtabjpoapnbkljaaDoorQx2
namespace Go.Proofs.YtabjpoapnbkljaaDoor.Q
open Go.RowKit Go.Proofs.YtabjpoapnbkljaaDoorW.PrintWords Go.Proofs.YtabjpoapnbkljaaDoorW.PrintLast Go.Proofs.YtabjpoapnbkljaaDoorW.PrintMore
attribute [local go_sem] max2_int min2_int max_two min_two max_three min_three max_four min_four   -- for this text's walks alone
set_option linter.unusedVariables false
set_option linter.unusedSimpArgs false

attribute [local go_sem high] eqA28
/-! ### origin_bare: function 20 -/
def origin_bare.f (a0_0 : Bool) (a0_1 : Int) (a0_2 : ByteArray) (a0_3 : ByteArray) (a0_4 : Bool) (a0_5 : Int) (a0_6 : Int) : Option (Bool × Int × ByteArray × ByteArray × Bool × Int × Int) := if a0_0 = true then (some (true, a0_1, (⟨#[]⟩ : ByteArray), (⟨#[]⟩ : ByteArray), false, 0, 0)) else (some (a0_0, 0, a0_2, a0_3, a0_4, a0_5, a0_6))
set_option maxHeartbeats 8000000 in
set_option maxRecDepth 100000 in
theorem origin_bare.calls (a0_0 : Bool) (a0_1 : Int) (a0_2 : ByteArray) (a0_3 : ByteArray) (a0_4 : Bool) (a0_5 : Int) (a0_6 : Int) (r1 : Bool) (r2 : Int) (r3 : ByteArray) (r4 : ByteArray) (r5 : Bool) (r6 : Int) (r7 : Int) (w : World) (h : origin_bare.f a0_0 a0_1 a0_2 a0_3 a0_4 a0_5 a0_6 = some (r1, r2, r3, r4, r5, r6, r7)) :
    Calls Tryd.prog 20 #[.agg #[.bool a0_0, .int .i64 a0_1, .string a0_2, .string a0_3, .bool a0_4, .int .u32 a0_5, .int .i64 a0_6]] w fun e w' => e = .returned (.agg #[.bool r1, .int .i64 r2, .string r3, .string r4, .bool r5, .int .u32 r6, .int .i64 r7]) ∧ Below w.heap.size w w' := by
  have hu28 := Tryd.underlying28
  have HB := Aside0.mk (Below.refl w.heap.size w)
  have H : (if a0_0 = true then (some (true, a0_1, (⟨#[]⟩ : ByteArray), (⟨#[]⟩ : ByteArray), false, 0, 0)) else (some (a0_0, 0, a0_2, a0_3, a0_4, a0_5, a0_6))) = some (r1, r2, r3, r4, r5, r6, r7) := h
  clear h
  by_cases c2 : a0_0 = true
  · subst c2
    have H1 : (some (true, a0_1, (⟨#[]⟩ : ByteArray), (⟨#[]⟩ : ByteArray), false, 0, 0)) = some (r1, r2, r3, r4, r5, r6, r7) := by rw [if_pos rfl] at H; exact H
    clear H
    have H := H1
    clear H1
    simp only [Option.some.injEq, Prod.mk.injEq] at H
    obtain ⟨rfl, rfl, rfl, rfl, rfl, rfl, rfl⟩ := H
    go_enter Tryd.func20, Tryd.ntmps20
    go_wp2_with (first | ((with_reducible refine gate_dst (N := 1) rfl ?_); refine box_event ?hg (N := 1) ?hd (cs := #[.bool true, .int .i64 a0_1, .string a0_2, .string a0_3, .bool a0_4, .int .u32 a0_5, .int .i64 a0_6]) (t := 28) ?hr ?_; (case hd => rfl); (case hg => rfl); (case hr => first | (go_simp; done) | (go_simp; rfl)); intro gb101 hg w3 hbox hb; have n0_ := Aside0.mk (below_step (by repeat (first | (with_reducible first | exact HB.out | apply below_alloc | apply pw_below_drewN | apply below_drew1) | exact HB.out)) hb); have n1_ := Aside0.mk (hbox); have n2_ := Aside0.mk ((by rw [hg]; exact (below_size (by repeat (first | (with_reducible first | exact HB.out | apply below_alloc | apply pw_below_drewN | apply below_drew1) | exact HB.out))) : w.heap.size ≤ gb101)); have n3_ := Aside0.mk ((by rw [hg]; exact (below_size (by repeat (first | (with_reducible first | exact HB.out | apply below_alloc | apply pw_below_drewN | apply below_drew1) | exact HB.out))) : w.heap.size ≤ gb101)); clear HB; have HB := n0_; have BK101 := n1_; have GW101 := n2_; have GE101 := n3_; clear n0_ n1_ n2_ n3_; clear hb hbox hg) | ((with_reducible refine gate_dst (N := 2) rfl ?_); refine box_event ?hg (N := 2) ?hd (cs := #[.bool false, .int .i64 0, .string (⟨#[]⟩ : ByteArray), .string (⟨#[]⟩ : ByteArray), .bool false, .int .u32 0, .int .i64 0]) (t := 28) ?hr ?_; (case hd => rfl); (case hg => rfl); (case hr => first | (go_simp; done) | (go_simp; rfl)); intro gb102 hg w4 hbox hb; have n0_ := Aside0.mk (blk_below (g := gb101) (o := .cells #[.bool true, .int .i64 a0_1, .string a0_2, .string a0_3, .bool a0_4, .int .u32 a0_5, .int .i64 a0_6] 28 (0, 0)) (by (with_reducible repeat (first | refine blk_drewN ?_ _ | refine blk_drew ?_ | refine blk_alloc ?_ _)); exact BK101.out) hb); have n1_ := Aside0.mk (below_step (by repeat (first | (with_reducible first | exact HB.out | apply below_alloc | apply pw_below_drewN | apply below_drew1 | refine below_set ?_ GE101.out) | exact HB.out)) hb); have n2_ := Aside0.mk (hbox); have n3_ := Aside0.mk ((by rw [hg]; exact (below_size (by repeat (first | (with_reducible first | exact HB.out | apply below_alloc | apply pw_below_drewN | apply below_drew1 | refine below_set ?_ GE101.out) | exact HB.out))) : w.heap.size ≤ gb102)); have n4_ := Aside0.mk ((by rw [hg]; exact (below_size (by repeat (first | (with_reducible first | exact HB.out | apply below_alloc | apply pw_below_drewN | apply below_drew1 | refine below_set ?_ GE101.out) | exact HB.out))) : w.heap.size ≤ gb102)); have n5_ := Aside0.mk ((by rw [hg]; exact Nat.ne_of_lt (blk_lt (g := gb101) (o := .cells #[.bool true, .int .i64 a0_1, .string a0_2, .string a0_3, .bool a0_4, .int .u32 a0_5, .int .i64 a0_6] 28 (0, 0)) (by (with_reducible repeat (first | refine blk_drewN ?_ _ | refine blk_drew ?_ | refine blk_alloc ?_ _)); exact BK101.out)) : gb101 ≠ gb102)); have n6_ := Aside0.mk ((by rw [hg]; exact Nat.ne_of_gt (blk_lt (g := gb101) (o := .cells #[.bool true, .int .i64 a0_1, .string a0_2, .string a0_3, .bool a0_4, .int .u32 a0_5, .int .i64 a0_6] 28 (0, 0)) (by (with_reducible repeat (first | refine blk_drewN ?_ _ | refine blk_drew ?_ | refine blk_alloc ?_ _)); exact BK101.out)) : gb102 ≠ gb101)); clear BK101; clear HB; have BK101 := n0_; have HB := n1_; have BK102 := n2_; have GW102 := n3_; have GE102 := n4_; have NB101_102 := n5_; have NB102_101 := n6_; clear n0_ n1_ n2_ n3_ n4_ n5_ n6_; clear hb hbox hg; have hnb5 := NB101_102.out; have hnc5 := NB102_101.out; have hcz6_0 : w4.cell? ⟨gb101, 0, none⟩ = some (.bool true) := (blk_cell BK101.out 0).trans rfl; have hcz6_1 : w4.cell? ⟨gb101, 1, none⟩ = some (.int .i64 a0_1) := (blk_cell BK101.out 1).trans rfl; have hcz6_2 : w4.cell? ⟨gb101, 2, none⟩ = some (.string a0_2) := (blk_cell BK101.out 2).trans rfl; have hcz6_3 : w4.cell? ⟨gb101, 3, none⟩ = some (.string a0_3) := (blk_cell BK101.out 3).trans rfl; have hcz6_4 : w4.cell? ⟨gb101, 4, none⟩ = some (.bool a0_4) := (blk_cell BK101.out 4).trans rfl; have hcz6_5 : w4.cell? ⟨gb101, 5, none⟩ = some (.int .u32 a0_5) := (blk_cell BK101.out 5).trans rfl; have hcz6_6 : w4.cell? ⟨gb101, 6, none⟩ = some (.int .i64 a0_6) := (blk_cell BK101.out 6).trans rfl; have hfz6_0 := blk_frozen BK101.out 0; have hfz6_1 := blk_frozen BK101.out 1; have hfz6_2 := blk_frozen BK101.out 2; have hfz6_3 := blk_frozen BK101.out 3; have hfz6_4 := blk_frozen BK101.out 4; have hfz6_5 := blk_frozen BK101.out 5; have hfz6_6 := blk_frozen BK101.out 6; have hcz7_0 : w4.cell? ⟨gb102, 0, none⟩ = some (.bool false) := (blk_cell BK102.out 0).trans rfl; have hcz7_1 : w4.cell? ⟨gb102, 1, none⟩ = some (.int .i64 0) := (blk_cell BK102.out 1).trans rfl; have hcz7_2 : w4.cell? ⟨gb102, 2, none⟩ = some (.string (⟨#[]⟩ : ByteArray)) := (blk_cell BK102.out 2).trans rfl; have hcz7_3 : w4.cell? ⟨gb102, 3, none⟩ = some (.string (⟨#[]⟩ : ByteArray)) := (blk_cell BK102.out 3).trans rfl; have hcz7_4 : w4.cell? ⟨gb102, 4, none⟩ = some (.bool false) := (blk_cell BK102.out 4).trans rfl; have hcz7_5 : w4.cell? ⟨gb102, 5, none⟩ = some (.int .u32 0) := (blk_cell BK102.out 5).trans rfl; have hcz7_6 : w4.cell? ⟨gb102, 6, none⟩ = some (.int .i64 0) := (blk_cell BK102.out 6).trans rfl; have hfz7_0 := blk_frozen BK102.out 0; have hfz7_1 := blk_frozen BK102.out 1; have hfz7_2 := blk_frozen BK102.out 2; have hfz7_3 := blk_frozen BK102.out 3; have hfz7_4 := blk_frozen BK102.out 4; have hfz7_5 := blk_frozen BK102.out 5; have hfz7_6 := blk_frozen BK102.out 6))
    refine bodyPost_ret (results_cell_row rfl _ _ gb102 28 #[.bool true, .int .i64 a0_1, .string (⟨#[]⟩ : ByteArray), .string (⟨#[]⟩ : ByteArray), .bool false, .int .u32 0, .int .i64 0] (0, 0) _ rfl (by (with_reducible repeat (first | refine blk_drewN ?_ _ | refine blk_drew ?_ | refine blk_alloc ?_ _)); refine blk_put (cs := #[.bool true, .int .i64 a0_1, .string (⟨#[]⟩ : ByteArray), .string (⟨#[]⟩ : ByteArray), .bool false, .int .u32 0, .int .i64 0]) ?_ 6 _ rfl; (with_reducible repeat (first | refine blk_drewN ?_ _ | refine blk_drew ?_ | refine blk_alloc ?_ _)); refine blk_put (cs := #[.bool true, .int .i64 a0_1, .string (⟨#[]⟩ : ByteArray), .string (⟨#[]⟩ : ByteArray), .bool false, .int .u32 0, .int .i64 0]) ?_ 5 _ rfl; (with_reducible repeat (first | refine blk_drewN ?_ _ | refine blk_drew ?_ | refine blk_alloc ?_ _)); refine blk_put (cs := #[.bool true, .int .i64 a0_1, .string (⟨#[]⟩ : ByteArray), .string (⟨#[]⟩ : ByteArray), .bool false, .int .u32 0, .int .i64 0]) ?_ 4 _ rfl; (with_reducible repeat (first | refine blk_drewN ?_ _ | refine blk_drew ?_ | refine blk_alloc ?_ _)); refine blk_put (cs := #[.bool true, .int .i64 a0_1, .string (⟨#[]⟩ : ByteArray), .string (⟨#[]⟩ : ByteArray), .bool false, .int .u32 0, .int .i64 0]) ?_ 3 _ rfl; (with_reducible repeat (first | refine blk_drewN ?_ _ | refine blk_drew ?_ | refine blk_alloc ?_ _)); refine blk_put (cs := #[.bool true, .int .i64 a0_1, .string (⟨#[]⟩ : ByteArray), .string (⟨#[]⟩ : ByteArray), .bool false, .int .u32 0, .int .i64 0]) ?_ 2 _ rfl; (with_reducible repeat (first | refine blk_drewN ?_ _ | refine blk_drew ?_ | refine blk_alloc ?_ _)); refine blk_put (cs := #[.bool true, .int .i64 0, .string (⟨#[]⟩ : ByteArray), .string (⟨#[]⟩ : ByteArray), .bool false, .int .u32 0, .int .i64 0]) ?_ 1 _ rfl; (with_reducible repeat (first | refine blk_drewN ?_ _ | refine blk_drew ?_ | refine blk_alloc ?_ _)); refine blk_put (cs := #[.bool false, .int .i64 0, .string (⟨#[]⟩ : ByteArray), .string (⟨#[]⟩ : ByteArray), .bool false, .int .u32 0, .int .i64 0]) ?_ 0 _ rfl; (with_reducible repeat (first | refine blk_drewN ?_ _ | refine blk_drew ?_ | refine blk_alloc ?_ _)); exact BK102.out) Tryd.underlying28 rfl (by kernel_rfl)) rfl ?_
    exact ⟨by first | rfl | (simp [errW_none, errW_some] <;> rfl) | (simp [*, errW_none, errW_some] <;> rfl) | (simp [q_ne_nil]; done), by repeat (first | (with_reducible first | exact HB.out | apply below_alloc | apply pw_below_drewN | apply below_drew1 | refine below_set ?_ GE101.out | refine below_set ?_ GE102.out) | exact HB.out)⟩
  · replace c2 := Bool.eq_false_iff.mpr c2
    subst c2
    have H1 : (some (false, 0, a0_2, a0_3, a0_4, a0_5, a0_6)) = some (r1, r2, r3, r4, r5, r6, r7) := by rw [if_neg (show ¬ (false = true) by decide)] at H; exact H
    clear H
    have H := H1
    clear H1
    simp only [Option.some.injEq, Prod.mk.injEq] at H
    obtain ⟨rfl, rfl, rfl, rfl, rfl, rfl, rfl⟩ := H
    go_enter Tryd.func20, Tryd.ntmps20
    go_wp2_with (first | ((with_reducible refine gate_dst (N := 1) rfl ?_); refine box_event ?hg (N := 1) ?hd (cs := #[.bool false, .int .i64 a0_1, .string a0_2, .string a0_3, .bool a0_4, .int .u32 a0_5, .int .i64 a0_6]) (t := 28) ?hr ?_; (case hd => rfl); (case hg => rfl); (case hr => first | (go_simp; done) | (go_simp; rfl)); intro gb101 hg w8 hbox hb; have n0_ := Aside0.mk (below_step (by repeat (first | (with_reducible first | exact HB.out | apply below_alloc | apply pw_below_drewN | apply below_drew1) | exact HB.out)) hb); have n1_ := Aside0.mk (hbox); have n2_ := Aside0.mk ((by rw [hg]; exact (below_size (by repeat (first | (with_reducible first | exact HB.out | apply below_alloc | apply pw_below_drewN | apply below_drew1) | exact HB.out))) : w.heap.size ≤ gb101)); have n3_ := Aside0.mk ((by rw [hg]; exact (below_size (by repeat (first | (with_reducible first | exact HB.out | apply below_alloc | apply pw_below_drewN | apply below_drew1) | exact HB.out))) : w.heap.size ≤ gb101)); clear HB; have HB := n0_; have BK101 := n1_; have GW101 := n2_; have GE101 := n3_; clear n0_ n1_ n2_ n3_; clear hb hbox hg) | ((with_reducible refine gate_dst (N := 2) rfl ?_); refine box_event ?hg (N := 2) ?hd (cs := #[.bool false, .int .i64 0, .string (⟨#[]⟩ : ByteArray), .string (⟨#[]⟩ : ByteArray), .bool false, .int .u32 0, .int .i64 0]) (t := 28) ?hr ?_; (case hd => rfl); (case hg => rfl); (case hr => first | (go_simp; done) | (go_simp; rfl)); intro gb102 hg w9 hbox hb; have n0_ := Aside0.mk (blk_below (g := gb101) (o := .cells #[.bool false, .int .i64 a0_1, .string a0_2, .string a0_3, .bool a0_4, .int .u32 a0_5, .int .i64 a0_6] 28 (0, 0)) (by (with_reducible repeat (first | refine blk_drewN ?_ _ | refine blk_drew ?_ | refine blk_alloc ?_ _)); exact BK101.out) hb); have n1_ := Aside0.mk (below_step (by repeat (first | (with_reducible first | exact HB.out | apply below_alloc | apply pw_below_drewN | apply below_drew1 | refine below_set ?_ GE101.out) | exact HB.out)) hb); have n2_ := Aside0.mk (hbox); have n3_ := Aside0.mk ((by rw [hg]; exact (below_size (by repeat (first | (with_reducible first | exact HB.out | apply below_alloc | apply pw_below_drewN | apply below_drew1 | refine below_set ?_ GE101.out) | exact HB.out))) : w.heap.size ≤ gb102)); have n4_ := Aside0.mk ((by rw [hg]; exact (below_size (by repeat (first | (with_reducible first | exact HB.out | apply below_alloc | apply pw_below_drewN | apply below_drew1 | refine below_set ?_ GE101.out) | exact HB.out))) : w.heap.size ≤ gb102)); have n5_ := Aside0.mk ((by rw [hg]; exact Nat.ne_of_lt (blk_lt (g := gb101) (o := .cells #[.bool false, .int .i64 a0_1, .string a0_2, .string a0_3, .bool a0_4, .int .u32 a0_5, .int .i64 a0_6] 28 (0, 0)) (by (with_reducible repeat (first | refine blk_drewN ?_ _ | refine blk_drew ?_ | refine blk_alloc ?_ _)); exact BK101.out)) : gb101 ≠ gb102)); have n6_ := Aside0.mk ((by rw [hg]; exact Nat.ne_of_gt (blk_lt (g := gb101) (o := .cells #[.bool false, .int .i64 a0_1, .string a0_2, .string a0_3, .bool a0_4, .int .u32 a0_5, .int .i64 a0_6] 28 (0, 0)) (by (with_reducible repeat (first | refine blk_drewN ?_ _ | refine blk_drew ?_ | refine blk_alloc ?_ _)); exact BK101.out)) : gb102 ≠ gb101)); clear BK101; clear HB; have BK101 := n0_; have HB := n1_; have BK102 := n2_; have GW102 := n3_; have GE102 := n4_; have NB101_102 := n5_; have NB102_101 := n6_; clear n0_ n1_ n2_ n3_ n4_ n5_ n6_; clear hb hbox hg; have hnb10 := NB101_102.out; have hnc10 := NB102_101.out; have hcz11_0 : w9.cell? ⟨gb101, 0, none⟩ = some (.bool false) := (blk_cell BK101.out 0).trans rfl; have hcz11_1 : w9.cell? ⟨gb101, 1, none⟩ = some (.int .i64 a0_1) := (blk_cell BK101.out 1).trans rfl; have hcz11_2 : w9.cell? ⟨gb101, 2, none⟩ = some (.string a0_2) := (blk_cell BK101.out 2).trans rfl; have hcz11_3 : w9.cell? ⟨gb101, 3, none⟩ = some (.string a0_3) := (blk_cell BK101.out 3).trans rfl; have hcz11_4 : w9.cell? ⟨gb101, 4, none⟩ = some (.bool a0_4) := (blk_cell BK101.out 4).trans rfl; have hcz11_5 : w9.cell? ⟨gb101, 5, none⟩ = some (.int .u32 a0_5) := (blk_cell BK101.out 5).trans rfl; have hcz11_6 : w9.cell? ⟨gb101, 6, none⟩ = some (.int .i64 a0_6) := (blk_cell BK101.out 6).trans rfl; have hfz11_0 := blk_frozen BK101.out 0; have hfz11_1 := blk_frozen BK101.out 1; have hfz11_2 := blk_frozen BK101.out 2; have hfz11_3 := blk_frozen BK101.out 3; have hfz11_4 := blk_frozen BK101.out 4; have hfz11_5 := blk_frozen BK101.out 5; have hfz11_6 := blk_frozen BK101.out 6; have hcz12_0 : w9.cell? ⟨gb102, 0, none⟩ = some (.bool false) := (blk_cell BK102.out 0).trans rfl; have hcz12_1 : w9.cell? ⟨gb102, 1, none⟩ = some (.int .i64 0) := (blk_cell BK102.out 1).trans rfl; have hcz12_2 : w9.cell? ⟨gb102, 2, none⟩ = some (.string (⟨#[]⟩ : ByteArray)) := (blk_cell BK102.out 2).trans rfl; have hcz12_3 : w9.cell? ⟨gb102, 3, none⟩ = some (.string (⟨#[]⟩ : ByteArray)) := (blk_cell BK102.out 3).trans rfl; have hcz12_4 : w9.cell? ⟨gb102, 4, none⟩ = some (.bool false) := (blk_cell BK102.out 4).trans rfl; have hcz12_5 : w9.cell? ⟨gb102, 5, none⟩ = some (.int .u32 0) := (blk_cell BK102.out 5).trans rfl; have hcz12_6 : w9.cell? ⟨gb102, 6, none⟩ = some (.int .i64 0) := (blk_cell BK102.out 6).trans rfl; have hfz12_0 := blk_frozen BK102.out 0; have hfz12_1 := blk_frozen BK102.out 1; have hfz12_2 := blk_frozen BK102.out 2; have hfz12_3 := blk_frozen BK102.out 3; have hfz12_4 := blk_frozen BK102.out 4; have hfz12_5 := blk_frozen BK102.out 5; have hfz12_6 := blk_frozen BK102.out 6))
    refine bodyPost_ret (results_cell_row rfl _ _ gb102 28 #[.bool false, .int .i64 0, .string a0_2, .string a0_3, .bool a0_4, .int .u32 a0_5, .int .i64 a0_6] (0, 0) _ rfl (by (with_reducible repeat (first | refine blk_drewN ?_ _ | refine blk_drew ?_ | refine blk_alloc ?_ _)); refine blk_put (cs := #[.bool false, .int .i64 0, .string a0_2, .string a0_3, .bool a0_4, .int .u32 a0_5, .int .i64 0]) ?_ 6 _ rfl; (with_reducible repeat (first | refine blk_drewN ?_ _ | refine blk_drew ?_ | refine blk_alloc ?_ _)); refine blk_put (cs := #[.bool false, .int .i64 0, .string a0_2, .string a0_3, .bool a0_4, .int .u32 0, .int .i64 0]) ?_ 5 _ rfl; (with_reducible repeat (first | refine blk_drewN ?_ _ | refine blk_drew ?_ | refine blk_alloc ?_ _)); refine blk_put (cs := #[.bool false, .int .i64 0, .string a0_2, .string a0_3, .bool false, .int .u32 0, .int .i64 0]) ?_ 4 _ rfl; (with_reducible repeat (first | refine blk_drewN ?_ _ | refine blk_drew ?_ | refine blk_alloc ?_ _)); refine blk_put (cs := #[.bool false, .int .i64 0, .string a0_2, .string (⟨#[]⟩ : ByteArray), .bool false, .int .u32 0, .int .i64 0]) ?_ 3 _ rfl; (with_reducible repeat (first | refine blk_drewN ?_ _ | refine blk_drew ?_ | refine blk_alloc ?_ _)); refine blk_put (cs := #[.bool false, .int .i64 0, .string (⟨#[]⟩ : ByteArray), .string (⟨#[]⟩ : ByteArray), .bool false, .int .u32 0, .int .i64 0]) ?_ 2 _ rfl; (with_reducible repeat (first | refine blk_drewN ?_ _ | refine blk_drew ?_ | refine blk_alloc ?_ _)); refine blk_put (cs := #[.bool false, .int .i64 0, .string (⟨#[]⟩ : ByteArray), .string (⟨#[]⟩ : ByteArray), .bool false, .int .u32 0, .int .i64 0]) ?_ 1 _ rfl; (with_reducible repeat (first | refine blk_drewN ?_ _ | refine blk_drew ?_ | refine blk_alloc ?_ _)); refine blk_put (cs := #[.bool false, .int .i64 0, .string (⟨#[]⟩ : ByteArray), .string (⟨#[]⟩ : ByteArray), .bool false, .int .u32 0, .int .i64 0]) ?_ 0 _ rfl; (with_reducible repeat (first | refine blk_drewN ?_ _ | refine blk_drew ?_ | refine blk_alloc ?_ _)); refine blk_far ?_ NB102_101.out _; (with_reducible repeat (first | refine blk_drewN ?_ _ | refine blk_drew ?_ | refine blk_alloc ?_ _)); exact BK102.out) Tryd.underlying28 rfl (by kernel_rfl)) rfl ?_
    exact ⟨by first | rfl | (simp [errW_none, errW_some] <;> rfl) | (simp [*, errW_none, errW_some] <;> rfl) | (simp [q_ne_nil]; done), by repeat (first | (with_reducible first | exact HB.out | apply below_alloc | apply pw_below_drewN | apply below_drew1 | refine below_set ?_ GE101.out | refine below_set ?_ GE102.out) | exact HB.out)⟩

/-! ### origin_Same: function 16 -/
def origin_Same.f (a0_0 : Bool) (a0_1 : Int) (a0_2 : ByteArray) (a0_3 : ByteArray) (a0_4 : Bool) (a0_5 : Int) (a0_6 : Int) (a1_0 : Bool) (a1_1 : Int) (a1_2 : ByteArray) (a1_3 : ByteArray) (a1_4 : Bool) (a1_5 : Int) (a1_6 : Int) : Option (Bool) := (origin_bare.f a0_0 a0_1 a0_2 a0_3 a0_4 a0_5 a0_6).bind fun bt105 => ((origin_bare.f a1_0 a1_1 a1_2 a1_3 a1_4 a1_5 a1_6).bind fun bt112 => (some (bt105.1 == bt112.1 && (bt105.2.1 == bt112.2.1 && (bt105.2.2.1.toList == bt112.2.2.1.toList && ((bt105.2.2.2.1.toList == bt112.2.2.2.1.toList && (bt105.2.2.2.2.1 == bt112.2.2.2.2.1 && (bt105.2.2.2.2.2.1 == bt112.2.2.2.2.2.1))) && (bt105.2.2.2.2.2.2 == bt112.2.2.2.2.2.2)))))))
set_option maxHeartbeats 8000000 in
set_option maxRecDepth 100000 in
theorem origin_Same.calls (a0_0 : Bool) (a0_1 : Int) (a0_2 : ByteArray) (a0_3 : ByteArray) (a0_4 : Bool) (a0_5 : Int) (a0_6 : Int) (a1_0 : Bool) (a1_1 : Int) (a1_2 : ByteArray) (a1_3 : ByteArray) (a1_4 : Bool) (a1_5 : Int) (a1_6 : Int) (r : Bool) (w : World) (h : origin_Same.f a0_0 a0_1 a0_2 a0_3 a0_4 a0_5 a0_6 a1_0 a1_1 a1_2 a1_3 a1_4 a1_5 a1_6 = some r) :
    Calls Tryd.prog 16 #[.agg #[.bool a0_0, .int .i64 a0_1, .string a0_2, .string a0_3, .bool a0_4, .int .u32 a0_5, .int .i64 a0_6], .agg #[.bool a1_0, .int .i64 a1_1, .string a1_2, .string a1_3, .bool a1_4, .int .u32 a1_5, .int .i64 a1_6]] w fun e w' => e = .returned (.bool r) ∧ Below w.heap.size w w' := by
  have hu28 := Tryd.underlying28
  have HB := Aside0.mk (Below.refl w.heap.size w)
  have H : ((origin_bare.f a0_0 a0_1 a0_2 a0_3 a0_4 a0_5 a0_6).bind fun bt105 => ((origin_bare.f a1_0 a1_1 a1_2 a1_3 a1_4 a1_5 a1_6).bind fun bt112 => (some (bt105.1 == bt112.1 && (bt105.2.1 == bt112.2.1 && (bt105.2.2.1.toList == bt112.2.2.1.toList && ((bt105.2.2.2.1.toList == bt112.2.2.2.1.toList && (bt105.2.2.2.2.1 == bt112.2.2.2.2.1 && (bt105.2.2.2.2.2.1 == bt112.2.2.2.2.2.1))) && (bt105.2.2.2.2.2.2 == bt112.2.2.2.2.2.2)))))))) = some r := h
  clear h
  replace H := Option.bind_eq_some_iff.mp H
  obtain ⟨⟨t105, t106, t107, t108, t109, t110, t111⟩, A30, H⟩ := H
  replace H : ((origin_bare.f a1_0 a1_1 a1_2 a1_3 a1_4 a1_5 a1_6).bind fun bt112 => (some (t105 == bt112.1 && (t106 == bt112.2.1 && (t107.toList == bt112.2.2.1.toList && ((t108.toList == bt112.2.2.2.1.toList && (t109 == bt112.2.2.2.2.1 && (t110 == bt112.2.2.2.2.2.1))) && (t111 == bt112.2.2.2.2.2.2))))))) = some r := H
  have A3 := Aside0.mk A30
  clear A30
  replace H := Option.bind_eq_some_iff.mp H
  obtain ⟨⟨t112, t113, t114, t115, t116, t117, t118⟩, A40, H⟩ := H
  replace H : (some (t105 == t112 && (t106 == t113 && (t107.toList == t114.toList && ((t108.toList == t115.toList && (t109 == t116 && (t110 == t117))) && (t111 == t118)))))) = some r := H
  have A4 := Aside0.mk A40
  clear A40
  obtain rfl := Option.some.inj H
  go_enter Tryd.func16, Tryd.ntmps16
  try go_wp2_with (first | ((with_reducible refine gate_dst (N := 2) rfl ?_); refine box_event ?hg (N := 2) ?hd (cs := #[.bool a0_0, .int .i64 a0_1, .string a0_2, .string a0_3, .bool a0_4, .int .u32 a0_5, .int .i64 a0_6]) (t := 28) ?hr ?_; (case hd => rfl); (case hg => rfl); (case hr => first | (go_simp; done) | (go_simp; rfl)); intro gb103 hg w5 hbox hb; have n0_ := Aside0.mk (below_step (by repeat (first | (with_reducible first | exact HB.out | apply below_alloc | apply pw_below_drewN | apply below_drew1) | exact HB.out)) hb); have n1_ := Aside0.mk (hbox); have n2_ := Aside0.mk ((by rw [hg]; exact (below_size (by repeat (first | (with_reducible first | exact HB.out | apply below_alloc | apply pw_below_drewN | apply below_drew1) | exact HB.out))) : w.heap.size ≤ gb103)); have n3_ := Aside0.mk ((by rw [hg]; exact (below_size (by repeat (first | (with_reducible first | exact HB.out | apply below_alloc | apply pw_below_drewN | apply below_drew1) | exact HB.out))) : w.heap.size ≤ gb103)); clear HB; have HB := n0_; have BK103 := n1_; have GW103 := n2_; have GE103 := n3_; clear n0_ n1_ n2_ n3_; clear hb hbox hg) | ((with_reducible refine gate_dst (N := 3) rfl ?_); refine box_event ?hg (N := 3) ?hd (cs := #[.bool a1_0, .int .i64 a1_1, .string a1_2, .string a1_3, .bool a1_4, .int .u32 a1_5, .int .i64 a1_6]) (t := 28) ?hr ?_; (case hd => rfl); (case hg => rfl); (case hr => first | (go_simp; done) | (go_simp; rfl)); intro gb104 hg w6 hbox hb; have n0_ := Aside0.mk (blk_below (g := gb103) (o := .cells #[.bool a0_0, .int .i64 a0_1, .string a0_2, .string a0_3, .bool a0_4, .int .u32 a0_5, .int .i64 a0_6] 28 (0, 0)) (by (with_reducible repeat (first | refine blk_drewN ?_ _ | refine blk_drew ?_ | refine blk_alloc ?_ _)); exact BK103.out) hb); have n1_ := Aside0.mk (below_step (by repeat (first | (with_reducible first | exact HB.out | apply below_alloc | apply pw_below_drewN | apply below_drew1 | refine below_set ?_ GE103.out) | exact HB.out)) hb); have n2_ := Aside0.mk (hbox); have n3_ := Aside0.mk ((by rw [hg]; exact (below_size (by repeat (first | (with_reducible first | exact HB.out | apply below_alloc | apply pw_below_drewN | apply below_drew1 | refine below_set ?_ GE103.out) | exact HB.out))) : w.heap.size ≤ gb104)); have n4_ := Aside0.mk ((by rw [hg]; exact (below_size (by repeat (first | (with_reducible first | exact HB.out | apply below_alloc | apply pw_below_drewN | apply below_drew1 | refine below_set ?_ GE103.out) | exact HB.out))) : w.heap.size ≤ gb104)); have n5_ := Aside0.mk ((by rw [hg]; exact Nat.ne_of_lt (blk_lt (g := gb103) (o := .cells #[.bool a0_0, .int .i64 a0_1, .string a0_2, .string a0_3, .bool a0_4, .int .u32 a0_5, .int .i64 a0_6] 28 (0, 0)) (by (with_reducible repeat (first | refine blk_drewN ?_ _ | refine blk_drew ?_ | refine blk_alloc ?_ _)); exact BK103.out)) : gb103 ≠ gb104)); have n6_ := Aside0.mk ((by rw [hg]; exact Nat.ne_of_gt (blk_lt (g := gb103) (o := .cells #[.bool a0_0, .int .i64 a0_1, .string a0_2, .string a0_3, .bool a0_4, .int .u32 a0_5, .int .i64 a0_6] 28 (0, 0)) (by (with_reducible repeat (first | refine blk_drewN ?_ _ | refine blk_drew ?_ | refine blk_alloc ?_ _)); exact BK103.out)) : gb104 ≠ gb103)); clear BK103; clear HB; have BK103 := n0_; have HB := n1_; have BK104 := n2_; have GW104 := n3_; have GE104 := n4_; have NB103_104 := n5_; have NB104_103 := n6_; clear n0_ n1_ n2_ n3_ n4_ n5_ n6_; clear hb hbox hg))
  have n0_ := Aside0.mk (blk_drew BK103.out)
  have n1_ := Aside0.mk (blk_drew BK104.out)
  have n2_ := Aside0.mk (below_drew1 HB.out)
  clear BK103
  clear BK104
  clear HB
  have BK103 := n0_
  have BK104 := n1_
  have HB := n2_
  clear n0_ n1_ n2_
  refine start_ (n := 6) (S := fun w' => w'.cell? ⟨gb103, 0, none⟩ = some (.bool a0_0) ∧ w'.cell? ⟨gb103, 1, none⟩ = some (.int .i64 a0_1) ∧ w'.cell? ⟨gb103, 2, none⟩ = some (.string a0_2) ∧ w'.cell? ⟨gb103, 3, none⟩ = some (.string a0_3) ∧ w'.cell? ⟨gb103, 4, none⟩ = some (.bool a0_4) ∧ w'.cell? ⟨gb103, 5, none⟩ = some (.int .u32 a0_5) ∧ w'.cell? ⟨gb103, 6, none⟩ = some (.int .i64 a0_6) ∧ w'.cell? ⟨gb104, 0, none⟩ = some (.bool a1_0) ∧ w'.cell? ⟨gb104, 1, none⟩ = some (.int .i64 a1_1) ∧ w'.cell? ⟨gb104, 2, none⟩ = some (.string a1_2) ∧ w'.cell? ⟨gb104, 3, none⟩ = some (.string a1_3) ∧ w'.cell? ⟨gb104, 4, none⟩ = some (.bool a1_4) ∧ w'.cell? ⟨gb104, 5, none⟩ = some (.int .u32 a1_5) ∧ w'.cell? ⟨gb104, 6, none⟩ = some (.int .i64 a1_6)) (ds := []) #[false, false, false, false, false, false] (by kernel_rfl) rfl rfl ⟨(blk_cell BK103.out 0).trans rfl, (blk_cell BK103.out 1).trans rfl, (blk_cell BK103.out 2).trans rfl, (blk_cell BK103.out 3).trans rfl, (blk_cell BK103.out 4).trans rfl, (blk_cell BK103.out 5).trans rfl, (blk_cell BK103.out 6).trans rfl, (blk_cell BK104.out 0).trans rfl, (blk_cell BK104.out 1).trans rfl, (blk_cell BK104.out 2).trans rfl, (blk_cell BK104.out 3).trans rfl, (blk_cell BK104.out 4).trans rfl, (blk_cell BK104.out 5).trans rfl, (blk_cell BK104.out 6).trans rfl⟩ (fun hHeld => ?_)
  generalize w6.drew = w7 at BK103 BK104 HB hHeld ⊢
  refine take_ (i := 0) (N := some 5) (v := ?_) (a' := ?_) #[true, false, false, false, false, false] rfl rfl (by kernel_rfl) (fun _ _ _ h => h) (Or.inl ⟨by rfl, ?_⟩) hHeld ?_ ?_
  rotate_left
  · rintro w' ⟨s0, s1, s2, s3, s4, s5, s6, s7, s8, s9, s10, s11, s12, s13⟩
    go_simp
    with_reducible rfl
  rotate_left
  · simp only [Act.put, List.setIfInBounds_toArray, List.set_cons_zero, List.set_cons_succ, i64_w, i32_w]
    rfl
  refine take_ (i := 2) (N := some 7) (v := ?_) (a' := ?_) #[true, false, true, false, false, false] rfl rfl (by kernel_rfl) (fun _ _ _ h => h) (Or.inl ⟨by rfl, ?_⟩) hHeld ?_ ?_
  rotate_left
  · rintro w' ⟨s0, s1, s2, s3, s4, s5, s6, s7, s8, s9, s10, s11, s12, s13⟩
    go_simp
    with_reducible rfl
  rotate_left
  · simp only [Act.put, List.setIfInBounds_toArray, List.set_cons_zero, List.set_cons_succ, i64_w, i32_w]
    rfl
  refine one_ (i := 1) (N := some 6) #[true, true, true, false, false, false] rfl rfl (by kernel_rfl) (by decide) (fun K hK => ?_)
  refine goes_ Tryd.func20 (by kernel_rfl) rfl #[.agg #[.bool a0_0, .int .i64 a0_1, .string a0_2, .string a0_3, .bool a0_4, .int .u32 a0_5, .int .i64 a0_6]] (by rfl) rfl rfl (by (try simp only [List.map_toArray, List.map_cons, List.map_nil]); first | done | rfl | (simp only [List.length_drop, List.length_take]; rfl)) ?_
  with_reducible refine (origin_bare.calls a0_0 a0_1 a0_2 a0_3 a0_4 a0_5 a0_6 t105 t106 t107 t108 t109 t110 t111 _ A3.out).mono ?_
  rintro e w8 ⟨rfl, hb⟩
  refine ⟨_, rfl, ?_⟩
  have n0_ := Aside0.mk (blk_below (g := gb103) (o := .cells #[.bool a0_0, .int .i64 a0_1, .string a0_2, .string a0_3, .bool a0_4, .int .u32 a0_5, .int .i64 a0_6] 28 (0, 0)) (by (with_reducible repeat (first | refine blk_drewN ?_ _ | refine blk_drew ?_ | refine blk_alloc ?_ _)); exact BK103.out) hb)
  have n1_ := Aside0.mk (blk_below (g := gb104) (o := .cells #[.bool a1_0, .int .i64 a1_1, .string a1_2, .string a1_3, .bool a1_4, .int .u32 a1_5, .int .i64 a1_6] 28 (0, 0)) (by (with_reducible repeat (first | refine blk_drewN ?_ _ | refine blk_drew ?_ | refine blk_alloc ?_ _)); exact BK104.out) hb)
  have n2_ := Aside0.mk (below_step (by repeat (first | (with_reducible first | exact HB.out | apply below_alloc | apply pw_below_drewN | apply below_drew1 | refine below_set ?_ GE103.out | refine below_set ?_ GE104.out) | exact HB.out)) hb)
  clear BK103
  clear BK104
  clear HB
  have BK103 := n0_
  have BK104 := n1_
  have HB := n2_
  clear n0_ n1_ n2_
  (try clear hb)
  (try clear hb2)
  (try clear hk)
  (try clear hi)
  refine hK.out _ _ ⟨(blk_cell BK103.out 0).trans rfl, (blk_cell BK103.out 1).trans rfl, (blk_cell BK103.out 2).trans rfl, (blk_cell BK103.out 3).trans rfl, (blk_cell BK103.out 4).trans rfl, (blk_cell BK103.out 5).trans rfl, (blk_cell BK103.out 6).trans rfl, (blk_cell BK104.out 0).trans rfl, (blk_cell BK104.out 1).trans rfl, (blk_cell BK104.out 2).trans rfl, (blk_cell BK104.out 3).trans rfl, (blk_cell BK104.out 4).trans rfl, (blk_cell BK104.out 5).trans rfl, (blk_cell BK104.out 6).trans rfl⟩ (fun hHeld => ?_)
  clear hK K
  refine norm_ (a' := ?_) ?_ ?_
  rotate_left
  · show Act.put _ (some 6) _ = _
    simp only [Act.put, List.setIfInBounds_toArray, List.set_cons_zero, List.set_cons_succ, i64_w, i32_w]
    rfl
  refine one_ (i := 3) (N := some 8) #[true, true, true, true, false, false] rfl rfl (by kernel_rfl) (by decide) (fun K hK => ?_)
  refine goes_ Tryd.func20 (by kernel_rfl) rfl #[.agg #[.bool a1_0, .int .i64 a1_1, .string a1_2, .string a1_3, .bool a1_4, .int .u32 a1_5, .int .i64 a1_6]] (by rfl) rfl rfl (by (try simp only [List.map_toArray, List.map_cons, List.map_nil]); first | done | rfl | (simp only [List.length_drop, List.length_take]; rfl)) ?_
  with_reducible refine (origin_bare.calls a1_0 a1_1 a1_2 a1_3 a1_4 a1_5 a1_6 t112 t113 t114 t115 t116 t117 t118 _ A4.out).mono ?_
  rintro e w9 ⟨rfl, hb⟩
  refine ⟨_, rfl, ?_⟩
  have n0_ := Aside0.mk (blk_below (g := gb103) (o := .cells #[.bool a0_0, .int .i64 a0_1, .string a0_2, .string a0_3, .bool a0_4, .int .u32 a0_5, .int .i64 a0_6] 28 (0, 0)) (by (with_reducible repeat (first | refine blk_drewN ?_ _ | refine blk_drew ?_ | refine blk_alloc ?_ _)); exact BK103.out) hb)
  have n1_ := Aside0.mk (blk_below (g := gb104) (o := .cells #[.bool a1_0, .int .i64 a1_1, .string a1_2, .string a1_3, .bool a1_4, .int .u32 a1_5, .int .i64 a1_6] 28 (0, 0)) (by (with_reducible repeat (first | refine blk_drewN ?_ _ | refine blk_drew ?_ | refine blk_alloc ?_ _)); exact BK104.out) hb)
  have n2_ := Aside0.mk (below_step (by repeat (first | (with_reducible first | exact HB.out | apply below_alloc | apply pw_below_drewN | apply below_drew1 | refine below_set ?_ GE103.out | refine below_set ?_ GE104.out) | exact HB.out)) hb)
  clear BK103
  clear BK104
  clear HB
  have BK103 := n0_
  have BK104 := n1_
  have HB := n2_
  clear n0_ n1_ n2_
  (try clear hb)
  (try clear hb2)
  (try clear hk)
  (try clear hi)
  refine hK.out _ _ ⟨(blk_cell BK103.out 0).trans rfl, (blk_cell BK103.out 1).trans rfl, (blk_cell BK103.out 2).trans rfl, (blk_cell BK103.out 3).trans rfl, (blk_cell BK103.out 4).trans rfl, (blk_cell BK103.out 5).trans rfl, (blk_cell BK103.out 6).trans rfl, (blk_cell BK104.out 0).trans rfl, (blk_cell BK104.out 1).trans rfl, (blk_cell BK104.out 2).trans rfl, (blk_cell BK104.out 3).trans rfl, (blk_cell BK104.out 4).trans rfl, (blk_cell BK104.out 5).trans rfl, (blk_cell BK104.out 6).trans rfl⟩ (fun hHeld => ?_)
  clear hK K
  refine norm_ (a' := ?_) ?_ ?_
  rotate_left
  · show Act.put _ (some 8) _ = _
    simp only [Act.put, List.setIfInBounds_toArray, List.set_cons_zero, List.set_cons_succ, i64_w, i32_w]
    rfl
  refine pure_ (i := 4) (N := some 9) (v := ?_) (a' := ?_) #[true, true, true, true, true, false] rfl rfl (by kernel_rfl) (fun _ _ _ h => h) (Or.inl ⟨by rfl, ?_⟩) ?_ ?_
  rotate_left
  · intro w'
    go_simp
    with_reducible rfl
  rotate_left
  · simp only [Act.put, List.setIfInBounds_toArray, List.set_cons_zero, List.set_cons_succ, i64_w, i32_w]
    rfl
  refine pure_ (i := 5) (N := some 4) (v := ?_) (a' := ?_) #[true, true, true, true, true, true] rfl rfl (by kernel_rfl) (fun _ _ _ h => h) (Or.inl ⟨by rfl, ?_⟩) ?_ ?_
  rotate_left
  · intro w'
    go_simp
    with_reducible rfl
  rotate_left
  · simp only [Act.put, List.setIfInBounds_toArray, List.set_cons_zero, List.set_cons_succ, i64_w, i32_w]
    rfl
  refine done_ (by kernel_rfl) ?_
  try go_wp2
  go_ret
  exact ⟨by first | rfl | (simp [errW_none, errW_some] <;> rfl) | (simp [*, errW_none, errW_some] <;> rfl) | (simp [q_ne_nil]; done), by repeat (first | (with_reducible first | exact HB.out | apply below_alloc | apply pw_below_drewN | apply below_drew1 | refine below_set ?_ GE103.out | refine below_set ?_ GE104.out) | exact HB.out)⟩

/-! ### swap_Match: function 12 -/
def swap_Match.f (a0 : Int) (a1_0 : Bool) (a1_1 : Int) (a1_2 : ByteArray) (a1_3 : ByteArray) (a1_4 : Bool) (a1_5 : Int) (a1_6 : Int) (a2 : Int) (a3_0 : Bool) (a3_1 : Int) (a3_2 : ByteArray) (a3_3 : ByteArray) (a3_4 : Bool) (a3_5 : Int) (a3_6 : Int) : Option (Bool) := if a0 = a2 then (if a0 = 0 then (some true) else ((origin_Same.f a1_0 a1_1 a1_2 a1_3 a1_4 a1_5 a1_6 a3_0 a3_1 a3_2 a3_3 a3_4 a3_5 a3_6).bind fun t121 => (some t121))) else (some false)
set_option maxHeartbeats 8000000 in
set_option maxRecDepth 100000 in
theorem swap_Match.calls (a0 : Int) (a1_0 : Bool) (a1_1 : Int) (a1_2 : ByteArray) (a1_3 : ByteArray) (a1_4 : Bool) (a1_5 : Int) (a1_6 : Int) (a2 : Int) (a3_0 : Bool) (a3_1 : Int) (a3_2 : ByteArray) (a3_3 : ByteArray) (a3_4 : Bool) (a3_5 : Int) (a3_6 : Int) (r : Bool) (w : World) (h : swap_Match.f a0 a1_0 a1_1 a1_2 a1_3 a1_4 a1_5 a1_6 a2 a3_0 a3_1 a3_2 a3_3 a3_4 a3_5 a3_6 = some r) :
    Calls Tryd.prog 12 #[.int .i64 a0, .agg #[.bool a1_0, .int .i64 a1_1, .string a1_2, .string a1_3, .bool a1_4, .int .u32 a1_5, .int .i64 a1_6], .int .i64 a2, .agg #[.bool a3_0, .int .i64 a3_1, .string a3_2, .string a3_3, .bool a3_4, .int .u32 a3_5, .int .i64 a3_6]] w fun e w' => e = .returned (.bool r) ∧ Below w.heap.size w w' := by
  have hu28 := Tryd.underlying28
  have HB := Aside0.mk (Below.refl w.heap.size w)
  have H : (if a0 = a2 then (if a0 = 0 then (some true) else ((origin_Same.f a1_0 a1_1 a1_2 a1_3 a1_4 a1_5 a1_6 a3_0 a3_1 a3_2 a3_3 a3_4 a3_5 a3_6).bind fun t121 => (some t121))) else (some false)) = some r := h
  clear h
  by_cases c5 : a0 = a2
  · rw [if_pos c5] at H
    have c5b0 : (a0 == a2) = true := beq_iff_eq.mpr c5
    have c5b1 : (a0 != a2) = false := bne_eq_false_iff_eq.mpr c5
    clear c5
    by_cases c6 : a0 = 0
    · rw [if_pos c6] at H
      have c6b0 : (a0 == 0) = true := beq_iff_eq.mpr c6
      have c6b1 : (a0 != 0) = false := bne_eq_false_iff_eq.mpr c6
      clear c6
      obtain rfl := Option.some.inj H
      go_enter Tryd.func12, Tryd.ntmps12
      go_wp2_with (first | ((with_reducible refine gate_dst (N := 5) rfl ?_); refine box_event ?hg (N := 5) ?hd (cs := #[.bool a1_0, .int .i64 a1_1, .string a1_2, .string a1_3, .bool a1_4, .int .u32 a1_5, .int .i64 a1_6]) (t := 28) ?hr ?_; (case hd => rfl); (case hg => rfl); (case hr => first | (go_simp; done) | (go_simp; rfl)); intro gb119 hg w7 hbox hb; have n0_ := Aside0.mk (below_step (by repeat (first | (with_reducible first | exact HB.out | apply below_alloc | apply pw_below_drewN | apply below_drew1) | exact HB.out)) hb); have n1_ := Aside0.mk (hbox); have n2_ := Aside0.mk ((by rw [hg]; exact (below_size (by repeat (first | (with_reducible first | exact HB.out | apply below_alloc | apply pw_below_drewN | apply below_drew1) | exact HB.out))) : w.heap.size ≤ gb119)); have n3_ := Aside0.mk ((by rw [hg]; exact (below_size (by repeat (first | (with_reducible first | exact HB.out | apply below_alloc | apply pw_below_drewN | apply below_drew1) | exact HB.out))) : w.heap.size ≤ gb119)); clear HB; have HB := n0_; have BK119 := n1_; have GW119 := n2_; have GE119 := n3_; clear n0_ n1_ n2_ n3_; clear hb hbox hg) | ((with_reducible refine gate_dst (N := 7) rfl ?_); refine box_event ?hg (N := 7) ?hd (cs := #[.bool a3_0, .int .i64 a3_1, .string a3_2, .string a3_3, .bool a3_4, .int .u32 a3_5, .int .i64 a3_6]) (t := 28) ?hr ?_; (case hd => rfl); (case hg => rfl); (case hr => first | (go_simp; done) | (go_simp; rfl)); intro gb120 hg w8 hbox hb; have n0_ := Aside0.mk (blk_below (g := gb119) (o := .cells #[.bool a1_0, .int .i64 a1_1, .string a1_2, .string a1_3, .bool a1_4, .int .u32 a1_5, .int .i64 a1_6] 28 (0, 0)) (by (with_reducible repeat (first | refine blk_drewN ?_ _ | refine blk_drew ?_ | refine blk_alloc ?_ _)); exact BK119.out) hb); have n1_ := Aside0.mk (below_step (by repeat (first | (with_reducible first | exact HB.out | apply below_alloc | apply pw_below_drewN | apply below_drew1 | refine below_set ?_ GE119.out) | exact HB.out)) hb); have n2_ := Aside0.mk (hbox); have n3_ := Aside0.mk ((by rw [hg]; exact (below_size (by repeat (first | (with_reducible first | exact HB.out | apply below_alloc | apply pw_below_drewN | apply below_drew1 | refine below_set ?_ GE119.out) | exact HB.out))) : w.heap.size ≤ gb120)); have n4_ := Aside0.mk ((by rw [hg]; exact (below_size (by repeat (first | (with_reducible first | exact HB.out | apply below_alloc | apply pw_below_drewN | apply below_drew1 | refine below_set ?_ GE119.out) | exact HB.out))) : w.heap.size ≤ gb120)); have n5_ := Aside0.mk ((by rw [hg]; exact Nat.ne_of_lt (blk_lt (g := gb119) (o := .cells #[.bool a1_0, .int .i64 a1_1, .string a1_2, .string a1_3, .bool a1_4, .int .u32 a1_5, .int .i64 a1_6] 28 (0, 0)) (by (with_reducible repeat (first | refine blk_drewN ?_ _ | refine blk_drew ?_ | refine blk_alloc ?_ _)); exact BK119.out)) : gb119 ≠ gb120)); have n6_ := Aside0.mk ((by rw [hg]; exact Nat.ne_of_gt (blk_lt (g := gb119) (o := .cells #[.bool a1_0, .int .i64 a1_1, .string a1_2, .string a1_3, .bool a1_4, .int .u32 a1_5, .int .i64 a1_6] 28 (0, 0)) (by (with_reducible repeat (first | refine blk_drewN ?_ _ | refine blk_drew ?_ | refine blk_alloc ?_ _)); exact BK119.out)) : gb120 ≠ gb119)); clear BK119; clear HB; have BK119 := n0_; have HB := n1_; have BK120 := n2_; have GW120 := n3_; have GE120 := n4_; have NB119_120 := n5_; have NB120_119 := n6_; clear n0_ n1_ n2_ n3_ n4_ n5_ n6_; clear hb hbox hg))
      go_ret
      exact ⟨by first | rfl | (simp [errW_none, errW_some] <;> rfl) | (simp [*, errW_none, errW_some] <;> rfl) | (simp [q_ne_nil]; done), by repeat (first | (with_reducible first | exact HB.out | apply below_alloc | apply pw_below_drewN | apply below_drew1 | refine below_set ?_ GE119.out | refine below_set ?_ GE120.out) | exact HB.out)⟩
    · rw [if_neg c6] at H
      have c6b0 : (a0 == 0) = false := beq_eq_false_iff_ne.mpr c6
      have c6b1 : (a0 != 0) = true := bne_iff_ne.mpr c6
      replace H := Option.bind_eq_some_iff.mp H
      obtain ⟨t121, A90, H⟩ := H
      replace H : (some t121) = some r := H
      have A9 := Aside0.mk A90
      clear A90
      obtain rfl := Option.some.inj H
      go_enter Tryd.func12, Tryd.ntmps12
      go_wp2_with (first | ((with_reducible refine gate_dst (N := 5) rfl ?_); refine box_event ?hg (N := 5) ?hd (cs := #[.bool a1_0, .int .i64 a1_1, .string a1_2, .string a1_3, .bool a1_4, .int .u32 a1_5, .int .i64 a1_6]) (t := 28) ?hr ?_; (case hd => rfl); (case hg => rfl); (case hr => first | (go_simp; done) | (go_simp; rfl)); intro gb119 hg w10 hbox hb; have n0_ := Aside0.mk (below_step (by repeat (first | (with_reducible first | exact HB.out | apply below_alloc | apply pw_below_drewN | apply below_drew1) | exact HB.out)) hb); have n1_ := Aside0.mk (hbox); have n2_ := Aside0.mk ((by rw [hg]; exact (below_size (by repeat (first | (with_reducible first | exact HB.out | apply below_alloc | apply pw_below_drewN | apply below_drew1) | exact HB.out))) : w.heap.size ≤ gb119)); have n3_ := Aside0.mk ((by rw [hg]; exact (below_size (by repeat (first | (with_reducible first | exact HB.out | apply below_alloc | apply pw_below_drewN | apply below_drew1) | exact HB.out))) : w.heap.size ≤ gb119)); clear HB; have HB := n0_; have BK119 := n1_; have GW119 := n2_; have GE119 := n3_; clear n0_ n1_ n2_ n3_; clear hb hbox hg) | ((with_reducible refine gate_dst (N := 7) rfl ?_); refine box_event ?hg (N := 7) ?hd (cs := #[.bool a3_0, .int .i64 a3_1, .string a3_2, .string a3_3, .bool a3_4, .int .u32 a3_5, .int .i64 a3_6]) (t := 28) ?hr ?_; (case hd => rfl); (case hg => rfl); (case hr => first | (go_simp; done) | (go_simp; rfl)); intro gb120 hg w11 hbox hb; have n0_ := Aside0.mk (blk_below (g := gb119) (o := .cells #[.bool a1_0, .int .i64 a1_1, .string a1_2, .string a1_3, .bool a1_4, .int .u32 a1_5, .int .i64 a1_6] 28 (0, 0)) (by (with_reducible repeat (first | refine blk_drewN ?_ _ | refine blk_drew ?_ | refine blk_alloc ?_ _)); exact BK119.out) hb); have n1_ := Aside0.mk (below_step (by repeat (first | (with_reducible first | exact HB.out | apply below_alloc | apply pw_below_drewN | apply below_drew1 | refine below_set ?_ GE119.out) | exact HB.out)) hb); have n2_ := Aside0.mk (hbox); have n3_ := Aside0.mk ((by rw [hg]; exact (below_size (by repeat (first | (with_reducible first | exact HB.out | apply below_alloc | apply pw_below_drewN | apply below_drew1 | refine below_set ?_ GE119.out) | exact HB.out))) : w.heap.size ≤ gb120)); have n4_ := Aside0.mk ((by rw [hg]; exact (below_size (by repeat (first | (with_reducible first | exact HB.out | apply below_alloc | apply pw_below_drewN | apply below_drew1 | refine below_set ?_ GE119.out) | exact HB.out))) : w.heap.size ≤ gb120)); have n5_ := Aside0.mk ((by rw [hg]; exact Nat.ne_of_lt (blk_lt (g := gb119) (o := .cells #[.bool a1_0, .int .i64 a1_1, .string a1_2, .string a1_3, .bool a1_4, .int .u32 a1_5, .int .i64 a1_6] 28 (0, 0)) (by (with_reducible repeat (first | refine blk_drewN ?_ _ | refine blk_drew ?_ | refine blk_alloc ?_ _)); exact BK119.out)) : gb119 ≠ gb120)); have n6_ := Aside0.mk ((by rw [hg]; exact Nat.ne_of_gt (blk_lt (g := gb119) (o := .cells #[.bool a1_0, .int .i64 a1_1, .string a1_2, .string a1_3, .bool a1_4, .int .u32 a1_5, .int .i64 a1_6] 28 (0, 0)) (by (with_reducible repeat (first | refine blk_drewN ?_ _ | refine blk_drew ?_ | refine blk_alloc ?_ _)); exact BK119.out)) : gb120 ≠ gb119)); clear BK119; clear HB; have BK119 := n0_; have HB := n1_; have BK120 := n2_; have GW120 := n3_; have GE120 := n4_; have NB119_120 := n5_; have NB120_119 := n6_; clear n0_ n1_ n2_ n3_ n4_ n5_ n6_; clear hb hbox hg; have hnb12 := NB119_120.out; have hnc12 := NB120_119.out; have hcz13_0 : w11.cell? ⟨gb119, 0, none⟩ = some (.bool a1_0) := (blk_cell BK119.out 0).trans rfl; have hcz13_1 : w11.cell? ⟨gb119, 1, none⟩ = some (.int .i64 a1_1) := (blk_cell BK119.out 1).trans rfl; have hcz13_2 : w11.cell? ⟨gb119, 2, none⟩ = some (.string a1_2) := (blk_cell BK119.out 2).trans rfl; have hcz13_3 : w11.cell? ⟨gb119, 3, none⟩ = some (.string a1_3) := (blk_cell BK119.out 3).trans rfl; have hcz13_4 : w11.cell? ⟨gb119, 4, none⟩ = some (.bool a1_4) := (blk_cell BK119.out 4).trans rfl; have hcz13_5 : w11.cell? ⟨gb119, 5, none⟩ = some (.int .u32 a1_5) := (blk_cell BK119.out 5).trans rfl; have hcz13_6 : w11.cell? ⟨gb119, 6, none⟩ = some (.int .i64 a1_6) := (blk_cell BK119.out 6).trans rfl; have hfz13_0 := blk_frozen BK119.out 0; have hfz13_1 := blk_frozen BK119.out 1; have hfz13_2 := blk_frozen BK119.out 2; have hfz13_3 := blk_frozen BK119.out 3; have hfz13_4 := blk_frozen BK119.out 4; have hfz13_5 := blk_frozen BK119.out 5; have hfz13_6 := blk_frozen BK119.out 6; have hcz14_0 : w11.cell? ⟨gb120, 0, none⟩ = some (.bool a3_0) := (blk_cell BK120.out 0).trans rfl; have hcz14_1 : w11.cell? ⟨gb120, 1, none⟩ = some (.int .i64 a3_1) := (blk_cell BK120.out 1).trans rfl; have hcz14_2 : w11.cell? ⟨gb120, 2, none⟩ = some (.string a3_2) := (blk_cell BK120.out 2).trans rfl; have hcz14_3 : w11.cell? ⟨gb120, 3, none⟩ = some (.string a3_3) := (blk_cell BK120.out 3).trans rfl; have hcz14_4 : w11.cell? ⟨gb120, 4, none⟩ = some (.bool a3_4) := (blk_cell BK120.out 4).trans rfl; have hcz14_5 : w11.cell? ⟨gb120, 5, none⟩ = some (.int .u32 a3_5) := (blk_cell BK120.out 5).trans rfl; have hcz14_6 : w11.cell? ⟨gb120, 6, none⟩ = some (.int .i64 a3_6) := (blk_cell BK120.out 6).trans rfl; have hfz14_0 := blk_frozen BK120.out 0; have hfz14_1 := blk_frozen BK120.out 1; have hfz14_2 := blk_frozen BK120.out 2; have hfz14_3 := blk_frozen BK120.out 3; have hfz14_4 := blk_frozen BK120.out 4; have hfz14_5 := blk_frozen BK120.out 5; have hfz14_6 := blk_frozen BK120.out 6) | (go_at_call 16; (with_reducible refine (origin_Same.calls a1_0 a1_1 a1_2 a1_3 a1_4 a1_5 a1_6 a3_0 a3_1 a3_2 a3_3 a3_4 a3_5 a3_6 t121 _ A9.out).mono ?_); rintro e w15 ⟨rfl, hb⟩; have n0_ := Aside0.mk (blk_below (g := gb119) (o := .cells #[.bool a1_0, .int .i64 a1_1, .string a1_2, .string a1_3, .bool a1_4, .int .u32 a1_5, .int .i64 a1_6] 28 (0, 0)) (by (with_reducible repeat (first | refine blk_drewN ?_ _ | refine blk_drew ?_ | refine blk_alloc ?_ _)); exact BK119.out) hb); have n1_ := Aside0.mk (blk_below (g := gb120) (o := .cells #[.bool a3_0, .int .i64 a3_1, .string a3_2, .string a3_3, .bool a3_4, .int .u32 a3_5, .int .i64 a3_6] 28 (0, 0)) (by (with_reducible repeat (first | refine blk_drewN ?_ _ | refine blk_drew ?_ | refine blk_alloc ?_ _)); exact BK120.out) hb); have n2_ := Aside0.mk (below_step (by repeat (first | (with_reducible first | exact HB.out | apply below_alloc | apply pw_below_drewN | apply below_drew1 | refine below_set ?_ GE119.out | refine below_set ?_ GE120.out) | exact HB.out)) hb); clear BK119; clear BK120; clear HB; have BK119 := n0_; have BK120 := n1_; have HB := n2_; clear n0_ n1_ n2_; (try clear hb); (try clear hb2); (try clear hk); (try clear hi)))
      go_ret
      exact ⟨by first | rfl | (simp [errW_none, errW_some] <;> rfl) | (simp [*, errW_none, errW_some] <;> rfl) | (simp [q_ne_nil]; done), by repeat (first | (with_reducible first | exact HB.out | apply below_alloc | apply pw_below_drewN | apply below_drew1 | refine below_set ?_ GE119.out | refine below_set ?_ GE120.out) | exact HB.out)⟩
  · rw [if_neg c5] at H
    have c5b0 : (a0 == a2) = false := beq_eq_false_iff_ne.mpr c5
    have c5b1 : (a0 != a2) = true := bne_iff_ne.mpr c5
    obtain rfl := Option.some.inj H
    go_enter Tryd.func12, Tryd.ntmps12
    go_wp2_with (first | ((with_reducible refine gate_dst (N := 5) rfl ?_); refine box_event ?hg (N := 5) ?hd (cs := #[.bool a1_0, .int .i64 a1_1, .string a1_2, .string a1_3, .bool a1_4, .int .u32 a1_5, .int .i64 a1_6]) (t := 28) ?hr ?_; (case hd => rfl); (case hg => rfl); (case hr => first | (go_simp; done) | (go_simp; rfl)); intro gb119 hg w16 hbox hb; have n0_ := Aside0.mk (below_step (by repeat (first | (with_reducible first | exact HB.out | apply below_alloc | apply pw_below_drewN | apply below_drew1) | exact HB.out)) hb); have n1_ := Aside0.mk (hbox); have n2_ := Aside0.mk ((by rw [hg]; exact (below_size (by repeat (first | (with_reducible first | exact HB.out | apply below_alloc | apply pw_below_drewN | apply below_drew1) | exact HB.out))) : w.heap.size ≤ gb119)); have n3_ := Aside0.mk ((by rw [hg]; exact (below_size (by repeat (first | (with_reducible first | exact HB.out | apply below_alloc | apply pw_below_drewN | apply below_drew1) | exact HB.out))) : w.heap.size ≤ gb119)); clear HB; have HB := n0_; have BK119 := n1_; have GW119 := n2_; have GE119 := n3_; clear n0_ n1_ n2_ n3_; clear hb hbox hg) | ((with_reducible refine gate_dst (N := 7) rfl ?_); refine box_event ?hg (N := 7) ?hd (cs := #[.bool a3_0, .int .i64 a3_1, .string a3_2, .string a3_3, .bool a3_4, .int .u32 a3_5, .int .i64 a3_6]) (t := 28) ?hr ?_; (case hd => rfl); (case hg => rfl); (case hr => first | (go_simp; done) | (go_simp; rfl)); intro gb120 hg w17 hbox hb; have n0_ := Aside0.mk (blk_below (g := gb119) (o := .cells #[.bool a1_0, .int .i64 a1_1, .string a1_2, .string a1_3, .bool a1_4, .int .u32 a1_5, .int .i64 a1_6] 28 (0, 0)) (by (with_reducible repeat (first | refine blk_drewN ?_ _ | refine blk_drew ?_ | refine blk_alloc ?_ _)); exact BK119.out) hb); have n1_ := Aside0.mk (below_step (by repeat (first | (with_reducible first | exact HB.out | apply below_alloc | apply pw_below_drewN | apply below_drew1 | refine below_set ?_ GE119.out) | exact HB.out)) hb); have n2_ := Aside0.mk (hbox); have n3_ := Aside0.mk ((by rw [hg]; exact (below_size (by repeat (first | (with_reducible first | exact HB.out | apply below_alloc | apply pw_below_drewN | apply below_drew1 | refine below_set ?_ GE119.out) | exact HB.out))) : w.heap.size ≤ gb120)); have n4_ := Aside0.mk ((by rw [hg]; exact (below_size (by repeat (first | (with_reducible first | exact HB.out | apply below_alloc | apply pw_below_drewN | apply below_drew1 | refine below_set ?_ GE119.out) | exact HB.out))) : w.heap.size ≤ gb120)); have n5_ := Aside0.mk ((by rw [hg]; exact Nat.ne_of_lt (blk_lt (g := gb119) (o := .cells #[.bool a1_0, .int .i64 a1_1, .string a1_2, .string a1_3, .bool a1_4, .int .u32 a1_5, .int .i64 a1_6] 28 (0, 0)) (by (with_reducible repeat (first | refine blk_drewN ?_ _ | refine blk_drew ?_ | refine blk_alloc ?_ _)); exact BK119.out)) : gb119 ≠ gb120)); have n6_ := Aside0.mk ((by rw [hg]; exact Nat.ne_of_gt (blk_lt (g := gb119) (o := .cells #[.bool a1_0, .int .i64 a1_1, .string a1_2, .string a1_3, .bool a1_4, .int .u32 a1_5, .int .i64 a1_6] 28 (0, 0)) (by (with_reducible repeat (first | refine blk_drewN ?_ _ | refine blk_drew ?_ | refine blk_alloc ?_ _)); exact BK119.out)) : gb120 ≠ gb119)); clear BK119; clear HB; have BK119 := n0_; have HB := n1_; have BK120 := n2_; have GW120 := n3_; have GE120 := n4_; have NB119_120 := n5_; have NB120_119 := n6_; clear n0_ n1_ n2_ n3_ n4_ n5_ n6_; clear hb hbox hg))
    go_ret
    exact ⟨by first | rfl | (simp [errW_none, errW_some] <;> rfl) | (simp [*, errW_none, errW_some] <;> rfl) | (simp [q_ne_nil]; done), by repeat (first | (with_reducible first | exact HB.out | apply below_alloc | apply pw_below_drewN | apply below_drew1 | refine below_set ?_ GE119.out | refine below_set ?_ GE120.out) | exact HB.out)⟩

/-! ### swap_Swap: function 14 -/
def swap_Swap.f (a0 : Bool) (a1 : Int) (a2_0 : Bool) (a2_1 : Int) (a2_2 : ByteArray) (a2_3 : ByteArray) (a2_4 : Bool) (a2_5 : Int) (a2_6 : Int) (a3 : Int) (a4_0 : Bool) (a4_1 : Int) (a4_2 : ByteArray) (a4_3 : ByteArray) (a4_4 : Bool) (a4_5 : Int) (a4_6 : Int) : Option (Bool) := if a0 = true then (if a1 = 1 then (if a3 = 0 then (some false) else ((swap_Match.f a1 a2_0 a2_1 a2_2 a2_3 a2_4 a2_5 a2_6 a3 a4_0 a4_1 a4_2 a4_3 a4_4 a4_5 a4_6).bind fun t124 => (some (!t124)))) else ((swap_Match.f a1 a2_0 a2_1 a2_2 a2_3 a2_4 a2_5 a2_6 a3 a4_0 a4_1 a4_2 a4_3 a4_4 a4_5 a4_6).bind fun t125 => (some (!t125)))) else ((swap_Match.f a1 a2_0 a2_1 a2_2 a2_3 a2_4 a2_5 a2_6 a3 a4_0 a4_1 a4_2 a4_3 a4_4 a4_5 a4_6).bind fun t126 => (some (!t126)))
set_option maxHeartbeats 8000000 in
set_option maxRecDepth 100000 in
theorem swap_Swap.calls (a0 : Bool) (a1 : Int) (a2_0 : Bool) (a2_1 : Int) (a2_2 : ByteArray) (a2_3 : ByteArray) (a2_4 : Bool) (a2_5 : Int) (a2_6 : Int) (a3 : Int) (a4_0 : Bool) (a4_1 : Int) (a4_2 : ByteArray) (a4_3 : ByteArray) (a4_4 : Bool) (a4_5 : Int) (a4_6 : Int) (r : Bool) (w : World) (h : swap_Swap.f a0 a1 a2_0 a2_1 a2_2 a2_3 a2_4 a2_5 a2_6 a3 a4_0 a4_1 a4_2 a4_3 a4_4 a4_5 a4_6 = some r) :
    Calls Tryd.prog 14 #[.bool a0, .int .i64 a1, .agg #[.bool a2_0, .int .i64 a2_1, .string a2_2, .string a2_3, .bool a2_4, .int .u32 a2_5, .int .i64 a2_6], .int .i64 a3, .agg #[.bool a4_0, .int .i64 a4_1, .string a4_2, .string a4_3, .bool a4_4, .int .u32 a4_5, .int .i64 a4_6]] w fun e w' => e = .returned (.bool r) ∧ Below w.heap.size w w' := by
  have hu28 := Tryd.underlying28
  have HB := Aside0.mk (Below.refl w.heap.size w)
  have H : (if a0 = true then (if a1 = 1 then (if a3 = 0 then (some false) else ((swap_Match.f a1 a2_0 a2_1 a2_2 a2_3 a2_4 a2_5 a2_6 a3 a4_0 a4_1 a4_2 a4_3 a4_4 a4_5 a4_6).bind fun t124 => (some (!t124)))) else ((swap_Match.f a1 a2_0 a2_1 a2_2 a2_3 a2_4 a2_5 a2_6 a3 a4_0 a4_1 a4_2 a4_3 a4_4 a4_5 a4_6).bind fun t125 => (some (!t125)))) else ((swap_Match.f a1 a2_0 a2_1 a2_2 a2_3 a2_4 a2_5 a2_6 a3 a4_0 a4_1 a4_2 a4_3 a4_4 a4_5 a4_6).bind fun t126 => (some (!t126)))) = some r := h
  clear h
  by_cases c6 : a0 = true
  · subst c6
    have H1 : (if a1 = 1 then (if a3 = 0 then (some false) else ((swap_Match.f a1 a2_0 a2_1 a2_2 a2_3 a2_4 a2_5 a2_6 a3 a4_0 a4_1 a4_2 a4_3 a4_4 a4_5 a4_6).bind fun t124 => (some (!t124)))) else ((swap_Match.f a1 a2_0 a2_1 a2_2 a2_3 a2_4 a2_5 a2_6 a3 a4_0 a4_1 a4_2 a4_3 a4_4 a4_5 a4_6).bind fun t125 => (some (!t125)))) = some r := by rw [if_pos rfl] at H; exact H
    clear H
    have H := H1
    clear H1
    by_cases c7 : a1 = 1
    · rw [if_pos c7] at H
      have c7b0 : (a1 == 1) = true := beq_iff_eq.mpr c7
      have c7b1 : (a1 != 1) = false := bne_eq_false_iff_eq.mpr c7
      clear c7
      by_cases c8 : a3 = 0
      · rw [if_pos c8] at H
        have c8b0 : (a3 == 0) = true := beq_iff_eq.mpr c8
        have c8b1 : (a3 != 0) = false := bne_eq_false_iff_eq.mpr c8
        clear c8
        obtain rfl := Option.some.inj H
        go_enter Tryd.func14, Tryd.ntmps14
        go_wp2_with (first | ((with_reducible refine gate_dst (N := 7) rfl ?_); refine box_event ?hg (N := 7) ?hd (cs := #[.bool a2_0, .int .i64 a2_1, .string a2_2, .string a2_3, .bool a2_4, .int .u32 a2_5, .int .i64 a2_6]) (t := 28) ?hr ?_; (case hd => rfl); (case hg => rfl); (case hr => first | (go_simp; done) | (go_simp; rfl)); intro gb122 hg w9 hbox hb; have n0_ := Aside0.mk (below_step (by repeat (first | (with_reducible first | exact HB.out | apply below_alloc | apply pw_below_drewN | apply below_drew1) | exact HB.out)) hb); have n1_ := Aside0.mk (hbox); have n2_ := Aside0.mk ((by rw [hg]; exact (below_size (by repeat (first | (with_reducible first | exact HB.out | apply below_alloc | apply pw_below_drewN | apply below_drew1) | exact HB.out))) : w.heap.size ≤ gb122)); have n3_ := Aside0.mk ((by rw [hg]; exact (below_size (by repeat (first | (with_reducible first | exact HB.out | apply below_alloc | apply pw_below_drewN | apply below_drew1) | exact HB.out))) : w.heap.size ≤ gb122)); clear HB; have HB := n0_; have BK122 := n1_; have GW122 := n2_; have GE122 := n3_; clear n0_ n1_ n2_ n3_; clear hb hbox hg) | ((with_reducible refine gate_dst (N := 9) rfl ?_); refine box_event ?hg (N := 9) ?hd (cs := #[.bool a4_0, .int .i64 a4_1, .string a4_2, .string a4_3, .bool a4_4, .int .u32 a4_5, .int .i64 a4_6]) (t := 28) ?hr ?_; (case hd => rfl); (case hg => rfl); (case hr => first | (go_simp; done) | (go_simp; rfl)); intro gb123 hg w10 hbox hb; have n0_ := Aside0.mk (blk_below (g := gb122) (o := .cells #[.bool a2_0, .int .i64 a2_1, .string a2_2, .string a2_3, .bool a2_4, .int .u32 a2_5, .int .i64 a2_6] 28 (0, 0)) (by (with_reducible repeat (first | refine blk_drewN ?_ _ | refine blk_drew ?_ | refine blk_alloc ?_ _)); exact BK122.out) hb); have n1_ := Aside0.mk (below_step (by repeat (first | (with_reducible first | exact HB.out | apply below_alloc | apply pw_below_drewN | apply below_drew1 | refine below_set ?_ GE122.out) | exact HB.out)) hb); have n2_ := Aside0.mk (hbox); have n3_ := Aside0.mk ((by rw [hg]; exact (below_size (by repeat (first | (with_reducible first | exact HB.out | apply below_alloc | apply pw_below_drewN | apply below_drew1 | refine below_set ?_ GE122.out) | exact HB.out))) : w.heap.size ≤ gb123)); have n4_ := Aside0.mk ((by rw [hg]; exact (below_size (by repeat (first | (with_reducible first | exact HB.out | apply below_alloc | apply pw_below_drewN | apply below_drew1 | refine below_set ?_ GE122.out) | exact HB.out))) : w.heap.size ≤ gb123)); have n5_ := Aside0.mk ((by rw [hg]; exact Nat.ne_of_lt (blk_lt (g := gb122) (o := .cells #[.bool a2_0, .int .i64 a2_1, .string a2_2, .string a2_3, .bool a2_4, .int .u32 a2_5, .int .i64 a2_6] 28 (0, 0)) (by (with_reducible repeat (first | refine blk_drewN ?_ _ | refine blk_drew ?_ | refine blk_alloc ?_ _)); exact BK122.out)) : gb122 ≠ gb123)); have n6_ := Aside0.mk ((by rw [hg]; exact Nat.ne_of_gt (blk_lt (g := gb122) (o := .cells #[.bool a2_0, .int .i64 a2_1, .string a2_2, .string a2_3, .bool a2_4, .int .u32 a2_5, .int .i64 a2_6] 28 (0, 0)) (by (with_reducible repeat (first | refine blk_drewN ?_ _ | refine blk_drew ?_ | refine blk_alloc ?_ _)); exact BK122.out)) : gb123 ≠ gb122)); clear BK122; clear HB; have BK122 := n0_; have HB := n1_; have BK123 := n2_; have GW123 := n3_; have GE123 := n4_; have NB122_123 := n5_; have NB123_122 := n6_; clear n0_ n1_ n2_ n3_ n4_ n5_ n6_; clear hb hbox hg))
        go_ret
        exact ⟨by first | rfl | (simp [errW_none, errW_some] <;> rfl) | (simp [*, errW_none, errW_some] <;> rfl) | (simp [q_ne_nil]; done), by repeat (first | (with_reducible first | exact HB.out | apply below_alloc | apply pw_below_drewN | apply below_drew1 | refine below_set ?_ GE122.out | refine below_set ?_ GE123.out) | exact HB.out)⟩
      · rw [if_neg c8] at H
        have c8b0 : (a3 == 0) = false := beq_eq_false_iff_ne.mpr c8
        have c8b1 : (a3 != 0) = true := bne_iff_ne.mpr c8
        replace H := Option.bind_eq_some_iff.mp H
        obtain ⟨t124, A110, H⟩ := H
        replace H : (some (!t124)) = some r := H
        have A11 := Aside0.mk A110
        clear A110
        obtain rfl := Option.some.inj H
        go_enter Tryd.func14, Tryd.ntmps14
        go_wp2_with (first | ((with_reducible refine gate_dst (N := 7) rfl ?_); refine box_event ?hg (N := 7) ?hd (cs := #[.bool a2_0, .int .i64 a2_1, .string a2_2, .string a2_3, .bool a2_4, .int .u32 a2_5, .int .i64 a2_6]) (t := 28) ?hr ?_; (case hd => rfl); (case hg => rfl); (case hr => first | (go_simp; done) | (go_simp; rfl)); intro gb122 hg w12 hbox hb; have n0_ := Aside0.mk (below_step (by repeat (first | (with_reducible first | exact HB.out | apply below_alloc | apply pw_below_drewN | apply below_drew1) | exact HB.out)) hb); have n1_ := Aside0.mk (hbox); have n2_ := Aside0.mk ((by rw [hg]; exact (below_size (by repeat (first | (with_reducible first | exact HB.out | apply below_alloc | apply pw_below_drewN | apply below_drew1) | exact HB.out))) : w.heap.size ≤ gb122)); have n3_ := Aside0.mk ((by rw [hg]; exact (below_size (by repeat (first | (with_reducible first | exact HB.out | apply below_alloc | apply pw_below_drewN | apply below_drew1) | exact HB.out))) : w.heap.size ≤ gb122)); clear HB; have HB := n0_; have BK122 := n1_; have GW122 := n2_; have GE122 := n3_; clear n0_ n1_ n2_ n3_; clear hb hbox hg) | ((with_reducible refine gate_dst (N := 9) rfl ?_); refine box_event ?hg (N := 9) ?hd (cs := #[.bool a4_0, .int .i64 a4_1, .string a4_2, .string a4_3, .bool a4_4, .int .u32 a4_5, .int .i64 a4_6]) (t := 28) ?hr ?_; (case hd => rfl); (case hg => rfl); (case hr => first | (go_simp; done) | (go_simp; rfl)); intro gb123 hg w13 hbox hb; have n0_ := Aside0.mk (blk_below (g := gb122) (o := .cells #[.bool a2_0, .int .i64 a2_1, .string a2_2, .string a2_3, .bool a2_4, .int .u32 a2_5, .int .i64 a2_6] 28 (0, 0)) (by (with_reducible repeat (first | refine blk_drewN ?_ _ | refine blk_drew ?_ | refine blk_alloc ?_ _)); exact BK122.out) hb); have n1_ := Aside0.mk (below_step (by repeat (first | (with_reducible first | exact HB.out | apply below_alloc | apply pw_below_drewN | apply below_drew1 | refine below_set ?_ GE122.out) | exact HB.out)) hb); have n2_ := Aside0.mk (hbox); have n3_ := Aside0.mk ((by rw [hg]; exact (below_size (by repeat (first | (with_reducible first | exact HB.out | apply below_alloc | apply pw_below_drewN | apply below_drew1 | refine below_set ?_ GE122.out) | exact HB.out))) : w.heap.size ≤ gb123)); have n4_ := Aside0.mk ((by rw [hg]; exact (below_size (by repeat (first | (with_reducible first | exact HB.out | apply below_alloc | apply pw_below_drewN | apply below_drew1 | refine below_set ?_ GE122.out) | exact HB.out))) : w.heap.size ≤ gb123)); have n5_ := Aside0.mk ((by rw [hg]; exact Nat.ne_of_lt (blk_lt (g := gb122) (o := .cells #[.bool a2_0, .int .i64 a2_1, .string a2_2, .string a2_3, .bool a2_4, .int .u32 a2_5, .int .i64 a2_6] 28 (0, 0)) (by (with_reducible repeat (first | refine blk_drewN ?_ _ | refine blk_drew ?_ | refine blk_alloc ?_ _)); exact BK122.out)) : gb122 ≠ gb123)); have n6_ := Aside0.mk ((by rw [hg]; exact Nat.ne_of_gt (blk_lt (g := gb122) (o := .cells #[.bool a2_0, .int .i64 a2_1, .string a2_2, .string a2_3, .bool a2_4, .int .u32 a2_5, .int .i64 a2_6] 28 (0, 0)) (by (with_reducible repeat (first | refine blk_drewN ?_ _ | refine blk_drew ?_ | refine blk_alloc ?_ _)); exact BK122.out)) : gb123 ≠ gb122)); clear BK122; clear HB; have BK122 := n0_; have HB := n1_; have BK123 := n2_; have GW123 := n3_; have GE123 := n4_; have NB122_123 := n5_; have NB123_122 := n6_; clear n0_ n1_ n2_ n3_ n4_ n5_ n6_; clear hb hbox hg; have hnb14 := NB122_123.out; have hnc14 := NB123_122.out; have hcz15_0 : w13.cell? ⟨gb122, 0, none⟩ = some (.bool a2_0) := (blk_cell BK122.out 0).trans rfl; have hcz15_1 : w13.cell? ⟨gb122, 1, none⟩ = some (.int .i64 a2_1) := (blk_cell BK122.out 1).trans rfl; have hcz15_2 : w13.cell? ⟨gb122, 2, none⟩ = some (.string a2_2) := (blk_cell BK122.out 2).trans rfl; have hcz15_3 : w13.cell? ⟨gb122, 3, none⟩ = some (.string a2_3) := (blk_cell BK122.out 3).trans rfl; have hcz15_4 : w13.cell? ⟨gb122, 4, none⟩ = some (.bool a2_4) := (blk_cell BK122.out 4).trans rfl; have hcz15_5 : w13.cell? ⟨gb122, 5, none⟩ = some (.int .u32 a2_5) := (blk_cell BK122.out 5).trans rfl; have hcz15_6 : w13.cell? ⟨gb122, 6, none⟩ = some (.int .i64 a2_6) := (blk_cell BK122.out 6).trans rfl; have hfz15_0 := blk_frozen BK122.out 0; have hfz15_1 := blk_frozen BK122.out 1; have hfz15_2 := blk_frozen BK122.out 2; have hfz15_3 := blk_frozen BK122.out 3; have hfz15_4 := blk_frozen BK122.out 4; have hfz15_5 := blk_frozen BK122.out 5; have hfz15_6 := blk_frozen BK122.out 6; have hcz16_0 : w13.cell? ⟨gb123, 0, none⟩ = some (.bool a4_0) := (blk_cell BK123.out 0).trans rfl; have hcz16_1 : w13.cell? ⟨gb123, 1, none⟩ = some (.int .i64 a4_1) := (blk_cell BK123.out 1).trans rfl; have hcz16_2 : w13.cell? ⟨gb123, 2, none⟩ = some (.string a4_2) := (blk_cell BK123.out 2).trans rfl; have hcz16_3 : w13.cell? ⟨gb123, 3, none⟩ = some (.string a4_3) := (blk_cell BK123.out 3).trans rfl; have hcz16_4 : w13.cell? ⟨gb123, 4, none⟩ = some (.bool a4_4) := (blk_cell BK123.out 4).trans rfl; have hcz16_5 : w13.cell? ⟨gb123, 5, none⟩ = some (.int .u32 a4_5) := (blk_cell BK123.out 5).trans rfl; have hcz16_6 : w13.cell? ⟨gb123, 6, none⟩ = some (.int .i64 a4_6) := (blk_cell BK123.out 6).trans rfl; have hfz16_0 := blk_frozen BK123.out 0; have hfz16_1 := blk_frozen BK123.out 1; have hfz16_2 := blk_frozen BK123.out 2; have hfz16_3 := blk_frozen BK123.out 3; have hfz16_4 := blk_frozen BK123.out 4; have hfz16_5 := blk_frozen BK123.out 5; have hfz16_6 := blk_frozen BK123.out 6) | (go_at_call 12; (with_reducible refine (swap_Match.calls a1 a2_0 a2_1 a2_2 a2_3 a2_4 a2_5 a2_6 a3 a4_0 a4_1 a4_2 a4_3 a4_4 a4_5 a4_6 t124 _ A11.out).mono ?_); rintro e w17 ⟨rfl, hb⟩; have n0_ := Aside0.mk (blk_below (g := gb122) (o := .cells #[.bool a2_0, .int .i64 a2_1, .string a2_2, .string a2_3, .bool a2_4, .int .u32 a2_5, .int .i64 a2_6] 28 (0, 0)) (by (with_reducible repeat (first | refine blk_drewN ?_ _ | refine blk_drew ?_ | refine blk_alloc ?_ _)); exact BK122.out) hb); have n1_ := Aside0.mk (blk_below (g := gb123) (o := .cells #[.bool a4_0, .int .i64 a4_1, .string a4_2, .string a4_3, .bool a4_4, .int .u32 a4_5, .int .i64 a4_6] 28 (0, 0)) (by (with_reducible repeat (first | refine blk_drewN ?_ _ | refine blk_drew ?_ | refine blk_alloc ?_ _)); exact BK123.out) hb); have n2_ := Aside0.mk (below_step (by repeat (first | (with_reducible first | exact HB.out | apply below_alloc | apply pw_below_drewN | apply below_drew1 | refine below_set ?_ GE122.out | refine below_set ?_ GE123.out) | exact HB.out)) hb); clear BK122; clear BK123; clear HB; have BK122 := n0_; have BK123 := n1_; have HB := n2_; clear n0_ n1_ n2_; (try clear hb); (try clear hb2); (try clear hk); (try clear hi)))
        go_ret
        exact ⟨by first | rfl | (simp [errW_none, errW_some] <;> rfl) | (simp [*, errW_none, errW_some] <;> rfl) | (simp [q_ne_nil]; done), by repeat (first | (with_reducible first | exact HB.out | apply below_alloc | apply pw_below_drewN | apply below_drew1 | refine below_set ?_ GE122.out | refine below_set ?_ GE123.out) | exact HB.out)⟩
    · rw [if_neg c7] at H
      have c7b0 : (a1 == 1) = false := beq_eq_false_iff_ne.mpr c7
      have c7b1 : (a1 != 1) = true := bne_iff_ne.mpr c7
      replace H := Option.bind_eq_some_iff.mp H
      obtain ⟨t125, A180, H⟩ := H
      replace H : (some (!t125)) = some r := H
      have A18 := Aside0.mk A180
      clear A180
      obtain rfl := Option.some.inj H
      go_enter Tryd.func14, Tryd.ntmps14
      go_wp2_with (first | ((with_reducible refine gate_dst (N := 7) rfl ?_); refine box_event ?hg (N := 7) ?hd (cs := #[.bool a2_0, .int .i64 a2_1, .string a2_2, .string a2_3, .bool a2_4, .int .u32 a2_5, .int .i64 a2_6]) (t := 28) ?hr ?_; (case hd => rfl); (case hg => rfl); (case hr => first | (go_simp; done) | (go_simp; rfl)); intro gb122 hg w19 hbox hb; have n0_ := Aside0.mk (below_step (by repeat (first | (with_reducible first | exact HB.out | apply below_alloc | apply pw_below_drewN | apply below_drew1) | exact HB.out)) hb); have n1_ := Aside0.mk (hbox); have n2_ := Aside0.mk ((by rw [hg]; exact (below_size (by repeat (first | (with_reducible first | exact HB.out | apply below_alloc | apply pw_below_drewN | apply below_drew1) | exact HB.out))) : w.heap.size ≤ gb122)); have n3_ := Aside0.mk ((by rw [hg]; exact (below_size (by repeat (first | (with_reducible first | exact HB.out | apply below_alloc | apply pw_below_drewN | apply below_drew1) | exact HB.out))) : w.heap.size ≤ gb122)); clear HB; have HB := n0_; have BK122 := n1_; have GW122 := n2_; have GE122 := n3_; clear n0_ n1_ n2_ n3_; clear hb hbox hg) | ((with_reducible refine gate_dst (N := 9) rfl ?_); refine box_event ?hg (N := 9) ?hd (cs := #[.bool a4_0, .int .i64 a4_1, .string a4_2, .string a4_3, .bool a4_4, .int .u32 a4_5, .int .i64 a4_6]) (t := 28) ?hr ?_; (case hd => rfl); (case hg => rfl); (case hr => first | (go_simp; done) | (go_simp; rfl)); intro gb123 hg w20 hbox hb; have n0_ := Aside0.mk (blk_below (g := gb122) (o := .cells #[.bool a2_0, .int .i64 a2_1, .string a2_2, .string a2_3, .bool a2_4, .int .u32 a2_5, .int .i64 a2_6] 28 (0, 0)) (by (with_reducible repeat (first | refine blk_drewN ?_ _ | refine blk_drew ?_ | refine blk_alloc ?_ _)); exact BK122.out) hb); have n1_ := Aside0.mk (below_step (by repeat (first | (with_reducible first | exact HB.out | apply below_alloc | apply pw_below_drewN | apply below_drew1 | refine below_set ?_ GE122.out) | exact HB.out)) hb); have n2_ := Aside0.mk (hbox); have n3_ := Aside0.mk ((by rw [hg]; exact (below_size (by repeat (first | (with_reducible first | exact HB.out | apply below_alloc | apply pw_below_drewN | apply below_drew1 | refine below_set ?_ GE122.out) | exact HB.out))) : w.heap.size ≤ gb123)); have n4_ := Aside0.mk ((by rw [hg]; exact (below_size (by repeat (first | (with_reducible first | exact HB.out | apply below_alloc | apply pw_below_drewN | apply below_drew1 | refine below_set ?_ GE122.out) | exact HB.out))) : w.heap.size ≤ gb123)); have n5_ := Aside0.mk ((by rw [hg]; exact Nat.ne_of_lt (blk_lt (g := gb122) (o := .cells #[.bool a2_0, .int .i64 a2_1, .string a2_2, .string a2_3, .bool a2_4, .int .u32 a2_5, .int .i64 a2_6] 28 (0, 0)) (by (with_reducible repeat (first | refine blk_drewN ?_ _ | refine blk_drew ?_ | refine blk_alloc ?_ _)); exact BK122.out)) : gb122 ≠ gb123)); have n6_ := Aside0.mk ((by rw [hg]; exact Nat.ne_of_gt (blk_lt (g := gb122) (o := .cells #[.bool a2_0, .int .i64 a2_1, .string a2_2, .string a2_3, .bool a2_4, .int .u32 a2_5, .int .i64 a2_6] 28 (0, 0)) (by (with_reducible repeat (first | refine blk_drewN ?_ _ | refine blk_drew ?_ | refine blk_alloc ?_ _)); exact BK122.out)) : gb123 ≠ gb122)); clear BK122; clear HB; have BK122 := n0_; have HB := n1_; have BK123 := n2_; have GW123 := n3_; have GE123 := n4_; have NB122_123 := n5_; have NB123_122 := n6_; clear n0_ n1_ n2_ n3_ n4_ n5_ n6_; clear hb hbox hg; have hnb21 := NB122_123.out; have hnc21 := NB123_122.out; have hcz22_0 : w20.cell? ⟨gb122, 0, none⟩ = some (.bool a2_0) := (blk_cell BK122.out 0).trans rfl; have hcz22_1 : w20.cell? ⟨gb122, 1, none⟩ = some (.int .i64 a2_1) := (blk_cell BK122.out 1).trans rfl; have hcz22_2 : w20.cell? ⟨gb122, 2, none⟩ = some (.string a2_2) := (blk_cell BK122.out 2).trans rfl; have hcz22_3 : w20.cell? ⟨gb122, 3, none⟩ = some (.string a2_3) := (blk_cell BK122.out 3).trans rfl; have hcz22_4 : w20.cell? ⟨gb122, 4, none⟩ = some (.bool a2_4) := (blk_cell BK122.out 4).trans rfl; have hcz22_5 : w20.cell? ⟨gb122, 5, none⟩ = some (.int .u32 a2_5) := (blk_cell BK122.out 5).trans rfl; have hcz22_6 : w20.cell? ⟨gb122, 6, none⟩ = some (.int .i64 a2_6) := (blk_cell BK122.out 6).trans rfl; have hfz22_0 := blk_frozen BK122.out 0; have hfz22_1 := blk_frozen BK122.out 1; have hfz22_2 := blk_frozen BK122.out 2; have hfz22_3 := blk_frozen BK122.out 3; have hfz22_4 := blk_frozen BK122.out 4; have hfz22_5 := blk_frozen BK122.out 5; have hfz22_6 := blk_frozen BK122.out 6; have hcz23_0 : w20.cell? ⟨gb123, 0, none⟩ = some (.bool a4_0) := (blk_cell BK123.out 0).trans rfl; have hcz23_1 : w20.cell? ⟨gb123, 1, none⟩ = some (.int .i64 a4_1) := (blk_cell BK123.out 1).trans rfl; have hcz23_2 : w20.cell? ⟨gb123, 2, none⟩ = some (.string a4_2) := (blk_cell BK123.out 2).trans rfl; have hcz23_3 : w20.cell? ⟨gb123, 3, none⟩ = some (.string a4_3) := (blk_cell BK123.out 3).trans rfl; have hcz23_4 : w20.cell? ⟨gb123, 4, none⟩ = some (.bool a4_4) := (blk_cell BK123.out 4).trans rfl; have hcz23_5 : w20.cell? ⟨gb123, 5, none⟩ = some (.int .u32 a4_5) := (blk_cell BK123.out 5).trans rfl; have hcz23_6 : w20.cell? ⟨gb123, 6, none⟩ = some (.int .i64 a4_6) := (blk_cell BK123.out 6).trans rfl; have hfz23_0 := blk_frozen BK123.out 0; have hfz23_1 := blk_frozen BK123.out 1; have hfz23_2 := blk_frozen BK123.out 2; have hfz23_3 := blk_frozen BK123.out 3; have hfz23_4 := blk_frozen BK123.out 4; have hfz23_5 := blk_frozen BK123.out 5; have hfz23_6 := blk_frozen BK123.out 6) | (go_at_call 12; (with_reducible refine (swap_Match.calls a1 a2_0 a2_1 a2_2 a2_3 a2_4 a2_5 a2_6 a3 a4_0 a4_1 a4_2 a4_3 a4_4 a4_5 a4_6 t125 _ A18.out).mono ?_); rintro e w24 ⟨rfl, hb⟩; have n0_ := Aside0.mk (blk_below (g := gb122) (o := .cells #[.bool a2_0, .int .i64 a2_1, .string a2_2, .string a2_3, .bool a2_4, .int .u32 a2_5, .int .i64 a2_6] 28 (0, 0)) (by (with_reducible repeat (first | refine blk_drewN ?_ _ | refine blk_drew ?_ | refine blk_alloc ?_ _)); exact BK122.out) hb); have n1_ := Aside0.mk (blk_below (g := gb123) (o := .cells #[.bool a4_0, .int .i64 a4_1, .string a4_2, .string a4_3, .bool a4_4, .int .u32 a4_5, .int .i64 a4_6] 28 (0, 0)) (by (with_reducible repeat (first | refine blk_drewN ?_ _ | refine blk_drew ?_ | refine blk_alloc ?_ _)); exact BK123.out) hb); have n2_ := Aside0.mk (below_step (by repeat (first | (with_reducible first | exact HB.out | apply below_alloc | apply pw_below_drewN | apply below_drew1 | refine below_set ?_ GE122.out | refine below_set ?_ GE123.out) | exact HB.out)) hb); clear BK122; clear BK123; clear HB; have BK122 := n0_; have BK123 := n1_; have HB := n2_; clear n0_ n1_ n2_; (try clear hb); (try clear hb2); (try clear hk); (try clear hi)))
      go_ret
      exact ⟨by first | rfl | (simp [errW_none, errW_some] <;> rfl) | (simp [*, errW_none, errW_some] <;> rfl) | (simp [q_ne_nil]; done), by repeat (first | (with_reducible first | exact HB.out | apply below_alloc | apply pw_below_drewN | apply below_drew1 | refine below_set ?_ GE122.out | refine below_set ?_ GE123.out) | exact HB.out)⟩
  · replace c6 := Bool.eq_false_iff.mpr c6
    subst c6
    have H1 : ((swap_Match.f a1 a2_0 a2_1 a2_2 a2_3 a2_4 a2_5 a2_6 a3 a4_0 a4_1 a4_2 a4_3 a4_4 a4_5 a4_6).bind fun t126 => (some (!t126))) = some r := by rw [if_neg (show ¬ (false = true) by decide)] at H; exact H
    clear H
    have H := H1
    clear H1
    replace H := Option.bind_eq_some_iff.mp H
    obtain ⟨t126, A250, H⟩ := H
    replace H : (some (!t126)) = some r := H
    have A25 := Aside0.mk A250
    clear A250
    obtain rfl := Option.some.inj H
    go_enter Tryd.func14, Tryd.ntmps14
    go_wp2_with (first | ((with_reducible refine gate_dst (N := 7) rfl ?_); refine box_event ?hg (N := 7) ?hd (cs := #[.bool a2_0, .int .i64 a2_1, .string a2_2, .string a2_3, .bool a2_4, .int .u32 a2_5, .int .i64 a2_6]) (t := 28) ?hr ?_; (case hd => rfl); (case hg => rfl); (case hr => first | (go_simp; done) | (go_simp; rfl)); intro gb122 hg w26 hbox hb; have n0_ := Aside0.mk (below_step (by repeat (first | (with_reducible first | exact HB.out | apply below_alloc | apply pw_below_drewN | apply below_drew1) | exact HB.out)) hb); have n1_ := Aside0.mk (hbox); have n2_ := Aside0.mk ((by rw [hg]; exact (below_size (by repeat (first | (with_reducible first | exact HB.out | apply below_alloc | apply pw_below_drewN | apply below_drew1) | exact HB.out))) : w.heap.size ≤ gb122)); have n3_ := Aside0.mk ((by rw [hg]; exact (below_size (by repeat (first | (with_reducible first | exact HB.out | apply below_alloc | apply pw_below_drewN | apply below_drew1) | exact HB.out))) : w.heap.size ≤ gb122)); clear HB; have HB := n0_; have BK122 := n1_; have GW122 := n2_; have GE122 := n3_; clear n0_ n1_ n2_ n3_; clear hb hbox hg) | ((with_reducible refine gate_dst (N := 9) rfl ?_); refine box_event ?hg (N := 9) ?hd (cs := #[.bool a4_0, .int .i64 a4_1, .string a4_2, .string a4_3, .bool a4_4, .int .u32 a4_5, .int .i64 a4_6]) (t := 28) ?hr ?_; (case hd => rfl); (case hg => rfl); (case hr => first | (go_simp; done) | (go_simp; rfl)); intro gb123 hg w27 hbox hb; have n0_ := Aside0.mk (blk_below (g := gb122) (o := .cells #[.bool a2_0, .int .i64 a2_1, .string a2_2, .string a2_3, .bool a2_4, .int .u32 a2_5, .int .i64 a2_6] 28 (0, 0)) (by (with_reducible repeat (first | refine blk_drewN ?_ _ | refine blk_drew ?_ | refine blk_alloc ?_ _)); exact BK122.out) hb); have n1_ := Aside0.mk (below_step (by repeat (first | (with_reducible first | exact HB.out | apply below_alloc | apply pw_below_drewN | apply below_drew1 | refine below_set ?_ GE122.out) | exact HB.out)) hb); have n2_ := Aside0.mk (hbox); have n3_ := Aside0.mk ((by rw [hg]; exact (below_size (by repeat (first | (with_reducible first | exact HB.out | apply below_alloc | apply pw_below_drewN | apply below_drew1 | refine below_set ?_ GE122.out) | exact HB.out))) : w.heap.size ≤ gb123)); have n4_ := Aside0.mk ((by rw [hg]; exact (below_size (by repeat (first | (with_reducible first | exact HB.out | apply below_alloc | apply pw_below_drewN | apply below_drew1 | refine below_set ?_ GE122.out) | exact HB.out))) : w.heap.size ≤ gb123)); have n5_ := Aside0.mk ((by rw [hg]; exact Nat.ne_of_lt (blk_lt (g := gb122) (o := .cells #[.bool a2_0, .int .i64 a2_1, .string a2_2, .string a2_3, .bool a2_4, .int .u32 a2_5, .int .i64 a2_6] 28 (0, 0)) (by (with_reducible repeat (first | refine blk_drewN ?_ _ | refine blk_drew ?_ | refine blk_alloc ?_ _)); exact BK122.out)) : gb122 ≠ gb123)); have n6_ := Aside0.mk ((by rw [hg]; exact Nat.ne_of_gt (blk_lt (g := gb122) (o := .cells #[.bool a2_0, .int .i64 a2_1, .string a2_2, .string a2_3, .bool a2_4, .int .u32 a2_5, .int .i64 a2_6] 28 (0, 0)) (by (with_reducible repeat (first | refine blk_drewN ?_ _ | refine blk_drew ?_ | refine blk_alloc ?_ _)); exact BK122.out)) : gb123 ≠ gb122)); clear BK122; clear HB; have BK122 := n0_; have HB := n1_; have BK123 := n2_; have GW123 := n3_; have GE123 := n4_; have NB122_123 := n5_; have NB123_122 := n6_; clear n0_ n1_ n2_ n3_ n4_ n5_ n6_; clear hb hbox hg; have hnb28 := NB122_123.out; have hnc28 := NB123_122.out; have hcz29_0 : w27.cell? ⟨gb122, 0, none⟩ = some (.bool a2_0) := (blk_cell BK122.out 0).trans rfl; have hcz29_1 : w27.cell? ⟨gb122, 1, none⟩ = some (.int .i64 a2_1) := (blk_cell BK122.out 1).trans rfl; have hcz29_2 : w27.cell? ⟨gb122, 2, none⟩ = some (.string a2_2) := (blk_cell BK122.out 2).trans rfl; have hcz29_3 : w27.cell? ⟨gb122, 3, none⟩ = some (.string a2_3) := (blk_cell BK122.out 3).trans rfl; have hcz29_4 : w27.cell? ⟨gb122, 4, none⟩ = some (.bool a2_4) := (blk_cell BK122.out 4).trans rfl; have hcz29_5 : w27.cell? ⟨gb122, 5, none⟩ = some (.int .u32 a2_5) := (blk_cell BK122.out 5).trans rfl; have hcz29_6 : w27.cell? ⟨gb122, 6, none⟩ = some (.int .i64 a2_6) := (blk_cell BK122.out 6).trans rfl; have hfz29_0 := blk_frozen BK122.out 0; have hfz29_1 := blk_frozen BK122.out 1; have hfz29_2 := blk_frozen BK122.out 2; have hfz29_3 := blk_frozen BK122.out 3; have hfz29_4 := blk_frozen BK122.out 4; have hfz29_5 := blk_frozen BK122.out 5; have hfz29_6 := blk_frozen BK122.out 6; have hcz30_0 : w27.cell? ⟨gb123, 0, none⟩ = some (.bool a4_0) := (blk_cell BK123.out 0).trans rfl; have hcz30_1 : w27.cell? ⟨gb123, 1, none⟩ = some (.int .i64 a4_1) := (blk_cell BK123.out 1).trans rfl; have hcz30_2 : w27.cell? ⟨gb123, 2, none⟩ = some (.string a4_2) := (blk_cell BK123.out 2).trans rfl; have hcz30_3 : w27.cell? ⟨gb123, 3, none⟩ = some (.string a4_3) := (blk_cell BK123.out 3).trans rfl; have hcz30_4 : w27.cell? ⟨gb123, 4, none⟩ = some (.bool a4_4) := (blk_cell BK123.out 4).trans rfl; have hcz30_5 : w27.cell? ⟨gb123, 5, none⟩ = some (.int .u32 a4_5) := (blk_cell BK123.out 5).trans rfl; have hcz30_6 : w27.cell? ⟨gb123, 6, none⟩ = some (.int .i64 a4_6) := (blk_cell BK123.out 6).trans rfl; have hfz30_0 := blk_frozen BK123.out 0; have hfz30_1 := blk_frozen BK123.out 1; have hfz30_2 := blk_frozen BK123.out 2; have hfz30_3 := blk_frozen BK123.out 3; have hfz30_4 := blk_frozen BK123.out 4; have hfz30_5 := blk_frozen BK123.out 5; have hfz30_6 := blk_frozen BK123.out 6) | (go_at_call 12; (with_reducible refine (swap_Match.calls a1 a2_0 a2_1 a2_2 a2_3 a2_4 a2_5 a2_6 a3 a4_0 a4_1 a4_2 a4_3 a4_4 a4_5 a4_6 t126 _ A25.out).mono ?_); rintro e w31 ⟨rfl, hb⟩; have n0_ := Aside0.mk (blk_below (g := gb122) (o := .cells #[.bool a2_0, .int .i64 a2_1, .string a2_2, .string a2_3, .bool a2_4, .int .u32 a2_5, .int .i64 a2_6] 28 (0, 0)) (by (with_reducible repeat (first | refine blk_drewN ?_ _ | refine blk_drew ?_ | refine blk_alloc ?_ _)); exact BK122.out) hb); have n1_ := Aside0.mk (blk_below (g := gb123) (o := .cells #[.bool a4_0, .int .i64 a4_1, .string a4_2, .string a4_3, .bool a4_4, .int .u32 a4_5, .int .i64 a4_6] 28 (0, 0)) (by (with_reducible repeat (first | refine blk_drewN ?_ _ | refine blk_drew ?_ | refine blk_alloc ?_ _)); exact BK123.out) hb); have n2_ := Aside0.mk (below_step (by repeat (first | (with_reducible first | exact HB.out | apply below_alloc | apply pw_below_drewN | apply below_drew1 | refine below_set ?_ GE122.out | refine below_set ?_ GE123.out) | exact HB.out)) hb); clear BK122; clear BK123; clear HB; have BK122 := n0_; have BK123 := n1_; have HB := n2_; clear n0_ n1_ n2_; (try clear hb); (try clear hb2); (try clear hk); (try clear hi)))
    go_ret
    exact ⟨by first | rfl | (simp [errW_none, errW_some] <;> rfl) | (simp [*, errW_none, errW_some] <;> rfl) | (simp [q_ne_nil]; done), by repeat (first | (with_reducible first | exact HB.out | apply below_alloc | apply pw_below_drewN | apply below_drew1 | refine below_set ?_ GE122.out | refine below_set ?_ GE123.out) | exact HB.out)⟩

/-! ### swap_Reports: function 10 -/
/-- Would a policy that is but reported open a group? -/
def opensOf (fst : Bool) (n0 : Bool) (n1 : Int) (n2 : ByteArray) (n3 : ByteArray) (n4 : Bool) (n5 : Int) (n6 : Int) (x0 : Bool) (x1 : Int) (x2 : ByteArray) (x3 : ByteArray) (x4 : Bool) (x5 : Int) (x6 : Int) (a b rep : Int) : Option Bool := if rep = 0 then some false else swap_Swap.f fst a n0 n1 n2 n3 n4 n5 n6 b x0 x1 x2 x3 x4 x5 x6
def swap_Reports.f (a0 : Bool) (a1_0 : Int) (a1_1 : ByteArray) (a1_2 : Int) (a1_3 : ByteArray) (a2_0 : Bool) (a2_1 : Int) (a2_2 : ByteArray) (a2_3 : ByteArray) (a2_4 : Bool) (a2_5 : Int) (a2_6 : Int) (a3_0 : Int) (a3_1 : ByteArray) (a3_2 : Int) (a3_3 : ByteArray) (a4_0 : Bool) (a4_1 : Int) (a4_2 : ByteArray) (a4_3 : ByteArray) (a4_4 : Bool) (a4_5 : Int) (a4_6 : Int) : Option (Bool × Bool) := (opensOf a0 a2_0 a2_1 a2_2 a2_3 a2_4 a2_5 a2_6 a4_0 a4_1 a4_2 a4_3 a4_4 a4_5 a4_6 a1_0 a3_2 a3_2).bind fun p => (opensOf a0 a2_0 a2_1 a2_2 a2_3 a2_4 a2_5 a2_6 a4_0 a4_1 a4_2 a4_3 a4_4 a4_5 a4_6 a1_2 a3_0 a1_2).bind fun q => some (p, q)
set_option maxHeartbeats 2000000 in
set_option maxRecDepth 100000 in
theorem opens_calls (W : World) (b1 b2 b3 : Nat) (fst : Bool) (n0 : Bool) (n1 : Int) (n2 : ByteArray) (n3 : ByteArray) (n4 : Bool) (n5 : Int) (n6 : Int) (x0 : Bool) (x1 : Int) (x2 : ByteArray) (x3 : ByteArray) (x4 : Bool) (x5 : Int) (x6 : Int) (a b rep : Int) (r : Bool)
    (h1 : W.heap[b1]? = some (.cells #[.bool fst] 4 (0, 0))) (h2 : W.heap[b2]? = some (.cells #[.bool n0, .int .i64 n1, .string n2, .string n3, .bool n4, .int .u32 n5, .int .i64 n6] 28 (0, 0))) (h3 : W.heap[b3]? = some (.cells #[.bool x0, .int .i64 x1, .string x2, .string x3, .bool x4, .int .u32 x5, .int .i64 x6] 28 (0, 0)))
    (h : opensOf fst n0 n1 n2 n3 n4 n5 n6 x0 x1 x2 x3 x4 x5 x6 a b rep = some r) :
    Calls Tryd.prog 18 #[.int .i64 a, .int .i64 b, .int .i64 rep, .pointer (some ⟨b1, 0, none⟩), .pointer (some ⟨b2, 0, none⟩), .pointer (some ⟨b3, 0, none⟩)] W fun e w' => e = .returned (.bool r) ∧ Below W.heap.size W w' := by
  unfold opensOf at h
  by_cases c : rep = 0
  · rw [if_pos c] at h
    obtain rfl := Option.some.inj h
    have c0 : (rep != 0) = false := bne_eq_false_iff_eq.mpr c
    clear c h h1 h2 h3
    go_enter Tryd.func18, Tryd.ntmps18
    go_wp2
    go_ret
    exact ⟨rfl, Below.refl _ _⟩
  · rw [if_neg c] at h
    have c0 : (rep != 0) = true := bne_iff_ne.mpr c
    clear c
    have HC := Aside0.mk (swap_Swap.calls fst a n0 n1 n2 n3 n4 n5 n6 b x0 x1 x2 x3 x4 x5 x6 r W h)
    clear h
    have k1 : W.cell? ⟨b1, 0, none⟩ = some (.bool fst) := (blk_cell h1 0).trans rfl
    have k2_0 : W.cell? ⟨b2, 0, none⟩ = some (.bool n0) := (blk_cell h2 0).trans rfl
    have k3_0 : W.cell? ⟨b3, 0, none⟩ = some (.bool x0) := (blk_cell h3 0).trans rfl
    have k2_1 : W.cell? ⟨b2, 1, none⟩ = some (.int .i64 n1) := (blk_cell h2 1).trans rfl
    have k3_1 : W.cell? ⟨b3, 1, none⟩ = some (.int .i64 x1) := (blk_cell h3 1).trans rfl
    have k2_2 : W.cell? ⟨b2, 2, none⟩ = some (.string n2) := (blk_cell h2 2).trans rfl
    have k3_2 : W.cell? ⟨b3, 2, none⟩ = some (.string x2) := (blk_cell h3 2).trans rfl
    have k2_3 : W.cell? ⟨b2, 3, none⟩ = some (.string n3) := (blk_cell h2 3).trans rfl
    have k3_3 : W.cell? ⟨b3, 3, none⟩ = some (.string x3) := (blk_cell h3 3).trans rfl
    have k2_4 : W.cell? ⟨b2, 4, none⟩ = some (.bool n4) := (blk_cell h2 4).trans rfl
    have k3_4 : W.cell? ⟨b3, 4, none⟩ = some (.bool x4) := (blk_cell h3 4).trans rfl
    have k2_5 : W.cell? ⟨b2, 5, none⟩ = some (.int .u32 n5) := (blk_cell h2 5).trans rfl
    have k3_5 : W.cell? ⟨b3, 5, none⟩ = some (.int .u32 x5) := (blk_cell h3 5).trans rfl
    have k2_6 : W.cell? ⟨b2, 6, none⟩ = some (.int .i64 n6) := (blk_cell h2 6).trans rfl
    have k3_6 : W.cell? ⟨b3, 6, none⟩ = some (.int .i64 x6) := (blk_cell h3 6).trans rfl
    clear h1 h2 h3
    go_enter Tryd.func18, Tryd.ntmps18
    go_wp2_with (first | (go_at_call 14; refine HC.out.mono ?_; rintro e w1 ⟨rfl, hb1⟩; have HB := Aside0.mk hb1; clear hb1))
    go_ret
    exact ⟨rfl, HB.out⟩
theorem blk_at (w : World) (o : Obj) (n : Nat) (h : n = w.heap.size) : (w.alloc o).heap[n]? = some o := by subst h; exact blk_new w o
set_option maxHeartbeats 4000000 in
set_option maxRecDepth 100000 in
theorem swap_Reports.calls (a0 : Bool) (a1_0 : Int) (a1_1 : ByteArray) (a1_2 : Int) (a1_3 : ByteArray) (a2_0 : Bool) (a2_1 : Int) (a2_2 : ByteArray) (a2_3 : ByteArray) (a2_4 : Bool) (a2_5 : Int) (a2_6 : Int) (a3_0 : Int) (a3_1 : ByteArray) (a3_2 : Int) (a3_3 : ByteArray) (a4_0 : Bool) (a4_1 : Int) (a4_2 : ByteArray) (a4_3 : ByteArray) (a4_4 : Bool) (a4_5 : Int) (a4_6 : Int) (r1 r2 : Bool) (w : World) (h : swap_Reports.f a0 a1_0 a1_1 a1_2 a1_3 a2_0 a2_1 a2_2 a2_3 a2_4 a2_5 a2_6 a3_0 a3_1 a3_2 a3_3 a4_0 a4_1 a4_2 a4_3 a4_4 a4_5 a4_6 = some (r1, r2)) :
    Calls Tryd.prog 10 #[.bool a0, .agg #[.int .i64 a1_0, .string a1_1, .int .i64 a1_2, .string a1_3], .agg #[.bool a2_0, .int .i64 a2_1, .string a2_2, .string a2_3, .bool a2_4, .int .u32 a2_5, .int .i64 a2_6], .agg #[.int .i64 a3_0, .string a3_1, .int .i64 a3_2, .string a3_3], .agg #[.bool a4_0, .int .i64 a4_1, .string a4_2, .string a4_3, .bool a4_4, .int .u32 a4_5, .int .i64 a4_6]] w fun e w' => e = .returned (.tuple #[.bool r1, .bool r2]) ∧ Below w.heap.size w w' := by
  unfold swap_Reports.f at h
  obtain ⟨p, hp, h⟩ := Option.bind_eq_some_iff.mp h
  obtain ⟨q, hq, h⟩ := Option.bind_eq_some_iff.mp h
  obtain ⟨rfl, rfl⟩ : p = r1 ∧ q = r2 := by simpa using h
  clear h
  have hmf : ∀ (fn : Fn) (first cap : Array Value) (w : World), (Instr.makeFunc fn first cap).run Tryd.prog w = .ok (.func fn first cap) w := fun _ _ _ _ => rfl
  let W0 := ((((w.alloc (.cells #[.bool a0] 4)).alloc (.cells #[.int .i64 a1_0, .string a1_1, .int .i64 a1_2, .string a1_3] 23)).alloc (.cells #[.bool a2_0, .int .i64 a2_1, .string a2_2, .string a2_3, .bool a2_4, .int .u32 a2_5, .int .i64 a2_6] 28)).alloc (.cells #[.int .i64 a3_0, .string a3_1, .int .i64 a3_2, .string a3_3] 23)).alloc (.cells #[.bool a4_0, .int .i64 a4_1, .string a4_2, .string a4_3, .bool a4_4, .int .u32 a4_5, .int .i64 a4_6] 28)
  have e0 : W0.heap[w.heap.size]? = some (.cells #[.bool a0] 4 (0, 0)) := blk_alloc (blk_alloc (blk_alloc (blk_alloc (blk_new _ _) _) _) _) _
  have e1 : W0.heap[w.heap.size + 1]? = some (.cells #[.int .i64 a1_0, .string a1_1, .int .i64 a1_2, .string a1_3] 23 (0, 0)) := blk_alloc (blk_alloc (blk_alloc (blk_at _ _ _ (by simp)) _) _) _
  have e2 : W0.heap[w.heap.size + 1 + 1]? = some (.cells #[.bool a2_0, .int .i64 a2_1, .string a2_2, .string a2_3, .bool a2_4, .int .u32 a2_5, .int .i64 a2_6] 28 (0, 0)) := blk_alloc (blk_alloc (blk_at _ _ _ (by simp)) _) _
  have e3 : W0.heap[w.heap.size + 1 + 1 + 1]? = some (.cells #[.int .i64 a3_0, .string a3_1, .int .i64 a3_2, .string a3_3] 23 (0, 0)) := blk_alloc (blk_at _ _ _ (by simp)) _
  have e4 : W0.heap[w.heap.size + 1 + 1 + 1 + 1]? = some (.cells #[.bool a4_0, .int .i64 a4_1, .string a4_2, .string a4_3, .bool a4_4, .int .u32 a4_5, .int .i64 a4_6] 28 (0, 0)) := blk_at _ _ _ (by simp)
  have hB0 : Below w.heap.size w W0 := below_alloc (below_alloc (below_alloc (below_alloc (below_alloc (Below.refl _ w) _) _) _) _) _
  go_enter Tryd.func10, Tryd.ntmps10
  go_wp2
  show Code.wp _ _ _ _ W0
  clear_value W0
  have hg := enters_of Tryd.func18 (by kernel_rfl) rfl
  have P1 := Aside0.mk (fun W (hb : Below W0.heap.size W0 W) => opens_calls W w.heap.size (w.heap.size + 1 + 1) (w.heap.size + 1 + 1 + 1 + 1) a0 a2_0 a2_1 a2_2 a2_3 a2_4 a2_5 a2_6 a4_0 a4_1 a4_2 a4_3 a4_4 a4_5 a4_6 a1_0 a3_2 a3_2 p (blk_below e0 hb) (blk_below e2 hb) (blk_below e4 hb) hp)
  have P2 := Aside0.mk (fun W (hb : Below W0.heap.size W0 W) => opens_calls W w.heap.size (w.heap.size + 1 + 1) (w.heap.size + 1 + 1 + 1 + 1) a0 a2_0 a2_1 a2_2 a2_3 a2_4 a2_5 a2_6 a4_0 a4_1 a4_2 a4_3 a4_4 a4_5 a4_6 a1_2 a3_0 a1_2 q (blk_below e0 hb) (blk_below e2 hb) (blk_below e4 hb) hq)
  have k1 : W0.cell? ⟨w.heap.size + 1, 0, none⟩ = some (.int .i64 a1_0) := (blk_cell e1 0).trans rfl
  have k2 : W0.cell? ⟨w.heap.size + 1, 2, none⟩ = some (.int .i64 a1_2) := (blk_cell e1 2).trans rfl
  have k3 : W0.cell? ⟨w.heap.size + 1 + 1 + 1, 0, none⟩ = some (.int .i64 a3_0) := (blk_cell e3 0).trans rfl
  have k4 : W0.cell? ⟨w.heap.size + 1 + 1 + 1, 2, none⟩ = some (.int .i64 a3_2) := (blk_cell e3 2).trans rfl
  have K := Aside0.mk (fun W (hb : Below W0.heap.size W0 W) => And.intro (pw_cell_below hb k1) (And.intro (pw_cell_below hb k2) (And.intro (pw_cell_below hb k3) (And.intro (pw_cell_below hb k4) hb))))
  have HB0 := Aside0.mk hB0
  clear e0 e1 e2 e3 e4 hp hq hB0
  go_region_held3 (fun w' => w'.cell? ⟨w.heap.size + 1, 0, none⟩ = some (.int .i64 a1_0) ∧ w'.cell? ⟨w.heap.size + 1, 2, none⟩ = some (.int .i64 a1_2) ∧ w'.cell? ⟨w.heap.size + 1 + 1 + 1, 0, none⟩ = some (.int .i64 a3_0) ∧ w'.cell? ⟨w.heap.size + 1 + 1 + 1, 2, none⟩ = some (.int .i64 a3_2) ∧ Below W0.heap.size W0 w') (first | exact K.out _ (below_drew (Below.refl _ _)) | exact K.out _ (Below.refl _ _) | exact K.out _ (by assumption)) (first | (go_at_call 18; ((with_reducible refine (P1.out _ ?_).mono ?_); (first | exact below_drew (Below.refl _ _) | exact Below.refl _ _ | assumption | exact (‹_ ∧ _ ∧ _ ∧ _ ∧ Below W0.heap.size W0 _›).2.2.2.2); rintro e w1 ⟨rfl, hb1⟩; (try have hx1 := below_then (below_drew (Below.refl W0.heap.size W0)) (by simp) hb1); skip)) | (go_at_call 18; ((with_reducible refine (P2.out _ ?_).mono ?_); (first | exact below_drew (Below.refl _ _) | exact Below.refl _ _ | assumption | exact (‹_ ∧ _ ∧ _ ∧ _ ∧ Below W0.heap.size W0 _›).2.2.2.2); rintro e w1 ⟨rfl, hb1⟩; skip; (try have hx2 := below_then hx1 hx1.size hb1))))
  all_goals (go_wp2; go_ret2)
  all_goals exact ⟨rfl, HB0.out.trans (hx2.mono HB0.out.size)⟩


/-! ### stringslite_Index: function 39 -/
def stringslite_Index.f (a0 : ByteArray) (a1 : ByteArray) : Option Int := match a1.data.toList with
  | [c] => some (Lib.indexByte a0.data.toList c)
  | _ => none
theorem stringslite_Index.calls (a0 : ByteArray) (a1 : ByteArray) (r : Int) (w : World) (h : stringslite_Index.f a0 a1 = some r) :
    Calls Tryd.prog 39 #[.string a0, .string a1] w fun e w' => e = .returned (.int .i64 r) ∧ Drawn0 w w' := by
  unfold stringslite_Index.f at h
  split at h
  · rename_i c hc
    obtain rfl := Option.some.inj h
    obtain rfl : a1 = ⟨#[c]⟩ := ByteArray.ext (Array.toList_inj.1 (by simpa using hc))
    exact (Tryd.stringslite_Index_one a0 c w).mono fun e w' ⟨h1, h2⟩ => ⟨h1, by subst h2; exact Drawn0.refl _⟩
  · cases h


/-! ### stringslite_Cut: function 32 -/
def stringslite_Cut.f (a0 : ByteArray) (a1 : ByteArray) : Option (ByteArray × ByteArray × Bool) := (stringslite_Index.f a0 a1).bind fun t127 => (if t127 ≥ 0 then (if 0 ≤ t127 then (if t127 ≤ (a0.size : Int) then (if 0 ≤ (wrap64 (t127 + (a1.size : Int))) then (if (wrap64 (t127 + (a1.size : Int))) ≤ (a0.size : Int) then (some (a0.extract 0 (t127 : Int).toNat, a0.extract ((wrap64 (t127 + (a1.size : Int))) : Int).toNat a0.size, true)) else (none)) else (none)) else (none)) else (none)) else (some (a0, (⟨#[]⟩ : ByteArray), false)))
set_option maxHeartbeats 8000000 in
set_option maxRecDepth 100000 in
theorem stringslite_Cut.calls (a0 : ByteArray) (a1 : ByteArray) (r1 : ByteArray) (r2 : ByteArray) (r3 : Bool) (w : World) (h : stringslite_Cut.f a0 a1 = some (r1, r2, r3)) :
    Calls Tryd.prog 32 #[.string a0, .string a1] w fun e w' => e = .returned (.tuple #[.string r1, .string r2, .bool r3]) ∧ Drawn0 w w' := by
  have H : ((stringslite_Index.f a0 a1).bind fun t127 => (if t127 ≥ 0 then (if 0 ≤ t127 then (if t127 ≤ (a0.size : Int) then (if 0 ≤ (wrap64 (t127 + (a1.size : Int))) then (if (wrap64 (t127 + (a1.size : Int))) ≤ (a0.size : Int) then (some (a0.extract 0 (t127 : Int).toNat, a0.extract ((wrap64 (t127 + (a1.size : Int))) : Int).toNat a0.size, true)) else (none)) else (none)) else (none)) else (none)) else (some (a0, (⟨#[]⟩ : ByteArray), false)))) = some (r1, r2, r3) := h
  clear h
  replace H := Option.bind_eq_some_iff.mp H
  obtain ⟨t127, A30, H⟩ := H
  replace H : (if t127 ≥ 0 then (if 0 ≤ t127 then (if t127 ≤ (a0.size : Int) then (if 0 ≤ (wrap64 (t127 + (a1.size : Int))) then (if (wrap64 (t127 + (a1.size : Int))) ≤ (a0.size : Int) then (some (a0.extract 0 (t127 : Int).toNat, a0.extract ((wrap64 (t127 + (a1.size : Int))) : Int).toNat a0.size, true)) else (none)) else (none)) else (none)) else (none)) else (some (a0, (⟨#[]⟩ : ByteArray), false))) = some (r1, r2, r3) := H
  have A3 := Aside0.mk A30
  clear A30
  by_cases c4 : t127 ≥ 0
  · rw [if_pos c4] at H
    have c4b0 : decide (0 ≤ t127) = true := decide_eq_true c4
    clear c4
    by_cases c5 : 0 ≤ t127
    · rw [if_pos c5] at H
      have c5b0 := eq_true c5
      have c5b1 : decide (0 ≤ t127) = true := decide_eq_true c5
      clear c5
      by_cases c6 : t127 ≤ (a0.size : Int)
      · rw [if_pos c6] at H
        have c6b0 := eq_true c6
        have c6b1 : decide (t127 ≤ (a0.size : Int)) = true := decide_eq_true c6
        clear c6
        obtain ⟨ji7, hji7⟩ : ∃ j_ : Int, (wrap64 (t127 + (a1.size : Int))) = j_ := ⟨_, rfl⟩
        replace H : (if 0 ≤ (ji7) then (if (ji7) ≤ (a0.size : Int) then (some (a0.extract 0 (t127 : Int).toNat, a0.extract ((ji7) : Int).toNat a0.size, true)) else (none)) else (none)) = some (r1, r2, r3) := by first | (rw [hji7] at H; exact H) | (simp only [hji7] at H ⊢; exact H)
        (try rw [hji7] at A3)
        have hji7w : (IntKind.i64.wrap (t127 + (a1.size : Int))) = ji7 := (i64_w _).trans hji7
        by_cases c8 : 0 ≤ (ji7)
        · rw [if_pos c8] at H
          have c8b0 := eq_true c8
          have c8b1 : decide (0 ≤ (ji7)) = true := decide_eq_true c8
          clear c8
          by_cases c9 : (ji7) ≤ (a0.size : Int)
          · rw [if_pos c9] at H
            have c9b0 := eq_true c9
            have c9b1 : decide ((ji7) ≤ (a0.size : Int)) = true := decide_eq_true c9
            clear c9
            simp only [Option.some.injEq, Prod.mk.injEq] at H
            obtain ⟨rfl, rfl, rfl⟩ := H
            go_enter Tryd.func32, Tryd.ntmps32
            go_wp2_with (first | (go_at_call 39; (with_reducible refine (stringslite_Index.calls a0 a1 t127 _ A3.out).mono ?_); rintro e w' ⟨rfl, ⟨nd, rfl⟩⟩; (try first | exact ⟨rfl, _, World.drewN_drewN _ _ _⟩ | exact ⟨rfl, _, Eq.trans (World.drewN_drewN _ _ _) (congrArg (World.drewN _) (Nat.add_assoc _ _ _))⟩)))
            repeat (go_quiet (first | (go_at_call 39; (with_reducible refine (stringslite_Index.calls a0 a1 t127 _ A3.out).mono ?_); rintro e w' ⟨rfl, ⟨nd, rfl⟩⟩; (try first | exact ⟨rfl, _, World.drewN_drewN _ _ _⟩ | exact ⟨rfl, _, Eq.trans (World.drewN_drewN _ _ _) (congrArg (World.drewN _) (Nat.add_assoc _ _ _))⟩))); try go_wp2_with (first | (go_at_call 39; (with_reducible refine (stringslite_Index.calls a0 a1 t127 _ A3.out).mono ?_); rintro e w' ⟨rfl, ⟨nd, rfl⟩⟩; (try first | exact ⟨rfl, _, World.drewN_drewN _ _ _⟩ | exact ⟨rfl, _, Eq.trans (World.drewN_drewN _ _ _) (congrArg (World.drewN _) (Nat.add_assoc _ _ _))⟩))))
            go_ret3
            exact ⟨by first | rfl | (simp; done) | (simp only [← hji7] <;> (first | rfl | simp)) | (simp [*]; done) | (simp [q_ne_nil]; done), by repeat (first | exact Drawn0.refl _ | apply Drawn0.step)⟩
          · rw [if_neg c9] at H
            exact absurd H (by simp)
        · rw [if_neg c8] at H
          exact absurd H (by simp)
      · rw [if_neg c6] at H
        exact absurd H (by simp)
    · rw [if_neg c5] at H
      exact absurd H (by simp)
  · rw [if_neg c4] at H
    have c4b0 : decide (0 ≤ t127) = false := decide_eq_false c4
    clear c4
    simp only [Option.some.injEq, Prod.mk.injEq] at H
    obtain ⟨rfl, rfl, rfl⟩ := H
    go_enter Tryd.func32, Tryd.ntmps32
    go_wp2_with (first | (go_at_call 39; (with_reducible refine (stringslite_Index.calls a0 a1 t127 _ A3.out).mono ?_); rintro e w' ⟨rfl, ⟨nd, rfl⟩⟩; (try first | exact ⟨rfl, _, World.drewN_drewN _ _ _⟩ | exact ⟨rfl, _, Eq.trans (World.drewN_drewN _ _ _) (congrArg (World.drewN _) (Nat.add_assoc _ _ _))⟩)))
    repeat (go_quiet (first | (go_at_call 39; (with_reducible refine (stringslite_Index.calls a0 a1 t127 _ A3.out).mono ?_); rintro e w' ⟨rfl, ⟨nd, rfl⟩⟩; (try first | exact ⟨rfl, _, World.drewN_drewN _ _ _⟩ | exact ⟨rfl, _, Eq.trans (World.drewN_drewN _ _ _) (congrArg (World.drewN _) (Nat.add_assoc _ _ _))⟩))); try go_wp2_with (first | (go_at_call 39; (with_reducible refine (stringslite_Index.calls a0 a1 t127 _ A3.out).mono ?_); rintro e w' ⟨rfl, ⟨nd, rfl⟩⟩; (try first | exact ⟨rfl, _, World.drewN_drewN _ _ _⟩ | exact ⟨rfl, _, Eq.trans (World.drewN_drewN _ _ _) (congrArg (World.drewN _) (Nat.add_assoc _ _ _))⟩))))
    go_ret3
    exact ⟨by first | rfl | (simp; done) | (simp [*]; done) | (simp [q_ne_nil]; done), by repeat (first | exact Drawn0.refl _ | apply Drawn0.step)⟩

/-! ### strings_Cut: function 23 -/
def strings_Cut.f (a0 : ByteArray) (a1 : ByteArray) : Option (ByteArray × ByteArray × Bool) := (stringslite_Cut.f a0 a1).bind fun bt128 => (some (bt128.1, bt128.2.1, bt128.2.2))
set_option maxHeartbeats 8000000 in
set_option maxRecDepth 100000 in
theorem strings_Cut.calls (a0 : ByteArray) (a1 : ByteArray) (r1 : ByteArray) (r2 : ByteArray) (r3 : Bool) (w : World) (h : strings_Cut.f a0 a1 = some (r1, r2, r3)) :
    Calls Tryd.prog 23 #[.string a0, .string a1] w fun e w' => e = .returned (.tuple #[.string r1, .string r2, .bool r3]) ∧ Drawn0 w w' := by
  have H : ((stringslite_Cut.f a0 a1).bind fun bt128 => (some (bt128.1, bt128.2.1, bt128.2.2))) = some (r1, r2, r3) := h
  clear h
  replace H := Option.bind_eq_some_iff.mp H
  obtain ⟨⟨t128, t129, t130⟩, A30, H⟩ := H
  replace H : (some (t128, t129, t130)) = some (r1, r2, r3) := H
  have A3 := Aside0.mk A30
  clear A30
  simp only [Option.some.injEq, Prod.mk.injEq] at H
  obtain ⟨rfl, rfl, rfl⟩ := H
  go_enter Tryd.func23, Tryd.ntmps23
  go_wp2_with (first | ((with_reducible refine gate_callee (f := 32) rfl ?_); refine goesL_ (some 9) rfl rfl Tryd.func32 (by kernel_rfl) rfl #[.string a0, .string a1] rfl (by (try simp only [List.map_toArray, List.map_cons, List.map_nil]); first | done | rfl | (simp only [List.length_drop, List.length_take]; rfl)) ?_; (with_reducible refine (stringslite_Cut.calls a0 a1 t128 t129 t130 _ A3.out).mono ?_); rintro e w' ⟨rfl, ⟨nd, rfl⟩⟩; refine ⟨_, rfl, ?_⟩))
  go_ret3
  exact ⟨by first | rfl | (simp; done) | (simp [*]; done) | (simp [q_ne_nil]; done), by repeat (first | exact Drawn0.refl _ | apply Drawn0.step)⟩

/-! ### octet_Lower: function 24 -/
/-- A letter A to Z made small. -/
def lowByte (c : Int) : Int := if 65 ≤ c ∧ c ≤ 90 then c + 32 else c
def lowBA (s : ByteArray) : ByteArray := strOfNums ((bytesOf s).map lowByte)
theorem lowByte_range (c : Int) (h0 : 0 ≤ c) (h1 : c ≤ 255) : 0 ≤ lowByte c ∧ lowByte c ≤ 255 := by
  unfold lowByte; split <;> omega
/-- The world after k rounds of making small: the new row's bytes below k are small, the others as they came. -/
structure LowAt (w W : World) (s : ByteArray) (k : Nat) : Prop where
  below : Below w.heap.size w W
  size : W.heap.size = w.heap.size + 1
  cell : ∀ j, j < s.size → W.cell? ⟨w.heap.size, j, none⟩ = some (.int .u8 (if j < k then lowByte (bt s j) else bt s j))
  free : ∀ j, j < s.size → W.frozen? ⟨w.heap.size, j, none⟩ = false
theorem bt_nat (s : ByteArray) (j : Nat) : bt s (j : Int) = ((s.data.toList.getD j 0).toNat : Int) := by
  unfold bt
  split
  · rename_i h
    have h' : j < s.data.toList.length := by rw [data_length]; simpa using h
    simp [List.getD_eq_getElem?_getD, List.getElem?_eq_getElem h']
    rfl
  · rename_i h
    have h' : s.data.toList.length ≤ j := by rw [data_length]; simp at h; omega
    simp [List.getD_eq_getElem?_getD, List.getElem?_eq_none h']
theorem LowAt.start (w : World) (e : TypeId) (s : ByteArray) : LowAt w (Lib.bytesWorld w e s) s 0 where
  below := bytes_below (Below.refl _ _) (Nat.le_refl _) e s
  size := Lib.bytesWorld_size w e s
  cell := fun j hj => by rw [Lib.bytesWorld_cell w e s j hj, if_neg (by omega), bt_nat]
  free := fun j hj => by
    have h1 : s.size ≤ (Lib.bytesCells w e s).size := by
      simp only [Lib.bytesCells, Array.size_append, Array.size_map]
      exact Nat.le_add_right _ _
    simp [World.frozen?, Lib.bytesWorld_at_new]
    omega
theorem LowAt.drew {w W : World} {s : ByteArray} {k : Nat} (h : LowAt w W s k) : LowAt w W.drew s k :=
  ⟨below_drew h.below, h.size, h.cell, h.free⟩
theorem LowAt.same {w W : World} {s : ByteArray} {k : Nat} (h : LowAt w W s k) (hs : lowByte (bt s k) = bt s k) : LowAt w W s (k + 1) where
  below := h.below
  size := h.size
  cell := fun j hj => by
    rw [h.cell j hj]
    rcases Nat.lt_trichotomy j k with h1 | h1 | h1
    · rw [if_pos h1, if_pos (by omega)]
    · subst h1; rw [if_neg (by omega), if_pos (by omega), hs]
    · rw [if_neg (by omega), if_neg (by omega)]
  free := h.free
theorem LowAt.store {w W : World} {s : ByteArray} {k : Nat} (h : LowAt w W s k) (hk : k < s.size) : LowAt w (W.setCell ⟨w.heap.size, k, none⟩ (.int .u8 (lowByte (bt s k)))) s (k + 1) where
  below := h.below.setCell (Nat.le_refl _) _
  size := by rw [← h.size]; simp [World.setCell]
  cell := fun j hj => by
    by_cases e : j = k
    · subst e; rw [World.cell?_setCell_same _ _ _ (h.cell j hj), if_pos (by omega)]
    · rw [World.cell?_setCell_other _ _ _ _ (by intro e'; injection e' with _ e' _; exact e e'.symm), h.cell j hj]
      by_cases h1 : j < k
      · rw [if_pos h1, if_pos (by omega)]
      · rw [if_neg h1, if_neg (by omega)]
  free := fun j hj => by rw [← h.free j hj]; simp [go_sem]
theorem LowAt.done {P : Program} {src dst e : TypeId} (hs : P.underlying src = some (.slice e)) (he : P.underlying e = some (.int .u8)) (hd : P.underlying dst = some .string)
    {w W : World} {s : ByteArray} (h : LowAt w W s s.size) (c : Nat) :
    (convert src dst (.slice (some ⟨w.heap.size, 0, none⟩) s.size c)).run P W = .ok (.string (lowBA s)) W := by
  refine run_convert_bytes_arg W src e hs he w.heap.size 0 s.size c _ (by rw [List.length_map, bytesOf_length]) (fun i hi => ?_) dst hd
  rw [Nat.zero_add, h.cell i hi, if_pos hi]
  have h1 : i < (bytesOf s).length := by rw [bytesOf_length]; exact hi
  have h2 : rd (bytesOf s) i = bt s i := rd_bytesOf s i
  simp only [rd, Int.toNat_natCast] at h2
  rw [List.getD_eq_getElem?_getD, List.getElem?_map, ← h2, List.getD_eq_getElem?_getD]
  simp [List.getElem?_eq_getElem h1]
theorem low_or : ∀ c : Int, 65 ≤ c → c ≤ 90 → Go.bits .or .u8 c 32 = c + 32 := by
  intro c h0 h1
  obtain ⟨n, rfl⟩ := Int.eq_ofNat_of_zero_le (by omega : 0 ≤ c)
  have h2 : n < 91 := by omega
  have h3 : 65 ≤ n := by omega
  revert h3
  exact (by decide : ∀ n : Nat, n < 91 → 65 ≤ n → Go.bits .or .u8 (n : Int) 32 = (n : Int) + 32) n h2
def octet_Lower.f (a0 : ByteArray) : Option ByteArray := if a0.size ≤ 281474976710656 then some (lowBA a0) else none
set_option maxHeartbeats 1000000 in
set_option maxRecDepth 100000 in
theorem octet_Lower.calls (a0 : ByteArray) (r : ByteArray) (w : World) (h : octet_Lower.f a0 = some r) :
    Calls Tryd.prog 24 #[.string a0] w fun e w' => e = .returned (.string r) ∧ Below w.heap.size w w' := by
  unfold octet_Lower.f at h
  split at h
  · rename_i hsz
    obtain rfl := Option.some.inj h
    clear h
    have kb := fun W => print_bytes (P := Tryd.prog) 9 59 5 Tryd.underlying9 Tryd.underlying59 Tryd.underlying5 a0 W
    go_enter Tryd.func24, Tryd.ntmps24
    go_wp2
    generalize grownCap w a0.size 0 5 = cap
    go_loopw [4, 5, 10] (fun v4 v5 v10 wr => ∃ k : Nat, k ≤ a0.size ∧ v10 = .int .i64 k ∧ LowAt w wr a0 k) (fun v4 v5 v10 _ => a0.size - (intOf v10).toNat)
    case atStart => exact ⟨0, Nat.zero_le _, rfl, LowAt.start w _ a0⟩
    case round =>
      clear kb
      obtain ⟨k, hk, rfl, hL⟩ := hrel
      by_cases hlt : k < a0.size
      · have hcell : wr.cell? ⟨w.heap.size, k, none⟩ = some (.int .u8 (bt a0 k)) := by rw [hL.cell k hlt, if_neg (by omega)]
        have hfree := hL.free k hlt
        obtain ⟨hb0, hb1⟩ := bt_range a0 k
        have hS := Aside0.mk (hL.store hlt)
        have hN := Aside0.mk (fun e => hL.same (k := k) e)
        generalize hc : bt a0 k = c at hcell hb0 hb1 hS hN
        clear hc
        have HL := Aside0.mk hL
        clear hL
        by_cases hu1 : 65 ≤ c
        · by_cases hu2 : c ≤ 90
          · have hl : lowByte c = c + 32 := by unfold lowByte; rw [if_pos ⟨hu1, hu2⟩]
            have hor := low_or c hu1 hu2
            rw [hl] at hS
            clear hl hN
            go_wp2
            go_roundw
            case rel => exact ⟨k + 1, by omega, by go_num, hS.out⟩
            case measure => simp [intOf]; omega
          · have hl : lowByte c = c := by unfold lowByte; rw [if_neg (by omega)]
            clear hS
            have hN' := Aside0.mk (hN.out hl)
            clear hN hl
            go_wp2
            go_roundw
            case rel => exact ⟨k + 1, by omega, by go_num, hN'.out⟩
            case measure => simp [intOf]; omega
        · have hl : lowByte c = c := by unfold lowByte; rw [if_neg (by omega)]
          clear hS
          have hN' := Aside0.mk (hN.out hl)
          clear hN hl
          go_wp2
          go_roundw
          case rel => exact ⟨k + 1, by omega, by go_num, hN'.out⟩
          case measure => simp [intOf]; omega
      · obtain rfl : k = a0.size := by omega
        have hd := fun c => hL.done (P := Tryd.prog) (src := 59) (dst := 9) (e := 5) Tryd.underlying59 Tryd.underlying5 Tryd.underlying9 c
        go_wp2
        go_ret
        exact ⟨rfl, hL.below⟩
  · cases h


/-! ### urlp_ports: function 25 -/
/-- A text as a map's key. -/
def keyP (s : ByteArray) : Lit := .string s.data.toList
theorem keyP_inj {s t : ByteArray} (h : keyP s = keyP t) : s = t := by
  unfold keyP at h
  injection h with h
  exact ByteArray.ext (Array.toList_inj.1 h)
theorem keyP_is (s : ByteArray) : WideAt.IsKeyLit (keyP s) := trivial
theorem insert_ownP {H : Type} {P : Program} (w : World) {ops : Array Oper} {rest : List Oper} {o : Oper} {a : Act} {Q : Exit → Act → World → Prop}
    (hg : o.guard = none) (m x v : Operand) (t : TypeId) (hop : o.op = Op.insert t m x v)
    (k e : TypeId) (K : Go.Maps.Keyed P k) (ht : P.underlying t = some (.map k e)) (R : Value → Option (DataW H × List MemPlace)) (b n : Nat) (D : DataW H)
    (hm : a.eval m = .map (some b)) (hown : w.ownsMap P k R b n D) (hn : n < maxLen) (key val : Value) (kl : Lit) (hx : a.eval x = key) (hv : a.eval v = val) (hkey : keyOf P k key = some kl)
    (d : DataW H) (ps : List MemPlace) (hval : R val = some (d, ps))
    (hK : ∀ w', w'.ownsMap P k R b (n + 1) (D.put kl d) → w.grownBy w' (some b) → wpList P ops Q rest (a.put o.dst undef) w') :
    wpList P ops Q (o :: rest) a w := by
  refine wpList_plain hg fun K' hK' => ?_
  obtain ⟨w', hrun, r1, r2⟩ := hown.update K ht hn hkey hval
  unfold Oper.wp
  simp [execOp, hop, hm, hx, hv, hrun, Result.andThen]
  exact hK' _ _ (hK w' r1 r2)
/-- What grows in a block of its own leaves what lay there. -/
theorem below_grownP {B b : Nat} {w W W' : World} (h : Below B w W) (hg : W.grownBy W' (some b)) (hB : B ≤ b) (hs : B ≤ W.heap.size) : Below B w W' :=
  ⟨hg.os.trans h.os, hg.tape.trans h.tape, hg.output.trans h.output, Nat.le_trans h.size hg.size, fun k hk => (hg.block k (by omega) (by intro e; cases e; omega)).trans (h.block k hk)⟩
def litI (c : Int) : DataW Unit := .lit (.int .i64 c)
def portsD : DataW Unit := (((((DataW.map []).put (keyP ⟨#[104, 116, 116, 112]⟩) (litI 80)).put (keyP ⟨#[104, 116, 116, 112, 115]⟩) (litI 443)).put (keyP ⟨#[97, 98, 111, 117, 116]⟩) (litI (-1))).put (keyP ⟨#[100, 97, 116, 97]⟩) (litI (-1))).put (keyP ⟨#[98, 108, 111, 98]⟩) (litI (-1))
def ownD : DataW Unit := ((DataW.map []).put (keyP ⟨#[104, 116, 116, 112]⟩) (litI 80)).put (keyP ⟨#[104, 116, 116, 112, 115]⟩) (litI 443)
def valAt (D : DataW Unit) (s : ByteArray) : Int := match D.atKey (keyP s) (litI 0) with
  | .lit (.int _ c) => c
  | _ => 0
set_option maxHeartbeats 2000000 in
set_option maxRecDepth 100000 in
theorem ports_map (w : World) :
    Calls Tryd.prog 25 #[] w fun e w' => e = .returned (.map (some w.heap.size)) ∧ w'.ownsMap Tryd.prog 9 (plainElem Tryd.prog 3) w.heap.size 5 portsD ∧ Below w.heap.size w w' := by
  have hmm := @run_makeMap Tryd.prog
  have kd : ∀ s : ByteArray, s.size ≤ 281474976710656 → keyOf Tryd.prog 9 (.string s) = some (keyP s) := fun s hs => WideMaps.keyOf_string_mk Tryd.underlying9 (by unfold maxLen; omega)
  have hown := World.ownsMap_made (H := Unit) w Tryd.prog 9 (plainElem Tryd.prog 3)
  have hbw := below_alloc (Below.refl w.heap.size w) (.map #[] 0)
  have hsz : w.heap.size < (w.alloc (.map #[] 0)).heap.size := by simp
  go_enter Tryd.func25, Tryd.ntmps25
  go_wp2_with (first | (refine insert_ownP _ rfl _ _ _ 51 rfl 9 3 (Go.Maps.string_keyed Tryd.underlying9) Tryd.underlying51 _ _ _ _ rfl hown (by unfold maxLen; omega) _ _ _ rfl rfl (kd _ (by decide)) _ [] (plainElem_int Tryd.underlying3 (by decide)) ?_; intro w2 hown2 hgrow2; replace hbw := below_grownP hbw hgrow2 (Nat.le_refl _) (by omega); replace hsz := Nat.lt_of_lt_of_le hsz hgrow2.size; replace hown := hown2; clear hown2 hgrow2))
  go_ret
  exact ⟨rfl, hown, hbw⟩
theorem valAt_is {W : World} {b n : Nat} {D : DataW Unit} (hown : W.ownsMap Tryd.prog 9 (plainElem Tryd.prog 3) b n D) (s : ByteArray) (hs : s.size ≤ 281474976710656) :
    (Instr.lookup 51 (.map (some b)) (.string s) true).run Tryd.prog W = .ok (.tuple #[.int .i64 (valAt D s), .bool (Go.Maps.has D (keyP s))]) W ∧ (Instr.lookup 51 (.map (some b)) (.string s) false).run Tryd.prog W = .ok (.int .i64 (valAt D s)) W := by
  have kd : keyOf Tryd.prog 9 (.string s) = some (keyP s) := WideMaps.keyOf_string_mk Tryd.underlying9 (by unfold maxLen; omega)
  have zE : (zeroValue 3).run Tryd.prog W = .ok (.int .i64 0) W := by kernel_rfl
  obtain ⟨v, ps, hrun, hv⟩ := hown.look_ok (Go.Maps.string_keyed Tryd.underlying9) Tryd.underlying51 zE (plainElem_int Tryd.underlying3 (by decide)) kd
  obtain ⟨c, rfl, hc, hwc⟩ := plainElem_int_inv Tryd.underlying3 hv
  simp only [Prod.mk.injEq] at hc
  obtain ⟨c2, hrun2, hc2, _⟩ := hown.lookup_int (Go.Maps.string_keyed Tryd.underlying9) Tryd.underlying51 Tryd.underlying3 zE kd
  have e1 : valAt D s = c := by unfold valAt litI; rw [hc.1]
  have e2 : valAt D s = c2 := by unfold valAt litI; rw [hc2]
  exact ⟨by rw [e1]; exact hrun, by rw [e2]; exact hrun2⟩


/-! ### strings_IndexByte: function 33 -/
def strings_IndexByte.f (a0 : ByteArray) (a1 : Int) : Option Int := some (Lib.indexByte a0.data.toList a1.toNat.toUInt8)
theorem strings_IndexByte.calls (a0 : ByteArray) (a1 : Int) (r : Int) (w : World) (h : strings_IndexByte.f a0 a1 = some r) :
    Calls Tryd.prog 33 #[.string a0, .int .u8 a1] w fun e w' => e = .returned (.int .i64 r) ∧ Drawn0 w w' := by
  obtain rfl := Option.some.inj h
  exact (Tryd.strings_IndexByte a0 a1 w).mono fun e w' ⟨h1, h2⟩ => ⟨h1, by subst h2; exact Drawn0.refl _⟩


end Go.Proofs.YtabjpoapnbkljaaDoor.Q
