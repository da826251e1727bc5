/- The law SfitemTells: contracts, words and plain lemmas that its proof reaches, part 4. Its conditions: the row's own. -/
import Derived.Test.YtbbaokjkmcfceaaGreatDoorZt3
namespace Go.Proofs.YtbbaokjkmcfceaaGreatDoor.Q
open Go.RowKit Go.Proofs.YtbbaokjkmcfceaaGreatDoorW.PrintWords Go.Proofs.YtbbaokjkmcfceaaGreatDoorW.PrintLast Go.Proofs.YtbbaokjkmcfceaaGreatDoorW.PrintMore
set_option linter.unusedVariables false
set_option linter.unusedSimpArgs false
mutual
def glacislaw05_few.j0 : Nat → Bool → Int → Int → ByteArray → List (S43) → Option (Bool)
  | 0, _, _, _, _, _ => none
  | k + 1, x13, x300000, x300001, x300002, x300003 => if x13 = true then (some false) else (glacislaw05_few.l0 k 0 x300000 x300001 x300002 x300003)
def glacislaw05_few.l0 : Nat → Int → Int → Int → ByteArray → List (S43) → Option (Bool)
  | 0, _, _, _, _, _ => none
  | k + 1, x3, x300000, x300001, x300002, x300003 => if x3 < (x300003.length : Int) then (if 0 ≤ x3 then (if (((rd_T43 x300003 x3).f0).size : Int) > 1000 then (some false) else (if (((rd_T43 x300003 x3).f3).size : Int) > 1000 then (some false) else (glacislaw05_few.l0 k (wrap64 (x3 + 1)) x300000 x300001 x300002 x300003))) else (none)) else (some true)
end
def glacislaw05_few.f (k : Nat) (a0_0 : Int) (a0_1 : Int) (a0_2 : ByteArray) (l0_3 : List (S43)) : Option (Bool) := if (l0_3.length : Int) > 100 then (glacislaw05_few.j0 k true a0_0 a0_1 a0_2 l0_3) else (glacislaw05_few.j0 k (decide ((a0_2.size : Int) > 1000)) a0_0 a0_1 a0_2 l0_3)
set_option maxHeartbeats 8000000 in
set_option maxRecDepth 100000 in
theorem glacislaw05_few.calls (k : Nat) (a0_0 : Int) (a0_1 : Int) (a0_2 : ByteArray) (A0_3 : Option Addr) (c0_3 : Nat) (l0_3 : List (S43)) (r : Bool) (w : World) (hr0_3 : Kd.C k43 w A0_3 l0_3.length l0_3) (hc0_3 : l0_3.length ≤ c0_3) (h : glacislaw05_few.f k a0_0 a0_1 a0_2 l0_3 = some r) :
    Calls Tryz.prog 10 #[.agg #[.int .i64 a0_0, .int .i64 a0_1, .string a0_2, .slice A0_3 l0_3.length c0_3]] w fun e w' => e = .returned (.bool r) ∧ Below w.heap.size w w' := by
  have hu25 := Tryz.underlying25
  have HR0_3 := Aside0.mk hr0_3
  have HC0_3 := Aside0.mk hc0_3
  clear hr0_3 hc0_3
  have HB := Aside0.mk (Below.refl w.heap.size w)
  have H : (if (l0_3.length : Int) > 100 then (glacislaw05_few.j0 k true a0_0 a0_1 a0_2 l0_3) else (glacislaw05_few.j0 k (decide ((a0_2.size : Int) > 1000)) a0_0 a0_1 a0_2 l0_3)) = some r := h
  clear h
  have HC2 := Aside0.mk H
  clear H
  go_enter Tryz.func10, Tryz.ntmps10
  go_upto_region 1 with (first | ((with_reducible refine gate_dst (N := 1) rfl ?_); (try (refine gate_guard (by rfl) ?_; dsimp only)); refine box_event ?hg (N := 1) ?hd (cs := #[.int .i64 a0_0, .int .i64 a0_1, .string a0_2, .slice A0_3 l0_3.length c0_3]) (t := 25) ?hr ?_; (case hd => rfl); (case hg => rfl); (case hr => first | (go_simp; done) | (go_simp; rfl)); intro gb299 hg w3 hbox hb; have n0_ := Aside0.mk (below_step (by repeat (first | (with_reducible first | exact HB.out | apply below_alloc | apply pw_below_drewN | apply below_drew1) | exact HB.out)) hb); have n1_ := Aside0.mk (hbox); have n2_ := Aside0.mk ((by rw [hg]; exact (below_size (by repeat (first | (with_reducible first | exact HB.out | apply below_alloc | apply pw_below_drewN | apply below_drew1) | exact HB.out))) : w.heap.size ≤ gb299)); have n3_ := Aside0.mk ((by rw [hg]; exact (below_size (by repeat (first | (with_reducible first | exact HB.out | apply below_alloc | apply pw_below_drewN | apply below_drew1) | exact HB.out))) : w.heap.size ≤ gb299)); clear HB; have HB := n0_; have BK299 := n1_; have GW299 := n2_; have GE299 := n3_; clear n0_ n1_ n2_ n3_; clear hb hbox hg))
  (try simp only [Act.put, List.setIfInBounds_toArray, List.set_cons_zero, List.set_cons_succ])
  go_cut [13] (fun v13 wc => ∃ (kq : Nat) (x13_1 : Bool), v13 = .bool x13_1 ∧ Aside0 (glacislaw05_few.j0 kq x13_1 a0_0 a0_1 a0_2 l0_3 = some r) ∧ Aside0 (kq ≤ k) ∧ Aside0 (wc.heap[gb299]? = some (.cells #[.int .i64 a0_0, .int .i64 a0_1, .string a0_2, (.slice A0_3 l0_3.length c0_3)] 25 (0, 0))) ∧ Aside0 (Below w.heap.size w wc))
  case first =>
    have H := HC2.out
    clear HC2
    by_cases c4 : (l0_3.length : Int) > 100
    · rw [if_pos c4] at H
      have c4b0 : decide (100 < (l0_3.length : Int)) = true := decide_eq_true c4
      have c4b1 : decide (100 < l0_3.length) = true := decide_eq_true (by omega)
      clear c4
      (first | rw [c4b0] | (simp only [i64_w, i32_w]; rw [c4b0]) | skip)
      have H' := Aside0.mk H
      clear H
      have hcz5_0 : w3.cell? ⟨gb299, 0, none⟩ = some (.int .i64 a0_0) := (blk_cell BK299.out 0).trans rfl
      have hcz5_1 : w3.cell? ⟨gb299, 1, none⟩ = some (.int .i64 a0_1) := (blk_cell BK299.out 1).trans rfl
      have hcz5_2 : w3.cell? ⟨gb299, 2, none⟩ = some (.string a0_2) := (blk_cell BK299.out 2).trans rfl
      have hcz5_3 : w3.cell? ⟨gb299, 3, none⟩ = some (.slice A0_3 l0_3.length c0_3) := (blk_cell BK299.out 3).trans rfl
      have hfz5_0 := blk_frozen BK299.out 0
      have hfz5_1 := blk_frozen BK299.out 1
      have hfz5_2 := blk_frozen BK299.out 2
      have hfz5_3 := blk_frozen BK299.out 3
      go_wp2
      go_meet
      case rel => exact ⟨_, (true), (by first | rfl | (simp; done) | (simp [*]; done) | (simp [q_ne_nil]; done)), H', ⟨by first | omega | exact Nat.le_refl _⟩, ⟨by (with_reducible repeat (first | refine blk_drewN ?_ _ | refine blk_drew ?_ | refine blk_alloc ?_ _)); exact BK299.out⟩, ⟨by repeat (first | (with_reducible first | exact HB.out | apply below_alloc | apply pw_below_drewN | apply below_drew1 | refine below_set ?_ GE299.out) | exact HB.out)⟩⟩
    · rw [if_neg c4] at H
      have c4b0 : decide (100 < (l0_3.length : Int)) = false := decide_eq_false c4
      have c4b1 : decide (100 < l0_3.length) = false := decide_eq_false (by omega)
      clear c4
      (first | rw [c4b0] | (simp only [i64_w, i32_w]; rw [c4b0]) | skip)
      have H' := Aside0.mk H
      clear H
      have hcz6_0 : w3.cell? ⟨gb299, 0, none⟩ = some (.int .i64 a0_0) := (blk_cell BK299.out 0).trans rfl
      have hcz6_1 : w3.cell? ⟨gb299, 1, none⟩ = some (.int .i64 a0_1) := (blk_cell BK299.out 1).trans rfl
      have hcz6_2 : w3.cell? ⟨gb299, 2, none⟩ = some (.string a0_2) := (blk_cell BK299.out 2).trans rfl
      have hcz6_3 : w3.cell? ⟨gb299, 3, none⟩ = some (.slice A0_3 l0_3.length c0_3) := (blk_cell BK299.out 3).trans rfl
      have hfz6_0 := blk_frozen BK299.out 0
      have hfz6_1 := blk_frozen BK299.out 1
      have hfz6_2 := blk_frozen BK299.out 2
      have hfz6_3 := blk_frozen BK299.out 3
      go_wp2
      go_meet
      case rel => exact ⟨_, (decide ((a0_2.size : Int) > 1000)), (by first | rfl | (simp; done) | (simp [*]; done) | (simp [q_ne_nil]; done)), H', ⟨by first | omega | exact Nat.le_refl _⟩, ⟨by (with_reducible repeat (first | refine blk_drewN ?_ _ | refine blk_drew ?_ | refine blk_alloc ?_ _)); exact BK299.out⟩, ⟨by repeat (first | (with_reducible first | exact HB.out | apply below_alloc | apply pw_below_drewN | apply below_drew1 | refine below_set ?_ GE299.out) | exact HB.out)⟩⟩
  case rest =>
    clear HC2
    try clear c1
    try clear p2
    try clear c4
    try clear c4b0
    try clear c4b1
    try clear hcz5_0
    try clear hcz5_1
    try clear hcz5_2
    try clear hcz5_3
    try clear hcz6_0
    try clear hcz6_1
    try clear hcz6_2
    try clear hcz6_3
    try clear hfz5_0
    try clear hfz5_1
    try clear hfz5_2
    try clear hfz5_3
    try clear hfz6_0
    try clear hfz6_1
    try clear hfz6_2
    try clear hfz6_3
    obtain ⟨kq, x13_1, rfl, HA, HJ1, BK299, HB⟩ := hcut
    cases kq with
    | zero => exact absurd HA.out (by simp [glacislaw05_few.j0])
    | succ kj1 =>
      have H := HA.out
      clear HA
      simp only [glacislaw05_few.j0] at H
      by_cases c7 : x13_1 = true
      · subst c7
        have H1 : (some false) = some r := by rw [if_pos rfl] at H; exact H
        clear H
        have H := H1
        clear H1
        obtain rfl := Option.some.inj H
        go_wp2
        go_ret
        exact ⟨by first | rfl | (simp [errW_none, errW_some] <;> rfl) | (simp [*, errW_none, errW_some] <;> rfl) | (simp [q_ne_nil]; done), by repeat (first | (with_reducible first | exact HB.out | apply below_alloc | apply pw_below_drewN | apply below_drew1 | refine below_set ?_ GE299.out) | exact HB.out)⟩
      · replace c7 := Bool.eq_false_iff.mpr c7
        subst c7
        have H1 : (glacislaw05_few.l0 kj1 0 a0_0 a0_1 a0_2 l0_3) = some r := by rw [if_neg (show ¬ (false = true) by decide)] at H; exact H
        clear H
        have H := H1
        clear H1
        have H' := Aside0.mk H
        clear H
        go_wp2
        go_loopg [3] kj1 (fun kq v3 w' => ∃ (x3_2 : Int), v3 = .int .i64 x3_2 ∧ Aside0 (glacislaw05_few.l0 kq x3_2 a0_0 a0_1 a0_2 l0_3 = some r) ∧ Aside0 (kq ≤ kj1) ∧ Aside0 (w'.heap[gb299]? = some (.cells #[.int .i64 a0_0, .int .i64 a0_1, .string a0_2, (.slice A0_3 l0_3.length c0_3)] 25 (0, 0))) ∧ Aside0 (Below w.heap.size w w'))
        case atStart => exact ⟨(0), (by first | rfl | (simp; done) | (simp [*]; done) | (simp [q_ne_nil]; done)), H', ⟨Nat.le_refl _⟩, ⟨by (with_reducible repeat (first | refine blk_drewN ?_ _ | refine blk_drew ?_ | refine blk_alloc ?_ _)); exact BK299.out⟩, ⟨by repeat (first | (with_reducible first | exact HB.out | apply below_alloc | apply pw_below_drewN | apply below_drew1 | refine below_set ?_ GE299.out) | exact HB.out)⟩⟩
        case round =>
          clear H'
          try clear c1
          try clear p2
          try clear c4
          try clear c4b0
          try clear c4b1
          try clear c7
          try clear hcz5_0
          try clear hcz5_1
          try clear hcz5_2
          try clear hcz5_3
          try clear hcz6_0
          try clear hcz6_1
          try clear hcz6_2
          try clear hcz6_3
          try clear hfz5_0
          try clear hfz5_1
          try clear hfz5_2
          try clear hfz5_3
          try clear hfz6_0
          try clear hfz6_1
          try clear hfz6_2
          try clear hfz6_3
          try clear p2
          obtain ⟨x3_2, rfl, HA, HK2, BK299, HB⟩ := hrel
          cases gk with
          | zero => exact absurd HA.out (by simp [glacislaw05_few.l0])
          | succ k2 =>
            have H := HA.out
            clear HA
            simp only [glacislaw05_few.l0] at H
            by_cases c8 : x3_2 < (l0_3.length : Int)
            · rw [if_pos c8] at H
              have c8b0 : decide (x3_2 < (l0_3.length : Int)) = true := decide_eq_true c8
              clear c8
              by_cases c9 : 0 ≤ x3_2
              · rw [if_pos c9] at H
                have c9b0 : decide (0 ≤ x3_2) = true := decide_eq_true c9
                clear c9
                by_cases c10 : (((rd_T43 l0_3 x3_2).f0).size : Int) > 1000
                · rw [if_pos c10] at H
                  have c10b0 : decide (1000 < (((rd_T43 l0_3 x3_2).f0).size : Int)) = true := decide_eq_true c10
                  have c10b1 : decide (1000 < ((rd_T43 l0_3 x3_2).f0).size) = true := decide_eq_true (by omega)
                  clear c10
                  obtain rfl := Option.some.inj H
                  have hcz11_0 : wr.cell? ⟨gb299, 0, none⟩ = some (.int .i64 a0_0) := (blk_cell BK299.out 0).trans rfl
                  have hcz11_1 : wr.cell? ⟨gb299, 1, none⟩ = some (.int .i64 a0_1) := (blk_cell BK299.out 1).trans rfl
                  have hcz11_2 : wr.cell? ⟨gb299, 2, none⟩ = some (.string a0_2) := (blk_cell BK299.out 2).trans rfl
                  have hcz11_3 : wr.cell? ⟨gb299, 3, none⟩ = some (.slice A0_3 l0_3.length c0_3) := (blk_cell BK299.out 3).trans rfl
                  have hfz11_0 := blk_frozen BK299.out 0
                  have hfz11_1 := blk_frozen BK299.out 1
                  have hfz11_2 := blk_frozen BK299.out 2
                  have hfz11_3 := blk_frozen BK299.out 3
                  have p300 : 0 ≤ (x3_2 : Int) := of_decide_eq_true (by first | (with_reducible assumption) | assumption)
                  have q300 : x3_2 < (l0_3.length : Int) := of_decide_eq_true (by first | (with_reducible assumption) | assumption)
                  obtain ⟨ad300, e300, hx300_0, hx300_1, hx300_2, hx300_3⟩ := at_T43 HR0_3.out x3_2 p300 q300
                  cases e300
                  replace hx300_0 := (HB.out.cell (World.block_lt_of_cell? w _ hx300_0)).trans hx300_0
                  replace hx300_1 := (HB.out.cell (World.block_lt_of_cell? w _ hx300_1)).trans hx300_1
                  replace hx300_2 := (HB.out.cell (World.block_lt_of_cell? w _ hx300_2)).trans hx300_2
                  replace hx300_3 := (HB.out.cell (World.block_lt_of_cell? w _ hx300_3)).trans hx300_3
                  replace p300 := eq_true p300
                  replace q300 := eq_true q300
                  go_wp2
                  go_ret
                  exact ⟨by first | rfl | (simp [errW_none, errW_some] <;> rfl) | (simp [*, errW_none, errW_some] <;> rfl) | (simp [q_ne_nil]; done), by repeat (first | (with_reducible first | exact HB.out | apply below_alloc | apply pw_below_drewN | apply below_drew1 | refine below_set ?_ GE299.out) | exact HB.out)⟩
                · rw [if_neg c10] at H
                  have c10b0 : decide (1000 < (((rd_T43 l0_3 x3_2).f0).size : Int)) = false := decide_eq_false c10
                  have c10b1 : decide (1000 < ((rd_T43 l0_3 x3_2).f0).size) = false := decide_eq_false (by omega)
                  clear c10
                  by_cases c12 : (((rd_T43 l0_3 x3_2).f3).size : Int) > 1000
                  · rw [if_pos c12] at H
                    have c12b0 : decide (1000 < (((rd_T43 l0_3 x3_2).f3).size : Int)) = true := decide_eq_true c12
                    have c12b1 : decide (1000 < ((rd_T43 l0_3 x3_2).f3).size) = true := decide_eq_true (by omega)
                    clear c12
                    obtain rfl := Option.some.inj H
                    have hcz13_0 : wr.cell? ⟨gb299, 0, none⟩ = some (.int .i64 a0_0) := (blk_cell BK299.out 0).trans rfl
                    have hcz13_1 : wr.cell? ⟨gb299, 1, none⟩ = some (.int .i64 a0_1) := (blk_cell BK299.out 1).trans rfl
                    have hcz13_2 : wr.cell? ⟨gb299, 2, none⟩ = some (.string a0_2) := (blk_cell BK299.out 2).trans rfl
                    have hcz13_3 : wr.cell? ⟨gb299, 3, none⟩ = some (.slice A0_3 l0_3.length c0_3) := (blk_cell BK299.out 3).trans rfl
                    have hfz13_0 := blk_frozen BK299.out 0
                    have hfz13_1 := blk_frozen BK299.out 1
                    have hfz13_2 := blk_frozen BK299.out 2
                    have hfz13_3 := blk_frozen BK299.out 3
                    have p300 : 0 ≤ (x3_2 : Int) := of_decide_eq_true (by first | (with_reducible assumption) | assumption)
                    have q300 : x3_2 < (l0_3.length : Int) := of_decide_eq_true (by first | (with_reducible assumption) | assumption)
                    obtain ⟨ad300, e300, hx300_0, hx300_1, hx300_2, hx300_3⟩ := at_T43 HR0_3.out x3_2 p300 q300
                    cases e300
                    replace hx300_0 := (HB.out.cell (World.block_lt_of_cell? w _ hx300_0)).trans hx300_0
                    replace hx300_1 := (HB.out.cell (World.block_lt_of_cell? w _ hx300_1)).trans hx300_1
                    replace hx300_2 := (HB.out.cell (World.block_lt_of_cell? w _ hx300_2)).trans hx300_2
                    replace hx300_3 := (HB.out.cell (World.block_lt_of_cell? w _ hx300_3)).trans hx300_3
                    replace p300 := eq_true p300
                    replace q300 := eq_true q300
                    have p301 : 0 ≤ (x3_2 : Int) := of_decide_eq_true (by first | (with_reducible assumption) | assumption)
                    have q301 : x3_2 < (l0_3.length : Int) := of_decide_eq_true (by first | (with_reducible assumption) | assumption)
                    obtain ⟨ad301, e301, hx301_0, hx301_1, hx301_2, hx301_3⟩ := at_T43 HR0_3.out x3_2 p301 q301
                    obtain rfl : ad300 = ad301 := (by injection e301)
                    replace hx301_0 := (HB.out.cell (World.block_lt_of_cell? w _ hx301_0)).trans hx301_0
                    replace hx301_1 := (HB.out.cell (World.block_lt_of_cell? w _ hx301_1)).trans hx301_1
                    replace hx301_2 := (HB.out.cell (World.block_lt_of_cell? w _ hx301_2)).trans hx301_2
                    replace hx301_3 := (HB.out.cell (World.block_lt_of_cell? w _ hx301_3)).trans hx301_3
                    replace p301 := eq_true p301
                    replace q301 := eq_true q301
                    go_wp2
                    go_ret
                    exact ⟨by first | rfl | (simp [errW_none, errW_some] <;> rfl) | (simp [*, errW_none, errW_some] <;> rfl) | (simp [q_ne_nil]; done), by repeat (first | (with_reducible first | exact HB.out | apply below_alloc | apply pw_below_drewN | apply below_drew1 | refine below_set ?_ GE299.out) | exact HB.out)⟩
                  · rw [if_neg c12] at H
                    have c12b0 : decide (1000 < (((rd_T43 l0_3 x3_2).f3).size : Int)) = false := decide_eq_false c12
                    have c12b1 : decide (1000 < ((rd_T43 l0_3 x3_2).f3).size) = false := decide_eq_false (by omega)
                    clear c12
                    have H' := Aside0.mk H
                    clear H
                    have hcz14_0 : wr.cell? ⟨gb299, 0, none⟩ = some (.int .i64 a0_0) := (blk_cell BK299.out 0).trans rfl
                    have hcz14_1 : wr.cell? ⟨gb299, 1, none⟩ = some (.int .i64 a0_1) := (blk_cell BK299.out 1).trans rfl
                    have hcz14_2 : wr.cell? ⟨gb299, 2, none⟩ = some (.string a0_2) := (blk_cell BK299.out 2).trans rfl
                    have hcz14_3 : wr.cell? ⟨gb299, 3, none⟩ = some (.slice A0_3 l0_3.length c0_3) := (blk_cell BK299.out 3).trans rfl
                    have hfz14_0 := blk_frozen BK299.out 0
                    have hfz14_1 := blk_frozen BK299.out 1
                    have hfz14_2 := blk_frozen BK299.out 2
                    have hfz14_3 := blk_frozen BK299.out 3
                    have p300 : 0 ≤ (x3_2 : Int) := of_decide_eq_true (by first | (with_reducible assumption) | assumption)
                    have q300 : x3_2 < (l0_3.length : Int) := of_decide_eq_true (by first | (with_reducible assumption) | assumption)
                    obtain ⟨ad300, e300, hx300_0, hx300_1, hx300_2, hx300_3⟩ := at_T43 HR0_3.out x3_2 p300 q300
                    cases e300
                    replace hx300_0 := (HB.out.cell (World.block_lt_of_cell? w _ hx300_0)).trans hx300_0
                    replace hx300_1 := (HB.out.cell (World.block_lt_of_cell? w _ hx300_1)).trans hx300_1
                    replace hx300_2 := (HB.out.cell (World.block_lt_of_cell? w _ hx300_2)).trans hx300_2
                    replace hx300_3 := (HB.out.cell (World.block_lt_of_cell? w _ hx300_3)).trans hx300_3
                    replace p300 := eq_true p300
                    replace q300 := eq_true q300
                    have p301 : 0 ≤ (x3_2 : Int) := of_decide_eq_true (by first | (with_reducible assumption) | assumption)
                    have q301 : x3_2 < (l0_3.length : Int) := of_decide_eq_true (by first | (with_reducible assumption) | assumption)
                    obtain ⟨ad301, e301, hx301_0, hx301_1, hx301_2, hx301_3⟩ := at_T43 HR0_3.out x3_2 p301 q301
                    obtain rfl : ad300 = ad301 := (by injection e301)
                    replace hx301_0 := (HB.out.cell (World.block_lt_of_cell? w _ hx301_0)).trans hx301_0
                    replace hx301_1 := (HB.out.cell (World.block_lt_of_cell? w _ hx301_1)).trans hx301_1
                    replace hx301_2 := (HB.out.cell (World.block_lt_of_cell? w _ hx301_2)).trans hx301_2
                    replace hx301_3 := (HB.out.cell (World.block_lt_of_cell? w _ hx301_3)).trans hx301_3
                    replace p301 := eq_true p301
                    replace q301 := eq_true q301
                    go_wp2
                    go_roundg k2
                    case measure => have := HJ1.out; have := HK2.out; omega
                    case rel => exact ⟨(wrap64 (x3_2 + 1)), (by first | rfl | (simp; done) | (simp [*]; done) | (simp [q_ne_nil]; done)), H', ⟨by have := HJ1.out; have := HK2.out; omega⟩, ⟨by (with_reducible repeat (first | refine blk_drewN ?_ _ | refine blk_drew ?_ | refine blk_alloc ?_ _)); exact BK299.out⟩, ⟨by repeat (first | (with_reducible first | exact HB.out | apply below_alloc | apply pw_below_drewN | apply below_drew1 | refine below_set ?_ GE299.out) | exact HB.out)⟩⟩
              · rw [if_neg c9] at H
                exact absurd H (by simp)
            · rw [if_neg c8] at H
              have c8b0 : decide (x3_2 < (l0_3.length : Int)) = false := decide_eq_false c8
              clear c8
              obtain rfl := Option.some.inj H
              have hcz15_0 : wr.cell? ⟨gb299, 0, none⟩ = some (.int .i64 a0_0) := (blk_cell BK299.out 0).trans rfl
              have hcz15_1 : wr.cell? ⟨gb299, 1, none⟩ = some (.int .i64 a0_1) := (blk_cell BK299.out 1).trans rfl
              have hcz15_2 : wr.cell? ⟨gb299, 2, none⟩ = some (.string a0_2) := (blk_cell BK299.out 2).trans rfl
              have hcz15_3 : wr.cell? ⟨gb299, 3, none⟩ = some (.slice A0_3 l0_3.length c0_3) := (blk_cell BK299.out 3).trans rfl
              have hfz15_0 := blk_frozen BK299.out 0
              have hfz15_1 := blk_frozen BK299.out 1
              have hfz15_2 := blk_frozen BK299.out 2
              have hfz15_3 := blk_frozen BK299.out 3
              go_wp2
              go_ret
              exact ⟨by first | rfl | (simp [errW_none, errW_some] <;> rfl) | (simp [*, errW_none, errW_some] <;> rfl) | (simp [q_ne_nil]; done), by repeat (first | (with_reducible first | exact HB.out | apply below_alloc | apply pw_below_drewN | apply below_drew1 | refine below_set ?_ GE299.out) | exact HB.out)⟩
mutual
def glacisref05_decimal.j0 : Nat → Int → ByteArray → Option (ByteArray)
  | 0, _, _ => none
  | k + 1, x0, x3 => (strconv_Itoa.f (wrap64 (Int.tdiv (Int.tmod x0 1000) 100))).bind fun t302 => (if (Int.tmod (Int.tmod x0 1000) 100) = 0 then (glacisref05_decimal.j1 k x0 x3 (Int.tmod x0 1000) t302) else ((strconv_Itoa.f (Int.tmod (wrap64 (Int.tdiv (Int.tmod x0 1000) 10)) 10)).bind fun t303 => (if t302.size + t303.size ≤ 9223372036854775807 then (glacisref05_decimal.j1 k x0 x3 (Int.tmod x0 1000) (t302 ++ t303)) else (none))))
def glacisref05_decimal.j1 : Nat → Int → ByteArray → Int → ByteArray → Option (ByteArray)
  | 0, _, _, _, _ => none
  | k + 1, x0, x3, x4, x5 => if (Int.tmod x4 10) = 0 then ((strconv_Itoa.f (wrap64 (Int.tdiv x0 1000))).bind fun t304 => (if x3.size + t304.size ≤ 9223372036854775807 then (if (x3 ++ t304).size + 1 ≤ 9223372036854775807 then (if ((x3 ++ t304) ++ (⟨#[46]⟩ : ByteArray)).size + x5.size ≤ 9223372036854775807 then (some (((x3 ++ t304) ++ (⟨#[46]⟩ : ByteArray)) ++ x5)) else (none)) else (none)) else (none))) else ((strconv_Itoa.f (Int.tmod x4 10)).bind fun t305 => (if x5.size + t305.size ≤ 9223372036854775807 then ((strconv_Itoa.f (wrap64 (Int.tdiv x0 1000))).bind fun t306 => (if x3.size + t306.size ≤ 9223372036854775807 then (if (x3 ++ t306).size + 1 ≤ 9223372036854775807 then (if ((x3 ++ t306) ++ (⟨#[46]⟩ : ByteArray)).size + (x5 ++ t305).size ≤ 9223372036854775807 then (some (((x3 ++ t306) ++ (⟨#[46]⟩ : ByteArray)) ++ (x5 ++ t305))) else (none)) else (none)) else (none))) else (none)))
end
def glacisref05_decimal.f (k : Nat) (a0 : Int) : Option (ByteArray) := if a0 < 0 then (glacisref05_decimal.j0 k (wrap64 (-a0)) (⟨#[45]⟩ : ByteArray)) else (glacisref05_decimal.j0 k a0 (⟨#[]⟩ : ByteArray))
theorem tm100_ (x : Int) : Int.tmod (Int.tmod x 1000) 100 = Int.tmod x 100 := Int.tmod_tmod_of_dvd x (by decide)
theorem tm10_ (x : Int) : Int.tmod (Int.tmod x 1000) 10 = Int.tmod x 10 := Int.tmod_tmod_of_dvd x (by decide)
set_option maxHeartbeats 8000000 in
set_option maxRecDepth 100000 in
theorem glacisref05_decimal.calls (k : Nat) (a0 : Int) (r : ByteArray) (w : World) (hT_ : Aside0 (TabW w)) (h : glacisref05_decimal.f k a0 = some r) :
    Calls Tryz.prog 48 #[.int .i64 a0] w fun e w' => e = .returned (.string r) ∧ Below w.heap.size w w' := by
  have HB := Aside0.mk (Below.refl w.heap.size w)
  have H : (if a0 < 0 then (glacisref05_decimal.j0 k (wrap64 (-a0)) (⟨#[45]⟩ : ByteArray)) else (glacisref05_decimal.j0 k a0 (⟨#[]⟩ : ByteArray))) = some r := h
  clear h
  have HC2 := Aside0.mk H
  clear H
  go_enter Tryz.func48, Tryz.ntmps48
  go_upto_if 7 with (fail)
  go_cut [0, 3] (fun v0 v3 wc => ∃ (kq : Nat) (x0_1 : Int) (x3_1 : ByteArray), v0 = .int .i64 x0_1 ∧ v3 = .string x3_1 ∧ Aside0 (glacisref05_decimal.j0 kq x0_1 x3_1 = some r) ∧ Aside0 (kq ≤ k) ∧ Aside0 (Below w.heap.size w wc))
  case first =>
    have H := HC2.out
    clear HC2
    by_cases c3 : a0 < 0
    · rw [if_pos c3] at H
      have c3b0 : decide (a0 < 0) = true := decide_eq_true c3
      clear c3
      (first | rw [c3b0] | (simp only [i64_w, i32_w]; rw [c3b0]) | skip)
      have H' := Aside0.mk H
      clear H
      go_wp2
      go_meet
      case rel => exact ⟨_, (wrap64 (-a0)), ((⟨#[45]⟩ : ByteArray)), (by first | rfl | (simp; done) | (simp [*]; done) | (simp [q_ne_nil]; done)), (by first | rfl | (simp; done) | (simp [*]; done) | (simp [q_ne_nil]; done)), H', ⟨by first | omega | exact Nat.le_refl _⟩, ⟨by repeat (first | (with_reducible first | exact HB.out | apply below_alloc | apply pw_below_drewN | apply below_drew1) | exact HB.out)⟩⟩
    · rw [if_neg c3] at H
      have c3b0 : decide (a0 < 0) = false := decide_eq_false c3
      clear c3
      (first | rw [c3b0] | (simp only [i64_w, i32_w]; rw [c3b0]) | skip)
      have H' := Aside0.mk H
      clear H
      go_wp2
      go_meet
      case rel => exact ⟨_, (a0), ((⟨#[]⟩ : ByteArray)), (by first | rfl | (simp; done) | (simp [*]; done) | (simp [q_ne_nil]; done)), (by first | rfl | (simp; done) | (simp [*]; done) | (simp [q_ne_nil]; done)), H', ⟨by first | omega | exact Nat.le_refl _⟩, ⟨by repeat (first | (with_reducible first | exact HB.out | apply below_alloc | apply pw_below_drewN | apply below_drew1) | exact HB.out)⟩⟩
  case rest =>
    clear HC2
    try clear p2
    try clear c3
    try clear c3b0
    obtain ⟨kq, x0_1, x3_1, rfl, rfl, HA, HJ1, HB⟩ := hcut
    cases kq with
    | zero => exact absurd HA.out (by simp [glacisref05_decimal.j0])
    | succ kj1 =>
      have H := HA.out
      clear HA
      simp only [glacisref05_decimal.j0, tm100_, tm10_] at H
      replace H := Option.bind_eq_some_iff.mp H
      obtain ⟨t302, A40, H⟩ := H
      replace H : (if (Int.tmod x0_1 100) = 0 then (glacisref05_decimal.j1 kj1 x0_1 x3_1 (Int.tmod x0_1 1000) t302) else ((strconv_Itoa.f (Int.tmod (wrap64 (Int.tdiv (Int.tmod x0_1 1000) 10)) 10)).bind fun t303 => (if t302.size + t303.size ≤ 9223372036854775807 then (glacisref05_decimal.j1 kj1 x0_1 x3_1 (Int.tmod x0_1 1000) (t302 ++ t303)) else (none)))) = some r := H
      have A4 := Aside0.mk A40
      clear A40
      have HC5 := Aside0.mk H
      clear H
      go_upto_if 17 with (first | ((with_reducible refine gate_callee (f := 44) rfl ?_); refine goesL_ (some 14) rfl rfl Tryz.func44 (by kernel_rfl) rfl #[.int .i64 (wrap64 (Int.tdiv (Int.tmod x0_1 1000) 100))] rfl (by (try simp only [List.map_toArray, List.map_cons, List.map_nil]); first | done | rfl | (simp only [List.length_drop, List.length_take]; rfl)) ?_; (with_reducible refine (strconv_Itoa.calls (wrap64 (Int.tdiv (Int.tmod x0_1 1000) 100)) t302 _ (tab_ hT_ ?hTab) A4.out).mono ?_); (case hTab => exact (by repeat (first | (with_reducible first | exact HB.out | apply below_alloc | apply pw_below_drewN | apply below_drew1) | exact HB.out))); rintro e w6 ⟨rfl, hb⟩; refine ⟨_, rfl, ?_⟩; have n0_ := Aside0.mk (below_step (by repeat (first | (with_reducible first | exact HB.out | apply below_alloc | apply pw_below_drewN | apply below_drew1) | exact HB.out)) hb); clear HB; have HB := n0_; clear n0_; (try clear hb); (try clear hb2); (try clear hk); (try clear hi)))
      (try simp only [Act.put, List.setIfInBounds_toArray, List.set_cons_zero, List.set_cons_succ])
      go_cut [5] (fun v5 wc => ∃ (kq : Nat) (x5_4 : ByteArray), v5 = .string x5_4 ∧ Aside0 (glacisref05_decimal.j1 kq x0_1 x3_1 (Int.tmod x0_1 1000) x5_4 = some r) ∧ Aside0 (kq ≤ kj1) ∧ Aside0 (Below w.heap.size w wc))
      case first =>
        have H := HC5.out
        clear HC5
        by_cases c7 : (Int.tmod x0_1 100) = 0
        · rw [if_pos c7] at H
          have c7b0 : ((Int.tmod x0_1 100) == 0) = true := beq_iff_eq.mpr c7
          have c7b1 : ((Int.tmod x0_1 100) != 0) = false := bne_eq_false_iff_eq.mpr c7
          clear c7
          (first | rw [c7b0] | (simp only [i64_w, i32_w]; rw [c7b0]) | skip)
          have H' := Aside0.mk H
          clear H
          go_wp2
          go_meet
          case rel => exact ⟨_, (t302), (by first | rfl | (simp; done) | (simp [*]; done) | (simp [q_ne_nil]; done)), H', ⟨by have := HJ1.out; first | omega | exact Nat.le_refl _⟩, ⟨by repeat (first | (with_reducible first | exact HB.out | apply below_alloc | apply pw_below_drewN | apply below_drew1) | exact HB.out)⟩⟩
        · rw [if_neg c7] at H
          have c7b0 : ((Int.tmod x0_1 100) == 0) = false := beq_eq_false_iff_ne.mpr c7
          have c7b1 : ((Int.tmod x0_1 100) != 0) = true := bne_iff_ne.mpr c7
          (first | rw [c7b0] | (simp only [i64_w, i32_w]; rw [c7b0]) | skip)
          replace H := Option.bind_eq_some_iff.mp H
          obtain ⟨t303, A80, H⟩ := H
          replace H : (if t302.size + t303.size ≤ 9223372036854775807 then (glacisref05_decimal.j1 kj1 x0_1 x3_1 (Int.tmod x0_1 1000) (t302 ++ t303)) else (none)) = some r := H
          have A8 := Aside0.mk A80
          clear A80
          by_cases c9 : t302.size + t303.size ≤ 9223372036854775807
          · rw [if_pos c9] at H
            have c9b0 := eq_true c9
            have c9b1 : decide (t302.size + t303.size ≤ 9223372036854775807) = true := decide_eq_true c9
            try have c9b2 : (9223372036854775807 < t302.size + t303.size) = False := eq_false (Nat.not_lt.2 c9)
            have H' := Aside0.mk H
            clear H
            go_wp2_with (first | ((with_reducible refine gate_callee (f := 44) rfl ?_); refine goesL_ (some 22) rfl rfl Tryz.func44 (by kernel_rfl) rfl #[.int .i64 (Int.tmod (wrap64 (Int.tdiv (Int.tmod x0_1 1000) 10)) 10)] rfl (by (try simp only [List.map_toArray, List.map_cons, List.map_nil]); first | done | rfl | (simp only [List.length_drop, List.length_take]; rfl)) ?_; (with_reducible refine (strconv_Itoa.calls (Int.tmod (wrap64 (Int.tdiv (Int.tmod x0_1 1000) 10)) 10) t303 _ (tab_ hT_ ?hTab) A8.out).mono ?_); (case hTab => exact (by repeat (first | (with_reducible first | exact HB.out | apply below_alloc | apply pw_below_drewN | apply below_drew1) | exact HB.out))); rintro e w10 ⟨rfl, hb⟩; refine ⟨_, rfl, ?_⟩; have n0_ := Aside0.mk (below_step (by repeat (first | (with_reducible first | exact HB.out | apply below_alloc | apply pw_below_drewN | apply below_drew1) | exact HB.out)) hb); clear HB; have HB := n0_; clear n0_; (try clear hb); (try clear hb2); (try clear hk); (try clear hi)))
            go_meet
            case rel => exact ⟨_, (t302 ++ t303), (by first | rfl | (simp; done) | (simp [*]; done) | (simp [q_ne_nil]; done)), H', ⟨by have := HJ1.out; first | omega | exact Nat.le_refl _⟩, ⟨by repeat (first | (with_reducible first | exact HB.out | apply below_alloc | apply pw_below_drewN | apply below_drew1) | exact HB.out)⟩⟩
          · rw [if_neg c9] at H
            exact absurd H (by simp)
      case rest =>
        clear HC5
        try clear p2
        try clear c3
        try clear c3b0
        try clear c4
        try clear p6
        try clear c7
        try clear c7b0
        try clear c7b1
        try clear c9
        try clear c9b0
        try clear c9b1
        try clear c9b2
        try clear p2
        obtain ⟨kq, x5_4, rfl, HA, HJ4, HB⟩ := hcut
        cases kq with
        | zero => exact absurd HA.out (by simp [glacisref05_decimal.j1])
        | succ kj4 =>
          have H := HA.out
          clear HA
          simp only [glacisref05_decimal.j1, tm100_, tm10_] at H
          by_cases c11 : (Int.tmod x0_1 10) = 0
          · rw [if_pos c11] at H
            have c11b0 : ((Int.tmod x0_1 10) == 0) = true := beq_iff_eq.mpr c11
            have c11b1 : ((Int.tmod x0_1 10) != 0) = false := bne_eq_false_iff_eq.mpr c11
            clear c11
            replace H := Option.bind_eq_some_iff.mp H
            obtain ⟨t304, A120, H⟩ := H
            replace H : (if x3_1.size + t304.size ≤ 9223372036854775807 then (if (x3_1 ++ t304).size + 1 ≤ 9223372036854775807 then (if ((x3_1 ++ t304) ++ (⟨#[46]⟩ : ByteArray)).size + x5_4.size ≤ 9223372036854775807 then (some (((x3_1 ++ t304) ++ (⟨#[46]⟩ : ByteArray)) ++ x5_4)) else (none)) else (none)) else (none)) = some r := H
            have A12 := Aside0.mk A120
            clear A120
            by_cases c13 : x3_1.size + t304.size ≤ 9223372036854775807
            · rw [if_pos c13] at H
              have c13b0 := eq_true c13
              have c13b1 : decide (x3_1.size + t304.size ≤ 9223372036854775807) = true := decide_eq_true c13
              try have c13b2 : (9223372036854775807 < x3_1.size + t304.size) = False := eq_false (Nat.not_lt.2 c13)
              by_cases c14 : (x3_1 ++ t304).size + 1 ≤ 9223372036854775807
              · rw [if_pos c14] at H
                have c14b0 := eq_true c14
                have c14b1 : decide ((x3_1 ++ t304).size + 1 ≤ 9223372036854775807) = true := decide_eq_true c14
                try have c14b2 : (9223372036854775807 < (x3_1 ++ t304).size + 1) = False := eq_false (Nat.not_lt.2 c14)
                try (have c14d : (9223372036854775807 < x3_1.size + t304.size + 1) = False := eq_false (by have h_ := c14; simp only [ByteArray.size_append] at h_; exact Nat.not_lt.2 h_))
                by_cases c15 : ((x3_1 ++ t304) ++ (⟨#[46]⟩ : ByteArray)).size + x5_4.size ≤ 9223372036854775807
                · rw [if_pos c15] at H
                  have c15b0 := eq_true c15
                  have c15b1 : decide (((x3_1 ++ t304) ++ (⟨#[46]⟩ : ByteArray)).size + x5_4.size ≤ 9223372036854775807) = true := decide_eq_true c15
                  try have c15b2 : (9223372036854775807 < ((x3_1 ++ t304) ++ (⟨#[46]⟩ : ByteArray)).size + x5_4.size) = False := eq_false (Nat.not_lt.2 c15)
                  try (have c15d : (9223372036854775807 < x3_1.size + t304.size + 1 + x5_4.size) = False := eq_false (by have h_ := c15; simp only [ByteArray.size_append] at h_; exact Nat.not_lt.2 h_))
                  obtain rfl := Option.some.inj H
                  go_wp2_with (first | ((with_reducible refine gate_callee (f := 44) rfl ?_); refine goesL_ (some 35) rfl rfl Tryz.func44 (by kernel_rfl) rfl #[.int .i64 (wrap64 (Int.tdiv x0_1 1000))] rfl (by (try simp only [List.map_toArray, List.map_cons, List.map_nil]); first | done | rfl | (simp only [List.length_drop, List.length_take]; rfl)) ?_; (with_reducible refine (strconv_Itoa.calls (wrap64 (Int.tdiv x0_1 1000)) t304 _ (tab_ hT_ ?hTab) A12.out).mono ?_); (case hTab => exact (by repeat (first | (with_reducible first | exact HB.out | apply below_alloc | apply pw_below_drewN | apply below_drew1) | exact HB.out))); rintro e w16 ⟨rfl, hb⟩; refine ⟨_, rfl, ?_⟩; have n0_ := Aside0.mk (below_step (by repeat (first | (with_reducible first | exact HB.out | apply below_alloc | apply pw_below_drewN | apply below_drew1) | exact HB.out)) hb); clear HB; have HB := n0_; clear n0_; (try clear hb); (try clear hb2); (try clear hk); (try clear hi)))
                  go_ret
                  exact ⟨by first | rfl | (simp [errW_none, errW_some] <;> rfl) | (simp [*, errW_none, errW_some] <;> rfl) | (simp [q_ne_nil]; done), by repeat (first | (with_reducible first | exact HB.out | apply below_alloc | apply pw_below_drewN | apply below_drew1) | exact HB.out)⟩
                · rw [if_neg c15] at H
                  exact absurd H (by simp)
              · rw [if_neg c14] at H
                exact absurd H (by simp)
            · rw [if_neg c13] at H
              exact absurd H (by simp)
          · rw [if_neg c11] at H
            have c11b0 : ((Int.tmod x0_1 10) == 0) = false := beq_eq_false_iff_ne.mpr c11
            have c11b1 : ((Int.tmod x0_1 10) != 0) = true := bne_iff_ne.mpr c11
            replace H := Option.bind_eq_some_iff.mp H
            obtain ⟨t305, A170, H⟩ := H
            replace H : (if x5_4.size + t305.size ≤ 9223372036854775807 then ((strconv_Itoa.f (wrap64 (Int.tdiv x0_1 1000))).bind fun t306 => (if x3_1.size + t306.size ≤ 9223372036854775807 then (if (x3_1 ++ t306).size + 1 ≤ 9223372036854775807 then (if ((x3_1 ++ t306) ++ (⟨#[46]⟩ : ByteArray)).size + (x5_4 ++ t305).size ≤ 9223372036854775807 then (some (((x3_1 ++ t306) ++ (⟨#[46]⟩ : ByteArray)) ++ (x5_4 ++ t305))) else (none)) else (none)) else (none))) else (none)) = some r := H
            have A17 := Aside0.mk A170
            clear A170
            by_cases c18 : x5_4.size + t305.size ≤ 9223372036854775807
            · rw [if_pos c18] at H
              have c18b0 := eq_true c18
              have c18b1 : decide (x5_4.size + t305.size ≤ 9223372036854775807) = true := decide_eq_true c18
              try have c18b2 : (9223372036854775807 < x5_4.size + t305.size) = False := eq_false (Nat.not_lt.2 c18)
              replace H := Option.bind_eq_some_iff.mp H
              obtain ⟨t306, A190, H⟩ := H
              replace H : (if x3_1.size + t306.size ≤ 9223372036854775807 then (if (x3_1 ++ t306).size + 1 ≤ 9223372036854775807 then (if ((x3_1 ++ t306) ++ (⟨#[46]⟩ : ByteArray)).size + (x5_4 ++ t305).size ≤ 9223372036854775807 then (some (((x3_1 ++ t306) ++ (⟨#[46]⟩ : ByteArray)) ++ (x5_4 ++ t305))) else (none)) else (none)) else (none)) = some r := H
              have A19 := Aside0.mk A190
              clear A190
              by_cases c20 : x3_1.size + t306.size ≤ 9223372036854775807
              · rw [if_pos c20] at H
                have c20b0 := eq_true c20
                have c20b1 : decide (x3_1.size + t306.size ≤ 9223372036854775807) = true := decide_eq_true c20
                try have c20b2 : (9223372036854775807 < x3_1.size + t306.size) = False := eq_false (Nat.not_lt.2 c20)
                by_cases c21 : (x3_1 ++ t306).size + 1 ≤ 9223372036854775807
                · rw [if_pos c21] at H
                  have c21b0 := eq_true c21
                  have c21b1 : decide ((x3_1 ++ t306).size + 1 ≤ 9223372036854775807) = true := decide_eq_true c21
                  try have c21b2 : (9223372036854775807 < (x3_1 ++ t306).size + 1) = False := eq_false (Nat.not_lt.2 c21)
                  try (have c21d : (9223372036854775807 < x3_1.size + t306.size + 1) = False := eq_false (by have h_ := c21; simp only [ByteArray.size_append] at h_; exact Nat.not_lt.2 h_))
                  by_cases c22 : ((x3_1 ++ t306) ++ (⟨#[46]⟩ : ByteArray)).size + (x5_4 ++ t305).size ≤ 9223372036854775807
                  · rw [if_pos c22] at H
                    have c22b0 := eq_true c22
                    have c22b1 : decide (((x3_1 ++ t306) ++ (⟨#[46]⟩ : ByteArray)).size + (x5_4 ++ t305).size ≤ 9223372036854775807) = true := decide_eq_true c22
                    try have c22b2 : (9223372036854775807 < ((x3_1 ++ t306) ++ (⟨#[46]⟩ : ByteArray)).size + (x5_4 ++ t305).size) = False := eq_false (Nat.not_lt.2 c22)
                    obtain rfl := Option.some.inj H
                    go_wp2_with (first | ((with_reducible refine gate_callee (f := 44) rfl ?_); refine goesL_ (some 30) rfl rfl Tryz.func44 (by kernel_rfl) rfl #[.int .i64 (Int.tmod x0_1 10)] rfl (by (try simp only [List.map_toArray, List.map_cons, List.map_nil]); first | done | rfl | (simp only [List.length_drop, List.length_take]; rfl)) ?_; (with_reducible refine (strconv_Itoa.calls (Int.tmod x0_1 10) t305 _ (tab_ hT_ ?hTab) A17.out).mono ?_); (case hTab => exact (by repeat (first | (with_reducible first | exact HB.out | apply below_alloc | apply pw_below_drewN | apply below_drew1) | exact HB.out))); rintro e w23 ⟨rfl, hb⟩; refine ⟨_, rfl, ?_⟩; have n0_ := Aside0.mk (below_step (by repeat (first | (with_reducible first | exact HB.out | apply below_alloc | apply pw_below_drewN | apply below_drew1) | exact HB.out)) hb); clear HB; have HB := n0_; clear n0_; (try clear hb); (try clear hb2); (try clear hk); (try clear hi)) | ((with_reducible refine gate_callee (f := 44) rfl ?_); refine goesL_ (some 35) rfl rfl Tryz.func44 (by kernel_rfl) rfl #[.int .i64 (wrap64 (Int.tdiv x0_1 1000))] rfl (by (try simp only [List.map_toArray, List.map_cons, List.map_nil]); first | done | rfl | (simp only [List.length_drop, List.length_take]; rfl)) ?_; (with_reducible refine (strconv_Itoa.calls (wrap64 (Int.tdiv x0_1 1000)) t306 _ (tab_ hT_ ?hTab) A19.out).mono ?_); (case hTab => exact (by repeat (first | (with_reducible first | exact HB.out | apply below_alloc | apply pw_below_drewN | apply below_drew1) | exact HB.out))); rintro e w24 ⟨rfl, hb⟩; refine ⟨_, rfl, ?_⟩; have n0_ := Aside0.mk (below_step (by repeat (first | (with_reducible first | exact HB.out | apply below_alloc | apply pw_below_drewN | apply below_drew1) | exact HB.out)) hb); clear HB; have HB := n0_; clear n0_; (try clear hb); (try clear hb2); (try clear hk); (try clear hi)))
                    go_ret
                    exact ⟨by first | rfl | (simp [errW_none, errW_some] <;> rfl) | (simp [*, errW_none, errW_some] <;> rfl) | (simp [q_ne_nil]; done), by repeat (first | (with_reducible first | exact HB.out | apply below_alloc | apply pw_below_drewN | apply below_drew1) | exact HB.out)⟩
                  · rw [if_neg c22] at H
                    exact absurd H (by simp)
                · rw [if_neg c21] at H
                  exact absurd H (by simp)
              · rw [if_neg c20] at H
                exact absurd H (by simp)
            · rw [if_neg c18] at H
              exact absurd H (by simp)
end Go.Proofs.YtbbaokjkmcfceaaGreatDoor.Q
namespace Go.Proofs.YtbbaokjkmcfceaaGreatDoor.Q
open Go.RowKit Go.Proofs.YtbbaokjkmcfceaaGreatDoorW.PrintWords Go.Proofs.YtbbaokjkmcfceaaGreatDoorW.PrintLast Go.Proofs.YtbbaokjkmcfceaaGreatDoorW.PrintMore
set_option linter.unusedVariables false
set_option linter.unusedSimpArgs false
mutual
def glacisref05_Value.j0 : Nat → Int → Int → ByteArray → Bool → Option (ByteArray × Bool)
  | 0, _, _, _, _ => none
  | k + 1, x0, x1, x2, x8 => if x8 = true then (if x2.toList = ([] : List UInt8) then (if x1 < (-999999999999999) then (glacisref05_Value.j1 k x0 x1 x2 true) else (glacisref05_Value.j1 k x0 x1 x2 (decide (x1 > 999999999999999)))) else (glacisref05_Value.j1 k x0 x1 x2 true)) else (if x1 = 0 then (if x1 < (-999999999999999) then (glacisref05_Value.j1 k x0 x1 x2 true) else (glacisref05_Value.j1 k x0 x1 x2 (decide (x1 > 999999999999999)))) else (glacisref05_Value.j1 k x0 x1 x2 true))
def glacisref05_Value.j1 : Nat → Int → Int → ByteArray → Bool → Option (ByteArray × Bool)
  | 0, _, _, _, _ => none
  | k + 1, x0, x1, x2, x47 => if x47 = true then (some ((⟨#[]⟩ : ByteArray), false)) else (if x0 = 1 then ((strconv_Itoa.f x1).bind fun t307 => (some (t307, true))) else (if x0 = 2 then ((glacisref05_decimal.f k x1).bind fun t308 => (some (t308, true))) else (if x0 = 6 then ((strconv_Itoa.f x1).bind fun t309 => (if 1 + t309.size ≤ 9223372036854775807 then (if x1 = 0 then (some ((⟨#[63]⟩ : ByteArray) ++ t309, true)) else (some ((⟨#[63]⟩ : ByteArray) ++ t309, (x1 == 1)))) else (none))) else (if x0 = 3 then (glacisref05_Value.l0 k x2 (⟨#[]⟩ : ByteArray) 0) else (if x0 = 4 then ((glacisref05_value.f k x2).bind fun bt310 => (if bt310.2.2.2.2.2 = true then (if bt310.2.2.2.2.1.toList = ([] : List UInt8) then (some (x2, (bt310.2.1 == 4))) else (some (x2, false))) else (some (x2, false)))) else (if x0 = 5 then (if 1 + x2.size ≤ 9223372036854775807 then (if ((⟨#[58]⟩ : ByteArray) ++ x2).size + 1 ≤ 9223372036854775807 then ((glacisref05_value.f k (((⟨#[58]⟩ : ByteArray) ++ x2) ++ (⟨#[58]⟩ : ByteArray))).bind fun bt317 => (if bt317.2.2.2.2.2 = true then (if bt317.2.2.2.2.1.toList = ([] : List UInt8) then (if bt317.2.1 = 5 then (some (((⟨#[58]⟩ : ByteArray) ++ x2) ++ (⟨#[58]⟩ : ByteArray), (bt317.2.2.2.1.toList == x2.toList))) else (some (((⟨#[58]⟩ : ByteArray) ++ x2) ++ (⟨#[58]⟩ : ByteArray), false))) else (some (((⟨#[58]⟩ : ByteArray) ++ x2) ++ (⟨#[58]⟩ : ByteArray), false))) else (some (((⟨#[58]⟩ : ByteArray) ++ x2) ++ (⟨#[58]⟩ : ByteArray), false)))) else (none)) else (none)) else (some ((⟨#[]⟩ : ByteArray), false))))))))
def glacisref05_Value.l0 : Nat → ByteArray → ByteArray → Int → Option (ByteArray × Bool)
  | 0, _, _, _ => none
  | k + 1, x2, x9, x10 => if x10 < (x2.size : Int) then (if 0 ≤ x10 then (if (bt x2 x10) < 32 then (glacisref05_Value.j3 k x2 x9 x10 true) else (glacisref05_Value.j3 k x2 x9 x10 (decide ((bt x2 x10) > 126)))) else (none)) else (if 1 + x9.size ≤ 9223372036854775807 then (if ((⟨#[34]⟩ : ByteArray) ++ x9).size + 1 ≤ 9223372036854775807 then (some (((⟨#[34]⟩ : ByteArray) ++ x9) ++ (⟨#[34]⟩ : ByteArray), true)) else (none)) else (none))
def glacisref05_Value.j3 : Nat → ByteArray → ByteArray → Int → Bool → Option (ByteArray × Bool)
  | 0, _, _, _, _ => none
  | k + 1, x2, x9, x10, x85 => if x85 = true then (some ((⟨#[]⟩ : ByteArray), false)) else (if 0 ≤ x10 then (if x10 < (x2.size : Int) then (if (bt x2 x10) = 34 then (if x9.size + 1 ≤ 9223372036854775807 then (if x10 ≤ (wrap64 (x10 + 1)) then (if (wrap64 (x10 + 1)) ≤ (x2.size : Int) then (if (x9 ++ (⟨#[92]⟩ : ByteArray)).size + (x2.extract (x10 : Int).toNat ((wrap64 (x10 + 1)) : Int).toNat).size ≤ 9223372036854775807 then (glacisref05_Value.l0 k x2 ((x9 ++ (⟨#[92]⟩ : ByteArray)) ++ (x2.extract (x10 : Int).toNat ((wrap64 (x10 + 1)) : Int).toNat)) (wrap64 (x10 + 1))) else (none)) else (none)) else (none)) else (none)) else (if (bt x2 x10) = 92 then (if x9.size + 1 ≤ 9223372036854775807 then (if x10 ≤ (wrap64 (x10 + 1)) then (if (wrap64 (x10 + 1)) ≤ (x2.size : Int) then (if (x9 ++ (⟨#[92]⟩ : ByteArray)).size + (x2.extract (x10 : Int).toNat ((wrap64 (x10 + 1)) : Int).toNat).size ≤ 9223372036854775807 then (glacisref05_Value.l0 k x2 ((x9 ++ (⟨#[92]⟩ : ByteArray)) ++ (x2.extract (x10 : Int).toNat ((wrap64 (x10 + 1)) : Int).toNat)) (wrap64 (x10 + 1))) else (none)) else (none)) else (none)) else (none)) else (if x10 ≤ (wrap64 (x10 + 1)) then (if (wrap64 (x10 + 1)) ≤ (x2.size : Int) then (if x9.size + (x2.extract (x10 : Int).toNat ((wrap64 (x10 + 1)) : Int).toNat).size ≤ 9223372036854775807 then (glacisref05_Value.l0 k x2 (x9 ++ (x2.extract (x10 : Int).toNat ((wrap64 (x10 + 1)) : Int).toNat)) (wrap64 (x10 + 1))) else (none)) else (none)) else (none)))) else (none)) else (none))
end
def glacisref05_Value.f (k : Nat) (a0 : Int) (a1 : Int) (a2 : ByteArray) : Option (ByteArray × Bool) := if a0 = 1 then (glacisref05_Value.j0 k a0 a1 a2 true) else (if a0 = 2 then (glacisref05_Value.j0 k a0 a1 a2 true) else (glacisref05_Value.j0 k a0 a1 a2 (a0 == 6)))
set_option maxHeartbeats 8000000 in
set_option maxRecDepth 100000 in
theorem glacisref05_Value.calls (k : Nat) (a0 : Int) (a1 : Int) (a2 : ByteArray) (r1 : ByteArray) (r2 : Bool) (w : World) (hT_ : Aside0 (TabW w)) (h : glacisref05_Value.f k a0 a1 a2 = some (r1, r2)) :
    Calls Tryz.prog 25 #[.int .i64 a0, .int .i64 a1, .string a2] w fun e w' => e = .returned (.tuple #[.string r1, .bool r2]) ∧ Below w.heap.size w w' := by
  have hu43 := Tryz.underlying43
  have HB := Aside0.mk (Below.refl w.heap.size w)
  have H : (if a0 = 1 then (glacisref05_Value.j0 k a0 a1 a2 true) else (if a0 = 2 then (glacisref05_Value.j0 k a0 a1 a2 true) else (glacisref05_Value.j0 k a0 a1 a2 (a0 == 6)))) = some (r1, r2) := h
  clear h
  have HC4 := Aside0.mk H
  clear H
  go_enter Tryz.func25, Tryz.ntmps25
  go_upto_region 1 with (fail)
  repeat (go_quiet (fail); go_upto_region 1 with (fail))
  go_cut [8] (fun v8 wc => ∃ (kq : Nat) (x8_3 : Bool), v8 = .bool x8_3 ∧ Aside0 (glacisref05_Value.j0 kq a0 a1 a2 x8_3 = some (r1, r2)) ∧ Aside0 (kq ≤ k) ∧ Aside0 (Below w.heap.size w wc))
  case first =>
    have H := HC4.out
    clear HC4
    by_cases c5 : a0 = 1
    · rw [if_pos c5] at H
      have c5b0 : (a0 == 1) = true := beq_iff_eq.mpr c5
      have c5b1 : (a0 != 1) = false := bne_eq_false_iff_eq.mpr c5
      clear c5
      (first | rw [c5b0] | (simp only [i64_w, i32_w]; rw [c5b0]) | skip)
      have H' := Aside0.mk H
      clear H
      go_wp2
      repeat (go_quiet (fail); try go_wp2)
      go_meet
      case rel => exact ⟨_, (true), (by first | rfl | (simp; done) | (simp [*]; done) | (simp [q_ne_nil]; done)), H', ⟨by first | omega | exact Nat.le_refl _⟩, ⟨by repeat (first | (with_reducible first | exact HB.out | apply below_alloc | apply pw_below_drewN | apply below_drew1) | exact HB.out)⟩⟩
    · rw [if_neg c5] at H
      have c5b0 : (a0 == 1) = false := beq_eq_false_iff_ne.mpr c5
      have c5b1 : (a0 != 1) = true := bne_iff_ne.mpr c5
      (first | rw [c5b0] | (simp only [i64_w, i32_w]; rw [c5b0]) | skip)
      by_cases c6 : a0 = 2
      · rw [if_pos c6] at H
        have c6b0 : (a0 == 2) = true := beq_iff_eq.mpr c6
        have c6b1 : (a0 != 2) = false := bne_eq_false_iff_eq.mpr c6
        clear c6
        have H' := Aside0.mk H
        clear H
        go_wp2
        repeat (go_quiet (fail); try go_wp2)
        go_meet
        case rel => exact ⟨_, (true), (by first | rfl | (simp; done) | (simp [*]; done) | (simp [q_ne_nil]; done)), H', ⟨by first | omega | exact Nat.le_refl _⟩, ⟨by repeat (first | (with_reducible first | exact HB.out | apply below_alloc | apply pw_below_drewN | apply below_drew1) | exact HB.out)⟩⟩
      · rw [if_neg c6] at H
        have c6b0 : (a0 == 2) = false := beq_eq_false_iff_ne.mpr c6
        have c6b1 : (a0 != 2) = true := bne_iff_ne.mpr c6
        have H' := Aside0.mk H
        clear H
        go_wp2
        repeat (go_quiet (fail); try go_wp2)
        go_meet
        case rel => exact ⟨_, ((a0 == 6)), (by first | rfl | (simp; done) | (simp [*]; done) | (simp [q_ne_nil]; done)), H', ⟨by first | omega | exact Nat.le_refl _⟩, ⟨by repeat (first | (with_reducible first | exact HB.out | apply below_alloc | apply pw_below_drewN | apply below_drew1) | exact HB.out)⟩⟩
  case rest =>
    clear HC4
    try clear c2
    try clear p2
    try clear c5
    try clear c5b0
    try clear c5b1
    try clear c6
    try clear c6b0
    try clear c6b1
    obtain ⟨kq, x8_3, rfl, HA, HJ3, HB⟩ := hcut
    cases kq with
    | zero => exact absurd HA.out (by simp [glacisref05_Value.j0])
    | succ kj3 =>
      have H := HA.out
      clear HA
      simp only [glacisref05_Value.j0] at H
      have HC7 := Aside0.mk H
      clear H
      go_upto_region 2 with (fail)
      repeat (go_quiet (fail); go_upto_region 2 with (fail))
      go_cut [47] (fun v47 wc => ∃ (kq : Nat) (x47_6 : Bool), v47 = .bool x47_6 ∧ Aside0 (glacisref05_Value.j1 kq a0 a1 a2 x47_6 = some (r1, r2)) ∧ Aside0 (kq ≤ kj3) ∧ Aside0 (Below w.heap.size w wc))
      case first =>
        have H := HC7.out
        clear HC7
        by_cases c8 : x8_3 = true
        · subst c8
          have H1 : (if a2.toList = ([] : List UInt8) then (if a1 < (-999999999999999) then (glacisref05_Value.j1 kj3 a0 a1 a2 true) else (glacisref05_Value.j1 kj3 a0 a1 a2 (decide (a1 > 999999999999999)))) else (glacisref05_Value.j1 kj3 a0 a1 a2 true)) = some (r1, r2) := by rw [if_pos rfl] at H; exact H
          clear H
          have H := H1
          clear H1
          by_cases c9 : a2.toList = ([] : List UInt8)
          · rw [if_pos c9] at H
            have c9b0 : (a2.toList == ([] : List UInt8)) = true := beq_iff_eq.mpr c9
            have c9b1 : (a2.toList != ([] : List UInt8)) = false := bne_eq_false_iff_eq.mpr c9
            clear c9
            (first | rw [c9b0] | (simp only [i64_w, i32_w]; rw [c9b0]) | skip)
            by_cases c10 : a1 < (-999999999999999)
            · rw [if_pos c10] at H
              have c10b0 : decide (a1 < (-999999999999999)) = true := decide_eq_true c10
              clear c10
              have H' := Aside0.mk H
              clear H
              go_wp2
              repeat (go_quiet (fail); try go_wp2)
              go_meet
              case rel => exact ⟨_, (true), (by first | rfl | (simp; done) | (simp [*]; done) | (simp [q_ne_nil]; done)), H', ⟨by have := HJ3.out; first | omega | exact Nat.le_refl _⟩, ⟨by repeat (first | (with_reducible first | exact HB.out | apply below_alloc | apply pw_below_drewN | apply below_drew1) | exact HB.out)⟩⟩
            · rw [if_neg c10] at H
              have c10b0 : decide (a1 < (-999999999999999)) = false := decide_eq_false c10
              clear c10
              have H' := Aside0.mk H
              clear H
              go_wp2
              repeat (go_quiet (fail); try go_wp2)
              go_meet
              case rel => exact ⟨_, (decide (a1 > 999999999999999)), (by first | rfl | (simp; done) | (simp [*]; done) | (simp [q_ne_nil]; done)), H', ⟨by have := HJ3.out; first | omega | exact Nat.le_refl _⟩, ⟨by repeat (first | (with_reducible first | exact HB.out | apply below_alloc | apply pw_below_drewN | apply below_drew1) | exact HB.out)⟩⟩
          · rw [if_neg c9] at H
            have c9b0 : (a2.toList == ([] : List UInt8)) = false := beq_eq_false_iff_ne.mpr c9
            have c9b1 : (a2.toList != ([] : List UInt8)) = true := bne_iff_ne.mpr c9
            (first | rw [c9b0] | (simp only [i64_w, i32_w]; rw [c9b0]) | skip)
            have H' := Aside0.mk H
            clear H
            go_wp2
            repeat (go_quiet (fail); try go_wp2)
            go_meet
            case rel => exact ⟨_, (true), (by first | rfl | (simp; done) | (simp [*]; done) | (simp [q_ne_nil]; done)), H', ⟨by have := HJ3.out; first | omega | exact Nat.le_refl _⟩, ⟨by repeat (first | (with_reducible first | exact HB.out | apply below_alloc | apply pw_below_drewN | apply below_drew1) | exact HB.out)⟩⟩
        · replace c8 := Bool.eq_false_iff.mpr c8
          subst c8
          have H1 : (if a1 = 0 then (if a1 < (-999999999999999) then (glacisref05_Value.j1 kj3 a0 a1 a2 true) else (glacisref05_Value.j1 kj3 a0 a1 a2 (decide (a1 > 999999999999999)))) else (glacisref05_Value.j1 kj3 a0 a1 a2 true)) = some (r1, r2) := by rw [if_neg (show ¬ (false = true) by decide)] at H; exact H
          clear H
          have H := H1
          clear H1
          by_cases c11 : a1 = 0
          · rw [if_pos c11] at H
            have c11b0 : (a1 == 0) = true := beq_iff_eq.mpr c11
            have c11b1 : (a1 != 0) = false := bne_eq_false_iff_eq.mpr c11
            clear c11
            by_cases c12 : a1 < (-999999999999999)
            · rw [if_pos c12] at H
              have c12b0 : decide (a1 < (-999999999999999)) = true := decide_eq_true c12
              clear c12
              have H' := Aside0.mk H
              clear H
              go_wp2
              repeat (go_quiet (fail); try go_wp2)
              go_meet
              case rel => exact ⟨_, (true), (by first | rfl | (simp; done) | (simp [*]; done) | (simp [q_ne_nil]; done)), H', ⟨by have := HJ3.out; first | omega | exact Nat.le_refl _⟩, ⟨by repeat (first | (with_reducible first | exact HB.out | apply below_alloc | apply pw_below_drewN | apply below_drew1) | exact HB.out)⟩⟩
            · rw [if_neg c12] at H
              have c12b0 : decide (a1 < (-999999999999999)) = false := decide_eq_false c12
              clear c12
              have H' := Aside0.mk H
              clear H
              go_wp2
              repeat (go_quiet (fail); try go_wp2)
              go_meet
              case rel => exact ⟨_, (decide (a1 > 999999999999999)), (by first | rfl | (simp; done) | (simp [*]; done) | (simp [q_ne_nil]; done)), H', ⟨by have := HJ3.out; first | omega | exact Nat.le_refl _⟩, ⟨by repeat (first | (with_reducible first | exact HB.out | apply below_alloc | apply pw_below_drewN | apply below_drew1) | exact HB.out)⟩⟩
          · rw [if_neg c11] at H
            have c11b0 : (a1 == 0) = false := beq_eq_false_iff_ne.mpr c11
            have c11b1 : (a1 != 0) = true := bne_iff_ne.mpr c11
            have H' := Aside0.mk H
            clear H
            go_wp2
            repeat (go_quiet (fail); try go_wp2)
            go_meet
            case rel => exact ⟨_, (true), (by first | rfl | (simp; done) | (simp [*]; done) | (simp [q_ne_nil]; done)), H', ⟨by have := HJ3.out; first | omega | exact Nat.le_refl _⟩, ⟨by repeat (first | (with_reducible first | exact HB.out | apply below_alloc | apply pw_below_drewN | apply below_drew1) | exact HB.out)⟩⟩
      case rest =>
        clear HC7
        try clear c1
        try clear c2
        try clear p2
        try clear c5
        try clear c5b0
        try clear c5b1
        try clear c6
        try clear c6b0
        try clear c6b1
        try clear c8
        try clear c9
        try clear c9b0
        try clear c9b1
        try clear c10
        try clear c10b0
        try clear c11
        try clear c11b0
        try clear c11b1
        try clear c12
        try clear c12b0
        try clear p2
        obtain ⟨kq, x47_6, rfl, HA, HJ6, HB⟩ := hcut
        cases kq with
        | zero => exact absurd HA.out (by simp [glacisref05_Value.j1])
        | succ kj6 =>
          have H := HA.out
          clear HA
          simp only [glacisref05_Value.j1] at H
          by_cases c13 : x47_6 = true
          · subst c13
            have H1 : (some ((⟨#[]⟩ : ByteArray), false)) = some (r1, r2) := by rw [if_pos rfl] at H; exact H
            clear H
            have H := H1
            clear H1
            simp only [Option.some.injEq, Prod.mk.injEq] at H
            obtain ⟨rfl, rfl⟩ := H
            go_wp2
            repeat (go_quiet (fail); try go_wp2)
            go_ret2
            exact ⟨by first | rfl | (simp [errW_none, errW_some] <;> rfl) | (simp [*, errW_none, errW_some] <;> rfl) | (simp [q_ne_nil]; done), by repeat (first | (with_reducible first | exact HB.out | apply below_alloc | apply pw_below_drewN | apply below_drew1) | exact HB.out)⟩
          · replace c13 := Bool.eq_false_iff.mpr c13
            subst c13
            have H1 : (if a0 = 1 then ((strconv_Itoa.f a1).bind fun t307 => (some (t307, true))) else (if a0 = 2 then ((glacisref05_decimal.f kj6 a1).bind fun t308 => (some (t308, true))) else (if a0 = 6 then ((strconv_Itoa.f a1).bind fun t309 => (if 1 + t309.size ≤ 9223372036854775807 then (if a1 = 0 then (some ((⟨#[63]⟩ : ByteArray) ++ t309, true)) else (some ((⟨#[63]⟩ : ByteArray) ++ t309, (a1 == 1)))) else (none))) else (if a0 = 3 then (glacisref05_Value.l0 kj6 a2 (⟨#[]⟩ : ByteArray) 0) else (if a0 = 4 then ((glacisref05_value.f kj6 a2).bind fun bt310 => (if bt310.2.2.2.2.2 = true then (if bt310.2.2.2.2.1.toList = ([] : List UInt8) then (some (a2, (bt310.2.1 == 4))) else (some (a2, false))) else (some (a2, false)))) else (if a0 = 5 then (if 1 + a2.size ≤ 9223372036854775807 then (if ((⟨#[58]⟩ : ByteArray) ++ a2).size + 1 ≤ 9223372036854775807 then ((glacisref05_value.f kj6 (((⟨#[58]⟩ : ByteArray) ++ a2) ++ (⟨#[58]⟩ : ByteArray))).bind fun bt317 => (if bt317.2.2.2.2.2 = true then (if bt317.2.2.2.2.1.toList = ([] : List UInt8) then (if bt317.2.1 = 5 then (some (((⟨#[58]⟩ : ByteArray) ++ a2) ++ (⟨#[58]⟩ : ByteArray), (bt317.2.2.2.1.toList == a2.toList))) else (some (((⟨#[58]⟩ : ByteArray) ++ a2) ++ (⟨#[58]⟩ : ByteArray), false))) else (some (((⟨#[58]⟩ : ByteArray) ++ a2) ++ (⟨#[58]⟩ : ByteArray), false))) else (some (((⟨#[58]⟩ : ByteArray) ++ a2) ++ (⟨#[58]⟩ : ByteArray), false)))) else (none)) else (none)) else (some ((⟨#[]⟩ : ByteArray), false)))))))) = some (r1, r2) := by rw [if_neg (show ¬ (false = true) by decide)] at H; exact H
            clear H
            have H := H1
            clear H1
            by_cases c14 : a0 = 1
            · rw [if_pos c14] at H
              have c14b0 : (a0 == 1) = true := beq_iff_eq.mpr c14
              have c14b1 : (a0 != 1) = false := bne_eq_false_iff_eq.mpr c14
              clear c14
              replace H := Option.bind_eq_some_iff.mp H
              obtain ⟨t307, A150, H⟩ := H
              replace H : (some (t307, true)) = some (r1, r2) := H
              have A15 := Aside0.mk A150
              clear A150
              simp only [Option.some.injEq, Prod.mk.injEq] at H
              obtain ⟨rfl, rfl⟩ := H
              go_wp2_with (first | (go_at_call 44; (with_reducible refine (strconv_Itoa.calls a1 t307 _ (tab_ hT_ ?hTab) A15.out).mono ?_); (case hTab => exact (by repeat (first | (with_reducible first | exact HB.out | apply below_alloc | apply pw_below_drewN | apply below_drew1) | exact HB.out))); rintro e w16 ⟨rfl, hb⟩; have n0_ := Aside0.mk (below_step (by repeat (first | (with_reducible first | exact HB.out | apply below_alloc | apply pw_below_drewN | apply below_drew1) | exact HB.out)) hb); clear HB; have HB := n0_; clear n0_; (try clear hb); (try clear hb2); (try clear hk); (try clear hi)))
              repeat (go_quiet (first | (go_at_call 44; (with_reducible refine (strconv_Itoa.calls a1 t307 _ (tab_ hT_ ?hTab) A15.out).mono ?_); (case hTab => exact (by repeat (first | (with_reducible first | exact HB.out | apply below_alloc | apply pw_below_drewN | apply below_drew1) | exact HB.out))); rintro e w16 ⟨rfl, hb⟩; have n0_ := Aside0.mk (below_step (by repeat (first | (with_reducible first | exact HB.out | apply below_alloc | apply pw_below_drewN | apply below_drew1) | exact HB.out)) hb); clear HB; have HB := n0_; clear n0_; (try clear hb); (try clear hb2); (try clear hk); (try clear hi))); try go_wp2_with (first | (go_at_call 44; (with_reducible refine (strconv_Itoa.calls a1 t307 _ (tab_ hT_ ?hTab) A15.out).mono ?_); (case hTab => exact (by repeat (first | (with_reducible first | exact HB.out | apply below_alloc | apply pw_below_drewN | apply below_drew1) | exact HB.out))); rintro e w16 ⟨rfl, hb⟩; have n0_ := Aside0.mk (below_step (by repeat (first | (with_reducible first | exact HB.out | apply below_alloc | apply pw_below_drewN | apply below_drew1) | exact HB.out)) hb); clear HB; have HB := n0_; clear n0_; (try clear hb); (try clear hb2); (try clear hk); (try clear hi))))
              go_ret2
              exact ⟨by first | rfl | (simp [errW_none, errW_some] <;> rfl) | (simp [*, errW_none, errW_some] <;> rfl) | (simp [q_ne_nil]; done), by repeat (first | (with_reducible first | exact HB.out | apply below_alloc | apply pw_below_drewN | apply below_drew1) | exact HB.out)⟩
            · rw [if_neg c14] at H
              have c14b0 : (a0 == 1) = false := beq_eq_false_iff_ne.mpr c14
              have c14b1 : (a0 != 1) = true := bne_iff_ne.mpr c14
              by_cases c17 : a0 = 2
              · rw [if_pos c17] at H
                have c17b0 : (a0 == 2) = true := beq_iff_eq.mpr c17
                have c17b1 : (a0 != 2) = false := bne_eq_false_iff_eq.mpr c17
                clear c17
                replace H := Option.bind_eq_some_iff.mp H
                obtain ⟨t308, A180, H⟩ := H
                replace H : (some (t308, true)) = some (r1, r2) := H
                have A18 := Aside0.mk A180
                clear A180
                simp only [Option.some.injEq, Prod.mk.injEq] at H
                obtain ⟨rfl, rfl⟩ := H
                go_wp2_with (first | (go_at_call 48; (with_reducible refine (glacisref05_decimal.calls kj6 a1 t308 _ (tab_ hT_ ?hTab) A18.out).mono ?_); (case hTab => exact (by repeat (first | (with_reducible first | exact HB.out | apply below_alloc | apply pw_below_drewN | apply below_drew1) | exact HB.out))); rintro e w19 ⟨rfl, hb⟩; have n0_ := Aside0.mk (below_step (by repeat (first | (with_reducible first | exact HB.out | apply below_alloc | apply pw_below_drewN | apply below_drew1) | exact HB.out)) hb); clear HB; have HB := n0_; clear n0_; (try clear hb); (try clear hb2); (try clear hk); (try clear hi)))
                repeat (go_quiet (first | (go_at_call 48; (with_reducible refine (glacisref05_decimal.calls kj6 a1 t308 _ (tab_ hT_ ?hTab) A18.out).mono ?_); (case hTab => exact (by repeat (first | (with_reducible first | exact HB.out | apply below_alloc | apply pw_below_drewN | apply below_drew1) | exact HB.out))); rintro e w19 ⟨rfl, hb⟩; have n0_ := Aside0.mk (below_step (by repeat (first | (with_reducible first | exact HB.out | apply below_alloc | apply pw_below_drewN | apply below_drew1) | exact HB.out)) hb); clear HB; have HB := n0_; clear n0_; (try clear hb); (try clear hb2); (try clear hk); (try clear hi))); try go_wp2_with (first | (go_at_call 48; (with_reducible refine (glacisref05_decimal.calls kj6 a1 t308 _ (tab_ hT_ ?hTab) A18.out).mono ?_); (case hTab => exact (by repeat (first | (with_reducible first | exact HB.out | apply below_alloc | apply pw_below_drewN | apply below_drew1) | exact HB.out))); rintro e w19 ⟨rfl, hb⟩; have n0_ := Aside0.mk (below_step (by repeat (first | (with_reducible first | exact HB.out | apply below_alloc | apply pw_below_drewN | apply below_drew1) | exact HB.out)) hb); clear HB; have HB := n0_; clear n0_; (try clear hb); (try clear hb2); (try clear hk); (try clear hi))))
                go_ret2
                exact ⟨by first | rfl | (simp [errW_none, errW_some] <;> rfl) | (simp [*, errW_none, errW_some] <;> rfl) | (simp [q_ne_nil]; done), by repeat (first | (with_reducible first | exact HB.out | apply below_alloc | apply pw_below_drewN | apply below_drew1) | exact HB.out)⟩
              · rw [if_neg c17] at H
                have c17b0 : (a0 == 2) = false := beq_eq_false_iff_ne.mpr c17
                have c17b1 : (a0 != 2) = true := bne_iff_ne.mpr c17
                by_cases c20 : a0 = 6
                · rw [if_pos c20] at H
                  have c20b0 : (a0 == 6) = true := beq_iff_eq.mpr c20
                  have c20b1 : (a0 != 6) = false := bne_eq_false_iff_eq.mpr c20
                  clear c20
                  replace H := Option.bind_eq_some_iff.mp H
                  obtain ⟨t309, A210, H⟩ := H
                  replace H : (if 1 + t309.size ≤ 9223372036854775807 then (if a1 = 0 then (some ((⟨#[63]⟩ : ByteArray) ++ t309, true)) else (some ((⟨#[63]⟩ : ByteArray) ++ t309, (a1 == 1)))) else (none)) = some (r1, r2) := H
                  have A21 := Aside0.mk A210
                  clear A210
                  by_cases c22 : 1 + t309.size ≤ 9223372036854775807
                  · rw [if_pos c22] at H
                    have c22b0 := eq_true c22
                    have c22b1 : decide (1 + t309.size ≤ 9223372036854775807) = true := decide_eq_true c22
                    try have c22b2 : (9223372036854775807 < 1 + t309.size) = False := eq_false (Nat.not_lt.2 c22)
                    by_cases c23 : a1 = 0
                    · rw [if_pos c23] at H
                      have c23b0 : (a1 == 0) = true := beq_iff_eq.mpr c23
                      have c23b1 : (a1 != 0) = false := bne_eq_false_iff_eq.mpr c23
                      clear c23
                      simp only [Option.some.injEq, Prod.mk.injEq] at H
                      obtain ⟨rfl, rfl⟩ := H
                      go_wp2_with (first | (go_at_call 44; (with_reducible refine (strconv_Itoa.calls a1 t309 _ (tab_ hT_ ?hTab) A21.out).mono ?_); (case hTab => exact (by repeat (first | (with_reducible first | exact HB.out | apply below_alloc | apply pw_below_drewN | apply below_drew1) | exact HB.out))); rintro e w24 ⟨rfl, hb⟩; have n0_ := Aside0.mk (below_step (by repeat (first | (with_reducible first | exact HB.out | apply below_alloc | apply pw_below_drewN | apply below_drew1) | exact HB.out)) hb); clear HB; have HB := n0_; clear n0_; (try clear hb); (try clear hb2); (try clear hk); (try clear hi)))
                      repeat (go_quiet (first | (go_at_call 44; (with_reducible refine (strconv_Itoa.calls a1 t309 _ (tab_ hT_ ?hTab) A21.out).mono ?_); (case hTab => exact (by repeat (first | (with_reducible first | exact HB.out | apply below_alloc | apply pw_below_drewN | apply below_drew1) | exact HB.out))); rintro e w24 ⟨rfl, hb⟩; have n0_ := Aside0.mk (below_step (by repeat (first | (with_reducible first | exact HB.out | apply below_alloc | apply pw_below_drewN | apply below_drew1) | exact HB.out)) hb); clear HB; have HB := n0_; clear n0_; (try clear hb); (try clear hb2); (try clear hk); (try clear hi))); try go_wp2_with (first | (go_at_call 44; (with_reducible refine (strconv_Itoa.calls a1 t309 _ (tab_ hT_ ?hTab) A21.out).mono ?_); (case hTab => exact (by repeat (first | (with_reducible first | exact HB.out | apply below_alloc | apply pw_below_drewN | apply below_drew1) | exact HB.out))); rintro e w24 ⟨rfl, hb⟩; have n0_ := Aside0.mk (below_step (by repeat (first | (with_reducible first | exact HB.out | apply below_alloc | apply pw_below_drewN | apply below_drew1) | exact HB.out)) hb); clear HB; have HB := n0_; clear n0_; (try clear hb); (try clear hb2); (try clear hk); (try clear hi))))
                      go_ret2
                      exact ⟨by first | rfl | (simp [errW_none, errW_some] <;> rfl) | (simp [*, errW_none, errW_some] <;> rfl) | (simp [q_ne_nil]; done), by repeat (first | (with_reducible first | exact HB.out | apply below_alloc | apply pw_below_drewN | apply below_drew1) | exact HB.out)⟩
                    · rw [if_neg c23] at H
                      have c23b0 : (a1 == 0) = false := beq_eq_false_iff_ne.mpr c23
                      have c23b1 : (a1 != 0) = true := bne_iff_ne.mpr c23
                      simp only [Option.some.injEq, Prod.mk.injEq] at H
                      obtain ⟨rfl, rfl⟩ := H
                      go_wp2_with (first | (go_at_call 44; (with_reducible refine (strconv_Itoa.calls a1 t309 _ (tab_ hT_ ?hTab) A21.out).mono ?_); (case hTab => exact (by repeat (first | (with_reducible first | exact HB.out | apply below_alloc | apply pw_below_drewN | apply below_drew1) | exact HB.out))); rintro e w25 ⟨rfl, hb⟩; have n0_ := Aside0.mk (below_step (by repeat (first | (with_reducible first | exact HB.out | apply below_alloc | apply pw_below_drewN | apply below_drew1) | exact HB.out)) hb); clear HB; have HB := n0_; clear n0_; (try clear hb); (try clear hb2); (try clear hk); (try clear hi)))
                      repeat (go_quiet (first | (go_at_call 44; (with_reducible refine (strconv_Itoa.calls a1 t309 _ (tab_ hT_ ?hTab) A21.out).mono ?_); (case hTab => exact (by repeat (first | (with_reducible first | exact HB.out | apply below_alloc | apply pw_below_drewN | apply below_drew1) | exact HB.out))); rintro e w25 ⟨rfl, hb⟩; have n0_ := Aside0.mk (below_step (by repeat (first | (with_reducible first | exact HB.out | apply below_alloc | apply pw_below_drewN | apply below_drew1) | exact HB.out)) hb); clear HB; have HB := n0_; clear n0_; (try clear hb); (try clear hb2); (try clear hk); (try clear hi))); try go_wp2_with (first | (go_at_call 44; (with_reducible refine (strconv_Itoa.calls a1 t309 _ (tab_ hT_ ?hTab) A21.out).mono ?_); (case hTab => exact (by repeat (first | (with_reducible first | exact HB.out | apply below_alloc | apply pw_below_drewN | apply below_drew1) | exact HB.out))); rintro e w25 ⟨rfl, hb⟩; have n0_ := Aside0.mk (below_step (by repeat (first | (with_reducible first | exact HB.out | apply below_alloc | apply pw_below_drewN | apply below_drew1) | exact HB.out)) hb); clear HB; have HB := n0_; clear n0_; (try clear hb); (try clear hb2); (try clear hk); (try clear hi))))
                      go_ret2
                      exact ⟨by first | rfl | (simp [errW_none, errW_some] <;> rfl) | (simp [*, errW_none, errW_some] <;> rfl) | (simp [q_ne_nil]; done), by repeat (first | (with_reducible first | exact HB.out | apply below_alloc | apply pw_below_drewN | apply below_drew1) | exact HB.out)⟩
                  · rw [if_neg c22] at H
                    exact absurd H (by simp)
                · rw [if_neg c20] at H
                  have c20b0 : (a0 == 6) = false := beq_eq_false_iff_ne.mpr c20
                  have c20b1 : (a0 != 6) = true := bne_iff_ne.mpr c20
                  by_cases c26 : a0 = 3
                  · rw [if_pos c26] at H
                    have c26b0 : (a0 == 3) = true := beq_iff_eq.mpr c26
                    have c26b1 : (a0 != 3) = false := bne_eq_false_iff_eq.mpr c26
                    clear c26
                    have H' := Aside0.mk H
                    clear H
                    go_wp2
                    repeat (go_quiet (fail); try go_wp2)
                    go_loopg [9, 10] kj6 (fun kq v9 v10 w' => ∃ (x9_3 : ByteArray) (x10_3 : Int), v9 = .string x9_3 ∧ v10 = .int .i64 x10_3 ∧ Aside0 (glacisref05_Value.l0 kq a2 x9_3 x10_3 = some (r1, r2)) ∧ Aside0 (kq ≤ kj6) ∧ Aside0 (Below w.heap.size w w'))
                    case atStart => exact ⟨((⟨#[]⟩ : ByteArray)), (0), (by first | rfl | (simp; done) | (simp [*]; done) | (simp [q_ne_nil]; done)), (by first | rfl | (simp; done) | (simp [*]; done) | (simp [q_ne_nil]; done)), H', ⟨Nat.le_refl _⟩, ⟨by repeat (first | (with_reducible first | exact HB.out | apply below_alloc | apply pw_below_drewN | apply below_drew1) | exact HB.out)⟩⟩
                    case round =>
                      clear H'
                      try clear c1
                      try clear c2
                      try clear p2
                      try clear c5
                      try clear c5b0
                      try clear c5b1
                      try clear c6
                      try clear c6b0
                      try clear c6b1
                      try clear c8
                      try clear c9
                      try clear c9b0
                      try clear c9b1
                      try clear c10
                      try clear c10b0
                      try clear c11
                      try clear c11b0
                      try clear c11b1
                      try clear c12
                      try clear c12b0
                      try clear c13
                      try clear c14
                      try clear c14b0
                      try clear c14b1
                      try clear c17
                      try clear c17b0
                      try clear c17b1
                      try clear c20
                      try clear c20b0
                      try clear c20b1
                      try clear c22
                      try clear c22b0
                      try clear c22b1
                      try clear c22b2
                      try clear c23
                      try clear c23b0
                      try clear c23b1
                      try clear c25
                      try clear c26
                      try clear c26b0
                      try clear c26b1
                      try clear p2
                      obtain ⟨x9_3, x10_3, rfl, rfl, HA, HK3, HB⟩ := hrel
                      cases gk with
                      | zero => exact absurd HA.out (by simp [glacisref05_Value.l0])
                      | succ k3 =>
                        have H := HA.out
                        clear HA
                        simp only [glacisref05_Value.l0] at H
                        by_cases c27 : x10_3 < (a2.size : Int)
                        · rw [if_pos c27] at H
                          have c27b0 : decide (x10_3 < (a2.size : Int)) = true := decide_eq_true c27
                          clear c27
                          have HC28 := Aside0.mk H
                          clear H
                          go_upto_region 16 with (fail)
                          repeat (go_quiet (fail); go_upto_region 16 with (fail))
                          go_cut [85] (fun v85 wc => ∃ (kq : Nat) (x85_27 : Bool), v85 = .bool x85_27 ∧ Aside0 (glacisref05_Value.j3 kq a2 x9_3 x10_3 x85_27 = some (r1, r2)) ∧ Aside0 (kq ≤ k3) ∧ Aside0 (Below w.heap.size w wc))
                          case first =>
                            have H := HC28.out
                            clear HC28
                            by_cases c29 : 0 ≤ x10_3
                            · rw [if_pos c29] at H
                              have c29b0 : decide (0 ≤ x10_3) = true := decide_eq_true c29
                              clear c29
                              (first | rw [c29b0] | (simp only [i64_w, i32_w]; rw [c29b0]) | skip)
                              by_cases c31 : (bt a2 x10_3) < 32
                              · rw [if_pos c31] at H
                                have c31b0 : decide ((bt a2 x10_3) < 32) = true := decide_eq_true c31
                                clear c31
                                have H' := Aside0.mk H
                                clear H
                                have p30 : 0 ≤ (x10_3 : Int) := of_decide_eq_true (by first | (with_reducible assumption) | assumption)
                                have q30 : x10_3 < (a2.size : Int) := of_decide_eq_true (by first | (with_reducible assumption) | assumption)
                                have hx30 := bt_at a2 x10_3
                                replace p30 := eq_true p30
                                replace q30 := eq_true q30
                                go_wp2
                                repeat (go_quiet (fail); try go_wp2)
                                go_meet
                                case rel => exact ⟨_, (true), (by first | rfl | (simp; done) | (simp [*]; done) | (simp [q_ne_nil]; done)), H', ⟨by have := HJ3.out; have := HJ6.out; have := HK3.out; first | omega | exact Nat.le_refl _⟩, ⟨by repeat (first | (with_reducible first | exact HB.out | apply below_alloc | apply pw_below_drewN | apply below_drew1) | exact HB.out)⟩⟩
                              · rw [if_neg c31] at H
                                have c31b0 : decide ((bt a2 x10_3) < 32) = false := decide_eq_false c31
                                clear c31
                                have H' := Aside0.mk H
                                clear H
                                have p30 : 0 ≤ (x10_3 : Int) := of_decide_eq_true (by first | (with_reducible assumption) | assumption)
                                have q30 : x10_3 < (a2.size : Int) := of_decide_eq_true (by first | (with_reducible assumption) | assumption)
                                have hx30 := bt_at a2 x10_3
                                replace p30 := eq_true p30
                                replace q30 := eq_true q30
                                have p32 : 0 ≤ (x10_3 : Int) := of_decide_eq_true (by first | (with_reducible assumption) | assumption)
                                have q32 : x10_3 < (a2.size : Int) := of_decide_eq_true (by first | (with_reducible assumption) | assumption)
                                have hx32 := bt_at a2 x10_3
                                replace p32 := eq_true p32
                                replace q32 := eq_true q32
                                go_wp2
                                repeat (go_quiet (fail); try go_wp2)
                                go_meet
                                case rel => exact ⟨_, (decide ((bt a2 x10_3) > 126)), (by first | rfl | (simp; done) | (simp [*]; done) | (simp [q_ne_nil]; done)), H', ⟨by have := HJ3.out; have := HJ6.out; have := HK3.out; first | omega | exact Nat.le_refl _⟩, ⟨by repeat (first | (with_reducible first | exact HB.out | apply below_alloc | apply pw_below_drewN | apply below_drew1) | exact HB.out)⟩⟩
                            · rw [if_neg c29] at H
                              exact absurd H (by simp)
                          case rest =>
                            clear HC28
                            try clear c1
                            try clear c2
                            try clear p2
                            try clear c3
                            try clear p3
                            try clear q3
                            try clear hx3
                            try clear c5
                            try clear c5b0
                            try clear c5b1
                            try clear c6
                            try clear c6b0
                            try clear c6b1
                            try clear c8
                            try clear c9
                            try clear c9b0
                            try clear c9b1
                            try clear c10
                            try clear c10b0
                            try clear c11
                            try clear c11b0
                            try clear c11b1
                            try clear c12
                            try clear c12b0
                            try clear c13
                            try clear c14
                            try clear c14b0
                            try clear c14b1
                            try clear c17
                            try clear c17b0
                            try clear c17b1
                            try clear c20
                            try clear c20b0
                            try clear c20b1
                            try clear c22
                            try clear c22b0
                            try clear c22b1
                            try clear c22b2
                            try clear c23
                            try clear c23b0
                            try clear c23b1
                            try clear c25
                            try clear c26
                            try clear c26b0
                            try clear c26b1
                            try clear c27
                            try clear c27b0
                            try clear c29
                            try clear c29b0
                            try clear p30
                            try clear q30
                            try clear hx30
                            try clear c31
                            try clear c31b0
                            try clear p32
                            try clear q32
                            try clear hx32
                            try clear p2
                            try clear p30
                            try clear p32
                            try clear q30
                            try clear q32
                            obtain ⟨kq, x85_27, rfl, HA, HJ27, HB⟩ := hcut
                            cases kq with
                            | zero => exact absurd HA.out (by simp [glacisref05_Value.j3])
                            | succ kj27 =>
                              have H := HA.out
                              clear HA
                              simp only [glacisref05_Value.j3] at H
                              by_cases c33 : x85_27 = true
                              · subst c33
                                have H1 : (some ((⟨#[]⟩ : ByteArray), false)) = some (r1, r2) := by rw [if_pos rfl] at H; exact H
                                clear H
                                have H := H1
                                clear H1
                                simp only [Option.some.injEq, Prod.mk.injEq] at H
                                obtain ⟨rfl, rfl⟩ := H
                                go_wp2
                                repeat (go_quiet (fail); try go_wp2)
                                go_ret2
                                exact ⟨by first | rfl | (simp [errW_none, errW_some] <;> rfl) | (simp [*, errW_none, errW_some] <;> rfl) | (simp [q_ne_nil]; done), by repeat (first | (with_reducible first | exact HB.out | apply below_alloc | apply pw_below_drewN | apply below_drew1) | exact HB.out)⟩
                              · replace c33 := Bool.eq_false_iff.mpr c33
                                subst c33
                                have H1 : (if 0 ≤ x10_3 then (if x10_3 < (a2.size : Int) then (if (bt a2 x10_3) = 34 then (if x9_3.size + 1 ≤ 9223372036854775807 then (if x10_3 ≤ (wrap64 (x10_3 + 1)) then (if (wrap64 (x10_3 + 1)) ≤ (a2.size : Int) then (if (x9_3 ++ (⟨#[92]⟩ : ByteArray)).size + (a2.extract (x10_3 : Int).toNat ((wrap64 (x10_3 + 1)) : Int).toNat).size ≤ 9223372036854775807 then (glacisref05_Value.l0 kj27 a2 ((x9_3 ++ (⟨#[92]⟩ : ByteArray)) ++ (a2.extract (x10_3 : Int).toNat ((wrap64 (x10_3 + 1)) : Int).toNat)) (wrap64 (x10_3 + 1))) else (none)) else (none)) else (none)) else (none)) else (if (bt a2 x10_3) = 92 then (if x9_3.size + 1 ≤ 9223372036854775807 then (if x10_3 ≤ (wrap64 (x10_3 + 1)) then (if (wrap64 (x10_3 + 1)) ≤ (a2.size : Int) then (if (x9_3 ++ (⟨#[92]⟩ : ByteArray)).size + (a2.extract (x10_3 : Int).toNat ((wrap64 (x10_3 + 1)) : Int).toNat).size ≤ 9223372036854775807 then (glacisref05_Value.l0 kj27 a2 ((x9_3 ++ (⟨#[92]⟩ : ByteArray)) ++ (a2.extract (x10_3 : Int).toNat ((wrap64 (x10_3 + 1)) : Int).toNat)) (wrap64 (x10_3 + 1))) else (none)) else (none)) else (none)) else (none)) else (if x10_3 ≤ (wrap64 (x10_3 + 1)) then (if (wrap64 (x10_3 + 1)) ≤ (a2.size : Int) then (if x9_3.size + (a2.extract (x10_3 : Int).toNat ((wrap64 (x10_3 + 1)) : Int).toNat).size ≤ 9223372036854775807 then (glacisref05_Value.l0 kj27 a2 (x9_3 ++ (a2.extract (x10_3 : Int).toNat ((wrap64 (x10_3 + 1)) : Int).toNat)) (wrap64 (x10_3 + 1))) else (none)) else (none)) else (none)))) else (none)) else (none)) = some (r1, r2) := by rw [if_neg (show ¬ (false = true) by decide)] at H; exact H
                                clear H
                                have H := H1
                                clear H1
                                by_cases c34 : 0 ≤ x10_3
                                · rw [if_pos c34] at H
                                  have c34b0 : decide (0 ≤ x10_3) = true := decide_eq_true c34
                                  clear c34
                                  by_cases c35 : x10_3 < (a2.size : Int)
                                  · rw [if_pos c35] at H
                                    have c35b0 : decide (x10_3 < (a2.size : Int)) = true := decide_eq_true c35
                                    clear c35
                                    by_cases c37 : (bt a2 x10_3) = 34
                                    · rw [if_pos c37] at H
                                      have c37b0 : ((bt a2 x10_3) == 34) = true := beq_iff_eq.mpr c37
                                      have c37b1 : ((bt a2 x10_3) != 34) = false := bne_eq_false_iff_eq.mpr c37
                                      clear c37
                                      by_cases c38 : x9_3.size + 1 ≤ 9223372036854775807
                                      · rw [if_pos c38] at H
                                        have c38b0 := eq_true c38
                                        have c38b1 : decide (x9_3.size + 1 ≤ 9223372036854775807) = true := decide_eq_true c38
                                        try have c38b2 : (9223372036854775807 < x9_3.size + 1) = False := eq_false (Nat.not_lt.2 c38)
                                        have c39b0 := eq_true (of_decide_eq_true (by first | (with_reducible assumption) | assumption) : 0 ≤ x10_3)
                                        by_cases c40 : x10_3 ≤ (wrap64 (x10_3 + 1))
                                        · rw [if_pos c40] at H
                                          have c40b0 := eq_true c40
                                          have c40b1 : decide (x10_3 ≤ (wrap64 (x10_3 + 1))) = true := decide_eq_true c40
                                          by_cases c41 : (wrap64 (x10_3 + 1)) ≤ (a2.size : Int)
                                          · rw [if_pos c41] at H
                                            have c41b0 := eq_true c41
                                            have c41b1 : decide ((wrap64 (x10_3 + 1)) ≤ (a2.size : Int)) = true := decide_eq_true c41
                                            by_cases c42 : (x9_3 ++ (⟨#[92]⟩ : ByteArray)).size + (a2.extract (x10_3 : Int).toNat ((wrap64 (x10_3 + 1)) : Int).toNat).size ≤ 9223372036854775807
                                            · rw [if_pos c42] at H
                                              have c42b0 := eq_true c42
                                              have c42b1 : decide ((x9_3 ++ (⟨#[92]⟩ : ByteArray)).size + (a2.extract (x10_3 : Int).toNat ((wrap64 (x10_3 + 1)) : Int).toNat).size ≤ 9223372036854775807) = true := decide_eq_true c42
                                              try have c42b2 : (9223372036854775807 < (x9_3 ++ (⟨#[92]⟩ : ByteArray)).size + (a2.extract (x10_3 : Int).toNat ((wrap64 (x10_3 + 1)) : Int).toNat).size) = False := eq_false (Nat.not_lt.2 c42)
                                              have H' := Aside0.mk H
                                              clear H
                                              have p36 : 0 ≤ (x10_3 : Int) := of_decide_eq_true (by first | (with_reducible assumption) | assumption)
                                              have q36 : x10_3 < (a2.size : Int) := of_decide_eq_true (by first | (with_reducible assumption) | assumption)
                                              have hx36 := bt_at a2 x10_3
                                              replace p36 := eq_true p36
                                              replace q36 := eq_true q36
                                              go_wp2
                                              repeat (go_quiet (fail); try go_wp2)
                                              go_roundg kj27
                                              case measure => have := HJ3.out; have := HJ6.out; have := HK3.out; have := HJ27.out; omega
                                              case rel => exact ⟨((x9_3 ++ (⟨#[92]⟩ : ByteArray)) ++ (a2.extract (x10_3 : Int).toNat ((wrap64 (x10_3 + 1)) : Int).toNat)), (wrap64 (x10_3 + 1)), (by first | rfl | (simp; done) | (simp [*]; done) | (simp [q_ne_nil]; done)), (by first | rfl | (simp; done) | (simp [*]; done) | (simp [q_ne_nil]; done)), H', ⟨by have := HJ3.out; have := HJ6.out; have := HK3.out; have := HJ27.out; omega⟩, ⟨by repeat (first | (with_reducible first | exact HB.out | apply below_alloc | apply pw_below_drewN | apply below_drew1) | exact HB.out)⟩⟩
                                            · rw [if_neg c42] at H
                                              exact absurd H (by simp)
                                          · rw [if_neg c41] at H
                                            exact absurd H (by simp)
                                        · rw [if_neg c40] at H
                                          exact absurd H (by simp)
                                      · rw [if_neg c38] at H
                                        exact absurd H (by simp)
                                    · rw [if_neg c37] at H
                                      have c37b0 : ((bt a2 x10_3) == 34) = false := beq_eq_false_iff_ne.mpr c37
                                      have c37b1 : ((bt a2 x10_3) != 34) = true := bne_iff_ne.mpr c37
                                      by_cases c44 : (bt a2 x10_3) = 92
                                      · rw [if_pos c44] at H
                                        have c44b0 : ((bt a2 x10_3) == 92) = true := beq_iff_eq.mpr c44
                                        have c44b1 : ((bt a2 x10_3) != 92) = false := bne_eq_false_iff_eq.mpr c44
                                        clear c44
                                        by_cases c45 : x9_3.size + 1 ≤ 9223372036854775807
                                        · rw [if_pos c45] at H
                                          have c45b0 := eq_true c45
                                          have c45b1 : decide (x9_3.size + 1 ≤ 9223372036854775807) = true := decide_eq_true c45
                                          try have c45b2 : (9223372036854775807 < x9_3.size + 1) = False := eq_false (Nat.not_lt.2 c45)
                                          have c46b0 := eq_true (of_decide_eq_true (by first | (with_reducible assumption) | assumption) : 0 ≤ x10_3)
                                          by_cases c47 : x10_3 ≤ (wrap64 (x10_3 + 1))
                                          · rw [if_pos c47] at H
                                            have c47b0 := eq_true c47
                                            have c47b1 : decide (x10_3 ≤ (wrap64 (x10_3 + 1))) = true := decide_eq_true c47
                                            by_cases c48 : (wrap64 (x10_3 + 1)) ≤ (a2.size : Int)
                                            · rw [if_pos c48] at H
                                              have c48b0 := eq_true c48
                                              have c48b1 : decide ((wrap64 (x10_3 + 1)) ≤ (a2.size : Int)) = true := decide_eq_true c48
                                              by_cases c49 : (x9_3 ++ (⟨#[92]⟩ : ByteArray)).size + (a2.extract (x10_3 : Int).toNat ((wrap64 (x10_3 + 1)) : Int).toNat).size ≤ 9223372036854775807
                                              · rw [if_pos c49] at H
                                                have c49b0 := eq_true c49
                                                have c49b1 : decide ((x9_3 ++ (⟨#[92]⟩ : ByteArray)).size + (a2.extract (x10_3 : Int).toNat ((wrap64 (x10_3 + 1)) : Int).toNat).size ≤ 9223372036854775807) = true := decide_eq_true c49
                                                try have c49b2 : (9223372036854775807 < (x9_3 ++ (⟨#[92]⟩ : ByteArray)).size + (a2.extract (x10_3 : Int).toNat ((wrap64 (x10_3 + 1)) : Int).toNat).size) = False := eq_false (Nat.not_lt.2 c49)
                                                have H' := Aside0.mk H
                                                clear H
                                                have p36 : 0 ≤ (x10_3 : Int) := of_decide_eq_true (by first | (with_reducible assumption) | assumption)
                                                have q36 : x10_3 < (a2.size : Int) := of_decide_eq_true (by first | (with_reducible assumption) | assumption)
                                                have hx36 := bt_at a2 x10_3
                                                replace p36 := eq_true p36
                                                replace q36 := eq_true q36
                                                have p43 : 0 ≤ (x10_3 : Int) := of_decide_eq_true (by first | (with_reducible assumption) | assumption)
                                                have q43 : x10_3 < (a2.size : Int) := of_decide_eq_true (by first | (with_reducible assumption) | assumption)
                                                have hx43 := bt_at a2 x10_3
                                                replace p43 := eq_true p43
                                                replace q43 := eq_true q43
                                                go_wp2
                                                repeat (go_quiet (fail); try go_wp2)
                                                go_roundg kj27
                                                case measure => have := HJ3.out; have := HJ6.out; have := HK3.out; have := HJ27.out; omega
                                                case rel => exact ⟨((x9_3 ++ (⟨#[92]⟩ : ByteArray)) ++ (a2.extract (x10_3 : Int).toNat ((wrap64 (x10_3 + 1)) : Int).toNat)), (wrap64 (x10_3 + 1)), (by first | rfl | (simp; done) | (simp [*]; done) | (simp [q_ne_nil]; done)), (by first | rfl | (simp; done) | (simp [*]; done) | (simp [q_ne_nil]; done)), H', ⟨by have := HJ3.out; have := HJ6.out; have := HK3.out; have := HJ27.out; omega⟩, ⟨by repeat (first | (with_reducible first | exact HB.out | apply below_alloc | apply pw_below_drewN | apply below_drew1) | exact HB.out)⟩⟩
                                              · rw [if_neg c49] at H
                                                exact absurd H (by simp)
                                            · rw [if_neg c48] at H
                                              exact absurd H (by simp)
                                          · rw [if_neg c47] at H
                                            exact absurd H (by simp)
                                        · rw [if_neg c45] at H
                                          exact absurd H (by simp)
                                      · rw [if_neg c44] at H
                                        have c44b0 : ((bt a2 x10_3) == 92) = false := beq_eq_false_iff_ne.mpr c44
                                        have c44b1 : ((bt a2 x10_3) != 92) = true := bne_iff_ne.mpr c44
                                        have c50b0 := eq_true (of_decide_eq_true (by first | (with_reducible assumption) | assumption) : 0 ≤ x10_3)
                                        by_cases c51 : x10_3 ≤ (wrap64 (x10_3 + 1))
                                        · rw [if_pos c51] at H
                                          have c51b0 := eq_true c51
                                          have c51b1 : decide (x10_3 ≤ (wrap64 (x10_3 + 1))) = true := decide_eq_true c51
                                          by_cases c52 : (wrap64 (x10_3 + 1)) ≤ (a2.size : Int)
                                          · rw [if_pos c52] at H
                                            have c52b0 := eq_true c52
                                            have c52b1 : decide ((wrap64 (x10_3 + 1)) ≤ (a2.size : Int)) = true := decide_eq_true c52
                                            by_cases c53 : x9_3.size + (a2.extract (x10_3 : Int).toNat ((wrap64 (x10_3 + 1)) : Int).toNat).size ≤ 9223372036854775807
                                            · rw [if_pos c53] at H
                                              have c53b0 := eq_true c53
                                              have c53b1 : decide (x9_3.size + (a2.extract (x10_3 : Int).toNat ((wrap64 (x10_3 + 1)) : Int).toNat).size ≤ 9223372036854775807) = true := decide_eq_true c53
                                              try have c53b2 : (9223372036854775807 < x9_3.size + (a2.extract (x10_3 : Int).toNat ((wrap64 (x10_3 + 1)) : Int).toNat).size) = False := eq_false (Nat.not_lt.2 c53)
                                              have H' := Aside0.mk H
                                              clear H
                                              have p36 : 0 ≤ (x10_3 : Int) := of_decide_eq_true (by first | (with_reducible assumption) | assumption)
                                              have q36 : x10_3 < (a2.size : Int) := of_decide_eq_true (by first | (with_reducible assumption) | assumption)
                                              have hx36 := bt_at a2 x10_3
                                              replace p36 := eq_true p36
                                              replace q36 := eq_true q36
                                              have p43 : 0 ≤ (x10_3 : Int) := of_decide_eq_true (by first | (with_reducible assumption) | assumption)
                                              have q43 : x10_3 < (a2.size : Int) := of_decide_eq_true (by first | (with_reducible assumption) | assumption)
                                              have hx43 := bt_at a2 x10_3
                                              replace p43 := eq_true p43
                                              replace q43 := eq_true q43
                                              go_wp2
                                              repeat (go_quiet (fail); try go_wp2)
                                              go_roundg kj27
                                              case measure => have := HJ3.out; have := HJ6.out; have := HK3.out; have := HJ27.out; omega
                                              case rel => exact ⟨(x9_3 ++ (a2.extract (x10_3 : Int).toNat ((wrap64 (x10_3 + 1)) : Int).toNat)), (wrap64 (x10_3 + 1)), (by first | rfl | (simp; done) | (simp [*]; done) | (simp [q_ne_nil]; done)), (by first | rfl | (simp; done) | (simp [*]; done) | (simp [q_ne_nil]; done)), H', ⟨by have := HJ3.out; have := HJ6.out; have := HK3.out; have := HJ27.out; omega⟩, ⟨by repeat (first | (with_reducible first | exact HB.out | apply below_alloc | apply pw_below_drewN | apply below_drew1) | exact HB.out)⟩⟩
                                            · rw [if_neg c53] at H
                                              exact absurd H (by simp)
                                          · rw [if_neg c52] at H
                                            exact absurd H (by simp)
                                        · rw [if_neg c51] at H
                                          exact absurd H (by simp)
                                  · rw [if_neg c35] at H
                                    exact absurd H (by simp)
                                · rw [if_neg c34] at H
                                  exact absurd H (by simp)
                        · rw [if_neg c27] at H
                          have c27b0 : decide (x10_3 < (a2.size : Int)) = false := decide_eq_false c27
                          clear c27
                          by_cases c54 : 1 + x9_3.size ≤ 9223372036854775807
                          · rw [if_pos c54] at H
                            have c54b0 := eq_true c54
                            have c54b1 : decide (1 + x9_3.size ≤ 9223372036854775807) = true := decide_eq_true c54
                            try have c54b2 : (9223372036854775807 < 1 + x9_3.size) = False := eq_false (Nat.not_lt.2 c54)
                            by_cases c55 : ((⟨#[34]⟩ : ByteArray) ++ x9_3).size + 1 ≤ 9223372036854775807
                            · rw [if_pos c55] at H
                              have c55b0 := eq_true c55
                              have c55b1 : decide (((⟨#[34]⟩ : ByteArray) ++ x9_3).size + 1 ≤ 9223372036854775807) = true := decide_eq_true c55
                              try have c55b2 : (9223372036854775807 < ((⟨#[34]⟩ : ByteArray) ++ x9_3).size + 1) = False := eq_false (Nat.not_lt.2 c55)
                              try (have c55d : (9223372036854775807 < 1 + x9_3.size + 1) = False := eq_false (by have h_ := c55; simp only [ByteArray.size_append] at h_; exact Nat.not_lt.2 h_))
                              simp only [Option.some.injEq, Prod.mk.injEq] at H
                              obtain ⟨rfl, rfl⟩ := H
                              go_wp2
                              repeat (go_quiet (fail); try go_wp2)
                              go_ret2
                              exact ⟨by first | rfl | (simp [errW_none, errW_some] <;> rfl) | (simp [*, errW_none, errW_some] <;> rfl) | (simp [q_ne_nil]; done), by repeat (first | (with_reducible first | exact HB.out | apply below_alloc | apply pw_below_drewN | apply below_drew1) | exact HB.out)⟩
                            · rw [if_neg c55] at H
                              exact absurd H (by simp)
                          · rw [if_neg c54] at H
                            exact absurd H (by simp)
                  · rw [if_neg c26] at H
                    have c26b0 : (a0 == 3) = false := beq_eq_false_iff_ne.mpr c26
                    have c26b1 : (a0 != 3) = true := bne_iff_ne.mpr c26
                    by_cases c56 : a0 = 4
                    · rw [if_pos c56] at H
                      have c56b0 : (a0 == 4) = true := beq_iff_eq.mpr c56
                      have c56b1 : (a0 != 4) = false := bne_eq_false_iff_eq.mpr c56
                      clear c56
                      replace H := Option.bind_eq_some_iff.mp H
                      obtain ⟨⟨t310, t311, t312, t313, t314, t315⟩, A570, H⟩ := H
                      replace H : (if t315 = true then (if t314.toList = ([] : List UInt8) then (some (a2, (t311 == 4))) else (some (a2, false))) else (some (a2, false))) = some (r1, r2) := H
                      have A57 := Aside0.mk A570
                      clear A570
                      by_cases c58 : t315 = true
                      · subst c58
                        have H1 : (if t314.toList = ([] : List UInt8) then (some (a2, (t311 == 4))) else (some (a2, false))) = some (r1, r2) := by rw [if_pos rfl] at H; exact H
                        clear H
                        have H := H1
                        clear H1
                        by_cases c59 : t314.toList = ([] : List UInt8)
                        · rw [if_pos c59] at H
                          have c59b0 : (t314.toList == ([] : List UInt8)) = true := beq_iff_eq.mpr c59
                          have c59b1 : (t314.toList != ([] : List UInt8)) = false := bne_eq_false_iff_eq.mpr c59
                          clear c59
                          simp only [Option.some.injEq, Prod.mk.injEq] at H
                          obtain ⟨rfl, rfl⟩ := H
                          go_wp2_with (first | (go_at_call 30; (with_reducible refine (glacisref05_value.calls kj6 a2 t310 t311 t312 t313 t314 true _ A57.out).mono ?_); rintro e w60 ⟨rfl, hb⟩; have n0_ := Aside0.mk (below_step (by repeat (first | (with_reducible first | exact HB.out | apply below_alloc | apply pw_below_drewN | apply below_drew1) | exact HB.out)) hb); clear HB; have HB := n0_; clear n0_; (try clear hb); (try clear hb2); (try clear hk); (try clear hi)) | ((with_reducible refine gate_dst (N := 11) rfl ?_); refine box_event ?hg (N := 11) ?hd (cs := #[.string (⟨#[]⟩ : ByteArray), .int .i64 0, .int .i64 0, .string (⟨#[]⟩ : ByteArray)]) (t := 43) ?hr ?_; (case hd => rfl); (case hg => rfl); (case hr => first | (go_simp; done) | (go_simp; rfl)); intro gb316 hg w61 hbox hb; have n0_ := Aside0.mk (below_step (by repeat (first | (with_reducible first | exact HB.out | apply below_alloc | apply pw_below_drewN | apply below_drew1) | exact HB.out)) hb); have n1_ := Aside0.mk (hbox); have n2_ := Aside0.mk ((by rw [hg]; exact (below_size (by repeat (first | (with_reducible first | exact HB.out | apply below_alloc | apply pw_below_drewN | apply below_drew1) | exact HB.out))) : w.heap.size ≤ gb316)); have n3_ := Aside0.mk ((by rw [hg]; exact (below_size (by repeat (first | (with_reducible first | exact HB.out | apply below_alloc | apply pw_below_drewN | apply below_drew1) | exact HB.out))) : w.heap.size ≤ gb316)); clear HB; have HB := n0_; have BK316 := n1_; have GW316 := n2_; have GE316 := n3_; clear n0_ n1_ n2_ n3_; clear hb hbox hg; have hcz62_0 : w61.cell? ⟨gb316, 0, none⟩ = some (.string (⟨#[]⟩ : ByteArray)) := (blk_cell BK316.out 0).trans rfl; have hcz62_1 : w61.cell? ⟨gb316, 1, none⟩ = some (.int .i64 0) := (blk_cell BK316.out 1).trans rfl; have hcz62_2 : w61.cell? ⟨gb316, 2, none⟩ = some (.int .i64 0) := (blk_cell BK316.out 2).trans rfl; have hcz62_3 : w61.cell? ⟨gb316, 3, none⟩ = some (.string (⟨#[]⟩ : ByteArray)) := (blk_cell BK316.out 3).trans rfl; have hfz62_0 := blk_frozen BK316.out 0; have hfz62_1 := blk_frozen BK316.out 1; have hfz62_2 := blk_frozen BK316.out 2; have hfz62_3 := blk_frozen BK316.out 3))
                          repeat (go_quiet (first | (go_at_call 30; (with_reducible refine (glacisref05_value.calls kj6 a2 t310 t311 t312 t313 t314 true _ A57.out).mono ?_); rintro e w60 ⟨rfl, hb⟩; have n0_ := Aside0.mk (below_step (by repeat (first | (with_reducible first | exact HB.out | apply below_alloc | apply pw_below_drewN | apply below_drew1) | exact HB.out)) hb); clear HB; have HB := n0_; clear n0_; (try clear hb); (try clear hb2); (try clear hk); (try clear hi)) | ((with_reducible refine gate_dst (N := 11) rfl ?_); refine box_event ?hg (N := 11) ?hd (cs := #[.string (⟨#[]⟩ : ByteArray), .int .i64 0, .int .i64 0, .string (⟨#[]⟩ : ByteArray)]) (t := 43) ?hr ?_; (case hd => rfl); (case hg => rfl); (case hr => first | (go_simp; done) | (go_simp; rfl)); intro gb316 hg w61 hbox hb; have n0_ := Aside0.mk (below_step (by repeat (first | (with_reducible first | exact HB.out | apply below_alloc | apply pw_below_drewN | apply below_drew1) | exact HB.out)) hb); have n1_ := Aside0.mk (hbox); have n2_ := Aside0.mk ((by rw [hg]; exact (below_size (by repeat (first | (with_reducible first | exact HB.out | apply below_alloc | apply pw_below_drewN | apply below_drew1) | exact HB.out))) : w.heap.size ≤ gb316)); have n3_ := Aside0.mk ((by rw [hg]; exact (below_size (by repeat (first | (with_reducible first | exact HB.out | apply below_alloc | apply pw_below_drewN | apply below_drew1) | exact HB.out))) : w.heap.size ≤ gb316)); clear HB; have HB := n0_; have BK316 := n1_; have GW316 := n2_; have GE316 := n3_; clear n0_ n1_ n2_ n3_; clear hb hbox hg; have hcz62_0 : w61.cell? ⟨gb316, 0, none⟩ = some (.string (⟨#[]⟩ : ByteArray)) := (blk_cell BK316.out 0).trans rfl; have hcz62_1 : w61.cell? ⟨gb316, 1, none⟩ = some (.int .i64 0) := (blk_cell BK316.out 1).trans rfl; have hcz62_2 : w61.cell? ⟨gb316, 2, none⟩ = some (.int .i64 0) := (blk_cell BK316.out 2).trans rfl; have hcz62_3 : w61.cell? ⟨gb316, 3, none⟩ = some (.string (⟨#[]⟩ : ByteArray)) := (blk_cell BK316.out 3).trans rfl; have hfz62_0 := blk_frozen BK316.out 0; have hfz62_1 := blk_frozen BK316.out 1; have hfz62_2 := blk_frozen BK316.out 2; have hfz62_3 := blk_frozen BK316.out 3)); try go_wp2_with (first | (go_at_call 30; (with_reducible refine (glacisref05_value.calls kj6 a2 t310 t311 t312 t313 t314 true _ A57.out).mono ?_); rintro e w60 ⟨rfl, hb⟩; have n0_ := Aside0.mk (below_step (by repeat (first | (with_reducible first | exact HB.out | apply below_alloc | apply pw_below_drewN | apply below_drew1) | exact HB.out)) hb); clear HB; have HB := n0_; clear n0_; (try clear hb); (try clear hb2); (try clear hk); (try clear hi)) | ((with_reducible refine gate_dst (N := 11) rfl ?_); refine box_event ?hg (N := 11) ?hd (cs := #[.string (⟨#[]⟩ : ByteArray), .int .i64 0, .int .i64 0, .string (⟨#[]⟩ : ByteArray)]) (t := 43) ?hr ?_; (case hd => rfl); (case hg => rfl); (case hr => first | (go_simp; done) | (go_simp; rfl)); intro gb316 hg w61 hbox hb; have n0_ := Aside0.mk (below_step (by repeat (first | (with_reducible first | exact HB.out | apply below_alloc | apply pw_below_drewN | apply below_drew1) | exact HB.out)) hb); have n1_ := Aside0.mk (hbox); have n2_ := Aside0.mk ((by rw [hg]; exact (below_size (by repeat (first | (with_reducible first | exact HB.out | apply below_alloc | apply pw_below_drewN | apply below_drew1) | exact HB.out))) : w.heap.size ≤ gb316)); have n3_ := Aside0.mk ((by rw [hg]; exact (below_size (by repeat (first | (with_reducible first | exact HB.out | apply below_alloc | apply pw_below_drewN | apply below_drew1) | exact HB.out))) : w.heap.size ≤ gb316)); clear HB; have HB := n0_; have BK316 := n1_; have GW316 := n2_; have GE316 := n3_; clear n0_ n1_ n2_ n3_; clear hb hbox hg; have hcz62_0 : w61.cell? ⟨gb316, 0, none⟩ = some (.string (⟨#[]⟩ : ByteArray)) := (blk_cell BK316.out 0).trans rfl; have hcz62_1 : w61.cell? ⟨gb316, 1, none⟩ = some (.int .i64 0) := (blk_cell BK316.out 1).trans rfl; have hcz62_2 : w61.cell? ⟨gb316, 2, none⟩ = some (.int .i64 0) := (blk_cell BK316.out 2).trans rfl; have hcz62_3 : w61.cell? ⟨gb316, 3, none⟩ = some (.string (⟨#[]⟩ : ByteArray)) := (blk_cell BK316.out 3).trans rfl; have hfz62_0 := blk_frozen BK316.out 0; have hfz62_1 := blk_frozen BK316.out 1; have hfz62_2 := blk_frozen BK316.out 2; have hfz62_3 := blk_frozen BK316.out 3)))
                          go_ret2
                          exact ⟨by first | rfl | (simp [errW_none, errW_some] <;> rfl) | (simp [*, errW_none, errW_some] <;> rfl) | (simp [q_ne_nil]; done), by repeat (first | (with_reducible first | exact HB.out | apply below_alloc | apply pw_below_drewN | apply below_drew1 | refine below_set ?_ GE316.out) | exact HB.out)⟩
                        · rw [if_neg c59] at H
                          have c59b0 : (t314.toList == ([] : List UInt8)) = false := beq_eq_false_iff_ne.mpr c59
                          have c59b1 : (t314.toList != ([] : List UInt8)) = true := bne_iff_ne.mpr c59
                          simp only [Option.some.injEq, Prod.mk.injEq] at H
                          obtain ⟨rfl, rfl⟩ := H
                          go_wp2_with (first | (go_at_call 30; (with_reducible refine (glacisref05_value.calls kj6 a2 t310 t311 t312 t313 t314 true _ A57.out).mono ?_); rintro e w63 ⟨rfl, hb⟩; have n0_ := Aside0.mk (below_step (by repeat (first | (with_reducible first | exact HB.out | apply below_alloc | apply pw_below_drewN | apply below_drew1) | exact HB.out)) hb); clear HB; have HB := n0_; clear n0_; (try clear hb); (try clear hb2); (try clear hk); (try clear hi)) | ((with_reducible refine gate_dst (N := 11) rfl ?_); refine box_event ?hg (N := 11) ?hd (cs := #[.string (⟨#[]⟩ : ByteArray), .int .i64 0, .int .i64 0, .string (⟨#[]⟩ : ByteArray)]) (t := 43) ?hr ?_; (case hd => rfl); (case hg => rfl); (case hr => first | (go_simp; done) | (go_simp; rfl)); intro gb316 hg w64 hbox hb; have n0_ := Aside0.mk (below_step (by repeat (first | (with_reducible first | exact HB.out | apply below_alloc | apply pw_below_drewN | apply below_drew1) | exact HB.out)) hb); have n1_ := Aside0.mk (hbox); have n2_ := Aside0.mk ((by rw [hg]; exact (below_size (by repeat (first | (with_reducible first | exact HB.out | apply below_alloc | apply pw_below_drewN | apply below_drew1) | exact HB.out))) : w.heap.size ≤ gb316)); have n3_ := Aside0.mk ((by rw [hg]; exact (below_size (by repeat (first | (with_reducible first | exact HB.out | apply below_alloc | apply pw_below_drewN | apply below_drew1) | exact HB.out))) : w.heap.size ≤ gb316)); clear HB; have HB := n0_; have BK316 := n1_; have GW316 := n2_; have GE316 := n3_; clear n0_ n1_ n2_ n3_; clear hb hbox hg; have hcz65_0 : w64.cell? ⟨gb316, 0, none⟩ = some (.string (⟨#[]⟩ : ByteArray)) := (blk_cell BK316.out 0).trans rfl; have hcz65_1 : w64.cell? ⟨gb316, 1, none⟩ = some (.int .i64 0) := (blk_cell BK316.out 1).trans rfl; have hcz65_2 : w64.cell? ⟨gb316, 2, none⟩ = some (.int .i64 0) := (blk_cell BK316.out 2).trans rfl; have hcz65_3 : w64.cell? ⟨gb316, 3, none⟩ = some (.string (⟨#[]⟩ : ByteArray)) := (blk_cell BK316.out 3).trans rfl; have hfz65_0 := blk_frozen BK316.out 0; have hfz65_1 := blk_frozen BK316.out 1; have hfz65_2 := blk_frozen BK316.out 2; have hfz65_3 := blk_frozen BK316.out 3))
                          repeat (go_quiet (first | (go_at_call 30; (with_reducible refine (glacisref05_value.calls kj6 a2 t310 t311 t312 t313 t314 true _ A57.out).mono ?_); rintro e w63 ⟨rfl, hb⟩; have n0_ := Aside0.mk (below_step (by repeat (first | (with_reducible first | exact HB.out | apply below_alloc | apply pw_below_drewN | apply below_drew1) | exact HB.out)) hb); clear HB; have HB := n0_; clear n0_; (try clear hb); (try clear hb2); (try clear hk); (try clear hi)) | ((with_reducible refine gate_dst (N := 11) rfl ?_); refine box_event ?hg (N := 11) ?hd (cs := #[.string (⟨#[]⟩ : ByteArray), .int .i64 0, .int .i64 0, .string (⟨#[]⟩ : ByteArray)]) (t := 43) ?hr ?_; (case hd => rfl); (case hg => rfl); (case hr => first | (go_simp; done) | (go_simp; rfl)); intro gb316 hg w64 hbox hb; have n0_ := Aside0.mk (below_step (by repeat (first | (with_reducible first | exact HB.out | apply below_alloc | apply pw_below_drewN | apply below_drew1) | exact HB.out)) hb); have n1_ := Aside0.mk (hbox); have n2_ := Aside0.mk ((by rw [hg]; exact (below_size (by repeat (first | (with_reducible first | exact HB.out | apply below_alloc | apply pw_below_drewN | apply below_drew1) | exact HB.out))) : w.heap.size ≤ gb316)); have n3_ := Aside0.mk ((by rw [hg]; exact (below_size (by repeat (first | (with_reducible first | exact HB.out | apply below_alloc | apply pw_below_drewN | apply below_drew1) | exact HB.out))) : w.heap.size ≤ gb316)); clear HB; have HB := n0_; have BK316 := n1_; have GW316 := n2_; have GE316 := n3_; clear n0_ n1_ n2_ n3_; clear hb hbox hg; have hcz65_0 : w64.cell? ⟨gb316, 0, none⟩ = some (.string (⟨#[]⟩ : ByteArray)) := (blk_cell BK316.out 0).trans rfl; have hcz65_1 : w64.cell? ⟨gb316, 1, none⟩ = some (.int .i64 0) := (blk_cell BK316.out 1).trans rfl; have hcz65_2 : w64.cell? ⟨gb316, 2, none⟩ = some (.int .i64 0) := (blk_cell BK316.out 2).trans rfl; have hcz65_3 : w64.cell? ⟨gb316, 3, none⟩ = some (.string (⟨#[]⟩ : ByteArray)) := (blk_cell BK316.out 3).trans rfl; have hfz65_0 := blk_frozen BK316.out 0; have hfz65_1 := blk_frozen BK316.out 1; have hfz65_2 := blk_frozen BK316.out 2; have hfz65_3 := blk_frozen BK316.out 3)); try go_wp2_with (first | (go_at_call 30; (with_reducible refine (glacisref05_value.calls kj6 a2 t310 t311 t312 t313 t314 true _ A57.out).mono ?_); rintro e w63 ⟨rfl, hb⟩; have n0_ := Aside0.mk (below_step (by repeat (first | (with_reducible first | exact HB.out | apply below_alloc | apply pw_below_drewN | apply below_drew1) | exact HB.out)) hb); clear HB; have HB := n0_; clear n0_; (try clear hb); (try clear hb2); (try clear hk); (try clear hi)) | ((with_reducible refine gate_dst (N := 11) rfl ?_); refine box_event ?hg (N := 11) ?hd (cs := #[.string (⟨#[]⟩ : ByteArray), .int .i64 0, .int .i64 0, .string (⟨#[]⟩ : ByteArray)]) (t := 43) ?hr ?_; (case hd => rfl); (case hg => rfl); (case hr => first | (go_simp; done) | (go_simp; rfl)); intro gb316 hg w64 hbox hb; have n0_ := Aside0.mk (below_step (by repeat (first | (with_reducible first | exact HB.out | apply below_alloc | apply pw_below_drewN | apply below_drew1) | exact HB.out)) hb); have n1_ := Aside0.mk (hbox); have n2_ := Aside0.mk ((by rw [hg]; exact (below_size (by repeat (first | (with_reducible first | exact HB.out | apply below_alloc | apply pw_below_drewN | apply below_drew1) | exact HB.out))) : w.heap.size ≤ gb316)); have n3_ := Aside0.mk ((by rw [hg]; exact (below_size (by repeat (first | (with_reducible first | exact HB.out | apply below_alloc | apply pw_below_drewN | apply below_drew1) | exact HB.out))) : w.heap.size ≤ gb316)); clear HB; have HB := n0_; have BK316 := n1_; have GW316 := n2_; have GE316 := n3_; clear n0_ n1_ n2_ n3_; clear hb hbox hg; have hcz65_0 : w64.cell? ⟨gb316, 0, none⟩ = some (.string (⟨#[]⟩ : ByteArray)) := (blk_cell BK316.out 0).trans rfl; have hcz65_1 : w64.cell? ⟨gb316, 1, none⟩ = some (.int .i64 0) := (blk_cell BK316.out 1).trans rfl; have hcz65_2 : w64.cell? ⟨gb316, 2, none⟩ = some (.int .i64 0) := (blk_cell BK316.out 2).trans rfl; have hcz65_3 : w64.cell? ⟨gb316, 3, none⟩ = some (.string (⟨#[]⟩ : ByteArray)) := (blk_cell BK316.out 3).trans rfl; have hfz65_0 := blk_frozen BK316.out 0; have hfz65_1 := blk_frozen BK316.out 1; have hfz65_2 := blk_frozen BK316.out 2; have hfz65_3 := blk_frozen BK316.out 3)))
                          go_ret2
                          exact ⟨by first | rfl | (simp [errW_none, errW_some] <;> rfl) | (simp [*, errW_none, errW_some] <;> rfl) | (simp [q_ne_nil]; done), by repeat (first | (with_reducible first | exact HB.out | apply below_alloc | apply pw_below_drewN | apply below_drew1 | refine below_set ?_ GE316.out) | exact HB.out)⟩
                      · replace c58 := Bool.eq_false_iff.mpr c58
                        subst c58
                        have H1 : (some (a2, false)) = some (r1, r2) := by rw [if_neg (show ¬ (false = true) by decide)] at H; exact H
                        clear H
                        have H := H1
                        clear H1
                        simp only [Option.some.injEq, Prod.mk.injEq] at H
                        obtain ⟨rfl, rfl⟩ := H
                        go_wp2_with (first | (go_at_call 30; (with_reducible refine (glacisref05_value.calls kj6 a2 t310 t311 t312 t313 t314 false _ A57.out).mono ?_); rintro e w66 ⟨rfl, hb⟩; have n0_ := Aside0.mk (below_step (by repeat (first | (with_reducible first | exact HB.out | apply below_alloc | apply pw_below_drewN | apply below_drew1) | exact HB.out)) hb); clear HB; have HB := n0_; clear n0_; (try clear hb); (try clear hb2); (try clear hk); (try clear hi)) | ((with_reducible refine gate_dst (N := 11) rfl ?_); refine box_event ?hg (N := 11) ?hd (cs := #[.string (⟨#[]⟩ : ByteArray), .int .i64 0, .int .i64 0, .string (⟨#[]⟩ : ByteArray)]) (t := 43) ?hr ?_; (case hd => rfl); (case hg => rfl); (case hr => first | (go_simp; done) | (go_simp; rfl)); intro gb316 hg w67 hbox hb; have n0_ := Aside0.mk (below_step (by repeat (first | (with_reducible first | exact HB.out | apply below_alloc | apply pw_below_drewN | apply below_drew1) | exact HB.out)) hb); have n1_ := Aside0.mk (hbox); have n2_ := Aside0.mk ((by rw [hg]; exact (below_size (by repeat (first | (with_reducible first | exact HB.out | apply below_alloc | apply pw_below_drewN | apply below_drew1) | exact HB.out))) : w.heap.size ≤ gb316)); have n3_ := Aside0.mk ((by rw [hg]; exact (below_size (by repeat (first | (with_reducible first | exact HB.out | apply below_alloc | apply pw_below_drewN | apply below_drew1) | exact HB.out))) : w.heap.size ≤ gb316)); clear HB; have HB := n0_; have BK316 := n1_; have GW316 := n2_; have GE316 := n3_; clear n0_ n1_ n2_ n3_; clear hb hbox hg; have hcz68_0 : w67.cell? ⟨gb316, 0, none⟩ = some (.string (⟨#[]⟩ : ByteArray)) := (blk_cell BK316.out 0).trans rfl; have hcz68_1 : w67.cell? ⟨gb316, 1, none⟩ = some (.int .i64 0) := (blk_cell BK316.out 1).trans rfl; have hcz68_2 : w67.cell? ⟨gb316, 2, none⟩ = some (.int .i64 0) := (blk_cell BK316.out 2).trans rfl; have hcz68_3 : w67.cell? ⟨gb316, 3, none⟩ = some (.string (⟨#[]⟩ : ByteArray)) := (blk_cell BK316.out 3).trans rfl; have hfz68_0 := blk_frozen BK316.out 0; have hfz68_1 := blk_frozen BK316.out 1; have hfz68_2 := blk_frozen BK316.out 2; have hfz68_3 := blk_frozen BK316.out 3))
                        repeat (go_quiet (first | (go_at_call 30; (with_reducible refine (glacisref05_value.calls kj6 a2 t310 t311 t312 t313 t314 false _ A57.out).mono ?_); rintro e w66 ⟨rfl, hb⟩; have n0_ := Aside0.mk (below_step (by repeat (first | (with_reducible first | exact HB.out | apply below_alloc | apply pw_below_drewN | apply below_drew1) | exact HB.out)) hb); clear HB; have HB := n0_; clear n0_; (try clear hb); (try clear hb2); (try clear hk); (try clear hi)) | ((with_reducible refine gate_dst (N := 11) rfl ?_); refine box_event ?hg (N := 11) ?hd (cs := #[.string (⟨#[]⟩ : ByteArray), .int .i64 0, .int .i64 0, .string (⟨#[]⟩ : ByteArray)]) (t := 43) ?hr ?_; (case hd => rfl); (case hg => rfl); (case hr => first | (go_simp; done) | (go_simp; rfl)); intro gb316 hg w67 hbox hb; have n0_ := Aside0.mk (below_step (by repeat (first | (with_reducible first | exact HB.out | apply below_alloc | apply pw_below_drewN | apply below_drew1) | exact HB.out)) hb); have n1_ := Aside0.mk (hbox); have n2_ := Aside0.mk ((by rw [hg]; exact (below_size (by repeat (first | (with_reducible first | exact HB.out | apply below_alloc | apply pw_below_drewN | apply below_drew1) | exact HB.out))) : w.heap.size ≤ gb316)); have n3_ := Aside0.mk ((by rw [hg]; exact (below_size (by repeat (first | (with_reducible first | exact HB.out | apply below_alloc | apply pw_below_drewN | apply below_drew1) | exact HB.out))) : w.heap.size ≤ gb316)); clear HB; have HB := n0_; have BK316 := n1_; have GW316 := n2_; have GE316 := n3_; clear n0_ n1_ n2_ n3_; clear hb hbox hg; have hcz68_0 : w67.cell? ⟨gb316, 0, none⟩ = some (.string (⟨#[]⟩ : ByteArray)) := (blk_cell BK316.out 0).trans rfl; have hcz68_1 : w67.cell? ⟨gb316, 1, none⟩ = some (.int .i64 0) := (blk_cell BK316.out 1).trans rfl; have hcz68_2 : w67.cell? ⟨gb316, 2, none⟩ = some (.int .i64 0) := (blk_cell BK316.out 2).trans rfl; have hcz68_3 : w67.cell? ⟨gb316, 3, none⟩ = some (.string (⟨#[]⟩ : ByteArray)) := (blk_cell BK316.out 3).trans rfl; have hfz68_0 := blk_frozen BK316.out 0; have hfz68_1 := blk_frozen BK316.out 1; have hfz68_2 := blk_frozen BK316.out 2; have hfz68_3 := blk_frozen BK316.out 3)); try go_wp2_with (first | (go_at_call 30; (with_reducible refine (glacisref05_value.calls kj6 a2 t310 t311 t312 t313 t314 false _ A57.out).mono ?_); rintro e w66 ⟨rfl, hb⟩; have n0_ := Aside0.mk (below_step (by repeat (first | (with_reducible first | exact HB.out | apply below_alloc | apply pw_below_drewN | apply below_drew1) | exact HB.out)) hb); clear HB; have HB := n0_; clear n0_; (try clear hb); (try clear hb2); (try clear hk); (try clear hi)) | ((with_reducible refine gate_dst (N := 11) rfl ?_); refine box_event ?hg (N := 11) ?hd (cs := #[.string (⟨#[]⟩ : ByteArray), .int .i64 0, .int .i64 0, .string (⟨#[]⟩ : ByteArray)]) (t := 43) ?hr ?_; (case hd => rfl); (case hg => rfl); (case hr => first | (go_simp; done) | (go_simp; rfl)); intro gb316 hg w67 hbox hb; have n0_ := Aside0.mk (below_step (by repeat (first | (with_reducible first | exact HB.out | apply below_alloc | apply pw_below_drewN | apply below_drew1) | exact HB.out)) hb); have n1_ := Aside0.mk (hbox); have n2_ := Aside0.mk ((by rw [hg]; exact (below_size (by repeat (first | (with_reducible first | exact HB.out | apply below_alloc | apply pw_below_drewN | apply below_drew1) | exact HB.out))) : w.heap.size ≤ gb316)); have n3_ := Aside0.mk ((by rw [hg]; exact (below_size (by repeat (first | (with_reducible first | exact HB.out | apply below_alloc | apply pw_below_drewN | apply below_drew1) | exact HB.out))) : w.heap.size ≤ gb316)); clear HB; have HB := n0_; have BK316 := n1_; have GW316 := n2_; have GE316 := n3_; clear n0_ n1_ n2_ n3_; clear hb hbox hg; have hcz68_0 : w67.cell? ⟨gb316, 0, none⟩ = some (.string (⟨#[]⟩ : ByteArray)) := (blk_cell BK316.out 0).trans rfl; have hcz68_1 : w67.cell? ⟨gb316, 1, none⟩ = some (.int .i64 0) := (blk_cell BK316.out 1).trans rfl; have hcz68_2 : w67.cell? ⟨gb316, 2, none⟩ = some (.int .i64 0) := (blk_cell BK316.out 2).trans rfl; have hcz68_3 : w67.cell? ⟨gb316, 3, none⟩ = some (.string (⟨#[]⟩ : ByteArray)) := (blk_cell BK316.out 3).trans rfl; have hfz68_0 := blk_frozen BK316.out 0; have hfz68_1 := blk_frozen BK316.out 1; have hfz68_2 := blk_frozen BK316.out 2; have hfz68_3 := blk_frozen BK316.out 3)))
                        go_ret2
                        exact ⟨by first | rfl | (simp [errW_none, errW_some] <;> rfl) | (simp [*, errW_none, errW_some] <;> rfl) | (simp [q_ne_nil]; done), by repeat (first | (with_reducible first | exact HB.out | apply below_alloc | apply pw_below_drewN | apply below_drew1 | refine below_set ?_ GE316.out) | exact HB.out)⟩
                    · rw [if_neg c56] at H
                      have c56b0 : (a0 == 4) = false := beq_eq_false_iff_ne.mpr c56
                      have c56b1 : (a0 != 4) = true := bne_iff_ne.mpr c56
                      by_cases c69 : a0 = 5
                      · rw [if_pos c69] at H
                        have c69b0 : (a0 == 5) = true := beq_iff_eq.mpr c69
                        have c69b1 : (a0 != 5) = false := bne_eq_false_iff_eq.mpr c69
                        clear c69
                        by_cases c70 : 1 + a2.size ≤ 9223372036854775807
                        · rw [if_pos c70] at H
                          have c70b0 := eq_true c70
                          have c70b1 : decide (1 + a2.size ≤ 9223372036854775807) = true := decide_eq_true c70
                          try have c70b2 : (9223372036854775807 < 1 + a2.size) = False := eq_false (Nat.not_lt.2 c70)
                          by_cases c71 : ((⟨#[58]⟩ : ByteArray) ++ a2).size + 1 ≤ 9223372036854775807
                          · rw [if_pos c71] at H
                            have c71b0 := eq_true c71
                            have c71b1 : decide (((⟨#[58]⟩ : ByteArray) ++ a2).size + 1 ≤ 9223372036854775807) = true := decide_eq_true c71
                            try have c71b2 : (9223372036854775807 < ((⟨#[58]⟩ : ByteArray) ++ a2).size + 1) = False := eq_false (Nat.not_lt.2 c71)
                            try (have c71d : (9223372036854775807 < 1 + a2.size + 1) = False := eq_false (by have h_ := c71; simp only [ByteArray.size_append] at h_; exact Nat.not_lt.2 h_))
                            replace H := Option.bind_eq_some_iff.mp H
                            obtain ⟨⟨t317, t318, t319, t320, t321, t322⟩, A720, H⟩ := H
                            replace H : (if t322 = true then (if t321.toList = ([] : List UInt8) then (if t318 = 5 then (some (((⟨#[58]⟩ : ByteArray) ++ a2) ++ (⟨#[58]⟩ : ByteArray), (t320.toList == a2.toList))) else (some (((⟨#[58]⟩ : ByteArray) ++ a2) ++ (⟨#[58]⟩ : ByteArray), false))) else (some (((⟨#[58]⟩ : ByteArray) ++ a2) ++ (⟨#[58]⟩ : ByteArray), false))) else (some (((⟨#[58]⟩ : ByteArray) ++ a2) ++ (⟨#[58]⟩ : ByteArray), false))) = some (r1, r2) := H
                            have A72 := Aside0.mk A720
                            clear A720
                            by_cases c73 : t322 = true
                            · subst c73
                              have H1 : (if t321.toList = ([] : List UInt8) then (if t318 = 5 then (some (((⟨#[58]⟩ : ByteArray) ++ a2) ++ (⟨#[58]⟩ : ByteArray), (t320.toList == a2.toList))) else (some (((⟨#[58]⟩ : ByteArray) ++ a2) ++ (⟨#[58]⟩ : ByteArray), false))) else (some (((⟨#[58]⟩ : ByteArray) ++ a2) ++ (⟨#[58]⟩ : ByteArray), false))) = some (r1, r2) := by rw [if_pos rfl] at H; exact H
                              clear H
                              have H := H1
                              clear H1
                              by_cases c74 : t321.toList = ([] : List UInt8)
                              · rw [if_pos c74] at H
                                have c74b0 : (t321.toList == ([] : List UInt8)) = true := beq_iff_eq.mpr c74
                                have c74b1 : (t321.toList != ([] : List UInt8)) = false := bne_eq_false_iff_eq.mpr c74
                                clear c74
                                by_cases c75 : t318 = 5
                                · rw [if_pos c75] at H
                                  have c75b0 : (t318 == 5) = true := beq_iff_eq.mpr c75
                                  have c75b1 : (t318 != 5) = false := bne_eq_false_iff_eq.mpr c75
                                  clear c75
                                  simp only [Option.some.injEq, Prod.mk.injEq] at H
                                  obtain ⟨rfl, rfl⟩ := H
                                  go_wp2_with (first | (go_at_call 30; (with_reducible refine (glacisref05_value.calls kj6 (((⟨#[58]⟩ : ByteArray) ++ a2) ++ (⟨#[58]⟩ : ByteArray)) t317 t318 t319 t320 t321 true _ A72.out).mono ?_); rintro e w76 ⟨rfl, hb⟩; have n0_ := Aside0.mk (below_step (by repeat (first | (with_reducible first | exact HB.out | apply below_alloc | apply pw_below_drewN | apply below_drew1) | exact HB.out)) hb); clear HB; have HB := n0_; clear n0_; (try clear hb); (try clear hb2); (try clear hk); (try clear hi)) | ((with_reducible refine gate_dst (N := 14) rfl ?_); refine box_event ?hg (N := 14) ?hd (cs := #[.string (⟨#[]⟩ : ByteArray), .int .i64 0, .int .i64 0, .string (⟨#[]⟩ : ByteArray)]) (t := 43) ?hr ?_; (case hd => rfl); (case hg => rfl); (case hr => first | (go_simp; done) | (go_simp; rfl)); intro gb323 hg w77 hbox hb; have n0_ := Aside0.mk (below_step (by repeat (first | (with_reducible first | exact HB.out | apply below_alloc | apply pw_below_drewN | apply below_drew1) | exact HB.out)) hb); have n1_ := Aside0.mk (hbox); have n2_ := Aside0.mk ((by rw [hg]; exact (below_size (by repeat (first | (with_reducible first | exact HB.out | apply below_alloc | apply pw_below_drewN | apply below_drew1) | exact HB.out))) : w.heap.size ≤ gb323)); have n3_ := Aside0.mk ((by rw [hg]; exact (below_size (by repeat (first | (with_reducible first | exact HB.out | apply below_alloc | apply pw_below_drewN | apply below_drew1) | exact HB.out))) : w.heap.size ≤ gb323)); clear HB; have HB := n0_; have BK323 := n1_; have GW323 := n2_; have GE323 := n3_; clear n0_ n1_ n2_ n3_; clear hb hbox hg; have hcz78_0 : w77.cell? ⟨gb323, 0, none⟩ = some (.string (⟨#[]⟩ : ByteArray)) := (blk_cell BK323.out 0).trans rfl; have hcz78_1 : w77.cell? ⟨gb323, 1, none⟩ = some (.int .i64 0) := (blk_cell BK323.out 1).trans rfl; have hcz78_2 : w77.cell? ⟨gb323, 2, none⟩ = some (.int .i64 0) := (blk_cell BK323.out 2).trans rfl; have hcz78_3 : w77.cell? ⟨gb323, 3, none⟩ = some (.string (⟨#[]⟩ : ByteArray)) := (blk_cell BK323.out 3).trans rfl; have hfz78_0 := blk_frozen BK323.out 0; have hfz78_1 := blk_frozen BK323.out 1; have hfz78_2 := blk_frozen BK323.out 2; have hfz78_3 := blk_frozen BK323.out 3))
                                  repeat (go_quiet (first | (go_at_call 30; (with_reducible refine (glacisref05_value.calls kj6 (((⟨#[58]⟩ : ByteArray) ++ a2) ++ (⟨#[58]⟩ : ByteArray)) t317 t318 t319 t320 t321 true _ A72.out).mono ?_); rintro e w76 ⟨rfl, hb⟩; have n0_ := Aside0.mk (below_step (by repeat (first | (with_reducible first | exact HB.out | apply below_alloc | apply pw_below_drewN | apply below_drew1) | exact HB.out)) hb); clear HB; have HB := n0_; clear n0_; (try clear hb); (try clear hb2); (try clear hk); (try clear hi)) | ((with_reducible refine gate_dst (N := 14) rfl ?_); refine box_event ?hg (N := 14) ?hd (cs := #[.string (⟨#[]⟩ : ByteArray), .int .i64 0, .int .i64 0, .string (⟨#[]⟩ : ByteArray)]) (t := 43) ?hr ?_; (case hd => rfl); (case hg => rfl); (case hr => first | (go_simp; done) | (go_simp; rfl)); intro gb323 hg w77 hbox hb; have n0_ := Aside0.mk (below_step (by repeat (first | (with_reducible first | exact HB.out | apply below_alloc | apply pw_below_drewN | apply below_drew1) | exact HB.out)) hb); have n1_ := Aside0.mk (hbox); have n2_ := Aside0.mk ((by rw [hg]; exact (below_size (by repeat (first | (with_reducible first | exact HB.out | apply below_alloc | apply pw_below_drewN | apply below_drew1) | exact HB.out))) : w.heap.size ≤ gb323)); have n3_ := Aside0.mk ((by rw [hg]; exact (below_size (by repeat (first | (with_reducible first | exact HB.out | apply below_alloc | apply pw_below_drewN | apply below_drew1) | exact HB.out))) : w.heap.size ≤ gb323)); clear HB; have HB := n0_; have BK323 := n1_; have GW323 := n2_; have GE323 := n3_; clear n0_ n1_ n2_ n3_; clear hb hbox hg; have hcz78_0 : w77.cell? ⟨gb323, 0, none⟩ = some (.string (⟨#[]⟩ : ByteArray)) := (blk_cell BK323.out 0).trans rfl; have hcz78_1 : w77.cell? ⟨gb323, 1, none⟩ = some (.int .i64 0) := (blk_cell BK323.out 1).trans rfl; have hcz78_2 : w77.cell? ⟨gb323, 2, none⟩ = some (.int .i64 0) := (blk_cell BK323.out 2).trans rfl; have hcz78_3 : w77.cell? ⟨gb323, 3, none⟩ = some (.string (⟨#[]⟩ : ByteArray)) := (blk_cell BK323.out 3).trans rfl; have hfz78_0 := blk_frozen BK323.out 0; have hfz78_1 := blk_frozen BK323.out 1; have hfz78_2 := blk_frozen BK323.out 2; have hfz78_3 := blk_frozen BK323.out 3)); try go_wp2_with (first | (go_at_call 30; (with_reducible refine (glacisref05_value.calls kj6 (((⟨#[58]⟩ : ByteArray) ++ a2) ++ (⟨#[58]⟩ : ByteArray)) t317 t318 t319 t320 t321 true _ A72.out).mono ?_); rintro e w76 ⟨rfl, hb⟩; have n0_ := Aside0.mk (below_step (by repeat (first | (with_reducible first | exact HB.out | apply below_alloc | apply pw_below_drewN | apply below_drew1) | exact HB.out)) hb); clear HB; have HB := n0_; clear n0_; (try clear hb); (try clear hb2); (try clear hk); (try clear hi)) | ((with_reducible refine gate_dst (N := 14) rfl ?_); refine box_event ?hg (N := 14) ?hd (cs := #[.string (⟨#[]⟩ : ByteArray), .int .i64 0, .int .i64 0, .string (⟨#[]⟩ : ByteArray)]) (t := 43) ?hr ?_; (case hd => rfl); (case hg => rfl); (case hr => first | (go_simp; done) | (go_simp; rfl)); intro gb323 hg w77 hbox hb; have n0_ := Aside0.mk (below_step (by repeat (first | (with_reducible first | exact HB.out | apply below_alloc | apply pw_below_drewN | apply below_drew1) | exact HB.out)) hb); have n1_ := Aside0.mk (hbox); have n2_ := Aside0.mk ((by rw [hg]; exact (below_size (by repeat (first | (with_reducible first | exact HB.out | apply below_alloc | apply pw_below_drewN | apply below_drew1) | exact HB.out))) : w.heap.size ≤ gb323)); have n3_ := Aside0.mk ((by rw [hg]; exact (below_size (by repeat (first | (with_reducible first | exact HB.out | apply below_alloc | apply pw_below_drewN | apply below_drew1) | exact HB.out))) : w.heap.size ≤ gb323)); clear HB; have HB := n0_; have BK323 := n1_; have GW323 := n2_; have GE323 := n3_; clear n0_ n1_ n2_ n3_; clear hb hbox hg; have hcz78_0 : w77.cell? ⟨gb323, 0, none⟩ = some (.string (⟨#[]⟩ : ByteArray)) := (blk_cell BK323.out 0).trans rfl; have hcz78_1 : w77.cell? ⟨gb323, 1, none⟩ = some (.int .i64 0) := (blk_cell BK323.out 1).trans rfl; have hcz78_2 : w77.cell? ⟨gb323, 2, none⟩ = some (.int .i64 0) := (blk_cell BK323.out 2).trans rfl; have hcz78_3 : w77.cell? ⟨gb323, 3, none⟩ = some (.string (⟨#[]⟩ : ByteArray)) := (blk_cell BK323.out 3).trans rfl; have hfz78_0 := blk_frozen BK323.out 0; have hfz78_1 := blk_frozen BK323.out 1; have hfz78_2 := blk_frozen BK323.out 2; have hfz78_3 := blk_frozen BK323.out 3)))
                                  go_ret2
                                  exact ⟨by first | rfl | (simp [errW_none, errW_some] <;> rfl) | (simp [*, errW_none, errW_some] <;> rfl) | (simp [q_ne_nil]; done), by repeat (first | (with_reducible first | exact HB.out | apply below_alloc | apply pw_below_drewN | apply below_drew1 | refine below_set ?_ GE323.out) | exact HB.out)⟩
                                · rw [if_neg c75] at H
                                  have c75b0 : (t318 == 5) = false := beq_eq_false_iff_ne.mpr c75
                                  have c75b1 : (t318 != 5) = true := bne_iff_ne.mpr c75
                                  simp only [Option.some.injEq, Prod.mk.injEq] at H
                                  obtain ⟨rfl, rfl⟩ := H
                                  go_wp2_with (first | (go_at_call 30; (with_reducible refine (glacisref05_value.calls kj6 (((⟨#[58]⟩ : ByteArray) ++ a2) ++ (⟨#[58]⟩ : ByteArray)) t317 t318 t319 t320 t321 true _ A72.out).mono ?_); rintro e w79 ⟨rfl, hb⟩; have n0_ := Aside0.mk (below_step (by repeat (first | (with_reducible first | exact HB.out | apply below_alloc | apply pw_below_drewN | apply below_drew1) | exact HB.out)) hb); clear HB; have HB := n0_; clear n0_; (try clear hb); (try clear hb2); (try clear hk); (try clear hi)) | ((with_reducible refine gate_dst (N := 14) rfl ?_); refine box_event ?hg (N := 14) ?hd (cs := #[.string (⟨#[]⟩ : ByteArray), .int .i64 0, .int .i64 0, .string (⟨#[]⟩ : ByteArray)]) (t := 43) ?hr ?_; (case hd => rfl); (case hg => rfl); (case hr => first | (go_simp; done) | (go_simp; rfl)); intro gb323 hg w80 hbox hb; have n0_ := Aside0.mk (below_step (by repeat (first | (with_reducible first | exact HB.out | apply below_alloc | apply pw_below_drewN | apply below_drew1) | exact HB.out)) hb); have n1_ := Aside0.mk (hbox); have n2_ := Aside0.mk ((by rw [hg]; exact (below_size (by repeat (first | (with_reducible first | exact HB.out | apply below_alloc | apply pw_below_drewN | apply below_drew1) | exact HB.out))) : w.heap.size ≤ gb323)); have n3_ := Aside0.mk ((by rw [hg]; exact (below_size (by repeat (first | (with_reducible first | exact HB.out | apply below_alloc | apply pw_below_drewN | apply below_drew1) | exact HB.out))) : w.heap.size ≤ gb323)); clear HB; have HB := n0_; have BK323 := n1_; have GW323 := n2_; have GE323 := n3_; clear n0_ n1_ n2_ n3_; clear hb hbox hg; have hcz81_0 : w80.cell? ⟨gb323, 0, none⟩ = some (.string (⟨#[]⟩ : ByteArray)) := (blk_cell BK323.out 0).trans rfl; have hcz81_1 : w80.cell? ⟨gb323, 1, none⟩ = some (.int .i64 0) := (blk_cell BK323.out 1).trans rfl; have hcz81_2 : w80.cell? ⟨gb323, 2, none⟩ = some (.int .i64 0) := (blk_cell BK323.out 2).trans rfl; have hcz81_3 : w80.cell? ⟨gb323, 3, none⟩ = some (.string (⟨#[]⟩ : ByteArray)) := (blk_cell BK323.out 3).trans rfl; have hfz81_0 := blk_frozen BK323.out 0; have hfz81_1 := blk_frozen BK323.out 1; have hfz81_2 := blk_frozen BK323.out 2; have hfz81_3 := blk_frozen BK323.out 3))
                                  repeat (go_quiet (first | (go_at_call 30; (with_reducible refine (glacisref05_value.calls kj6 (((⟨#[58]⟩ : ByteArray) ++ a2) ++ (⟨#[58]⟩ : ByteArray)) t317 t318 t319 t320 t321 true _ A72.out).mono ?_); rintro e w79 ⟨rfl, hb⟩; have n0_ := Aside0.mk (below_step (by repeat (first | (with_reducible first | exact HB.out | apply below_alloc | apply pw_below_drewN | apply below_drew1) | exact HB.out)) hb); clear HB; have HB := n0_; clear n0_; (try clear hb); (try clear hb2); (try clear hk); (try clear hi)) | ((with_reducible refine gate_dst (N := 14) rfl ?_); refine box_event ?hg (N := 14) ?hd (cs := #[.string (⟨#[]⟩ : ByteArray), .int .i64 0, .int .i64 0, .string (⟨#[]⟩ : ByteArray)]) (t := 43) ?hr ?_; (case hd => rfl); (case hg => rfl); (case hr => first | (go_simp; done) | (go_simp; rfl)); intro gb323 hg w80 hbox hb; have n0_ := Aside0.mk (below_step (by repeat (first | (with_reducible first | exact HB.out | apply below_alloc | apply pw_below_drewN | apply below_drew1) | exact HB.out)) hb); have n1_ := Aside0.mk (hbox); have n2_ := Aside0.mk ((by rw [hg]; exact (below_size (by repeat (first | (with_reducible first | exact HB.out | apply below_alloc | apply pw_below_drewN | apply below_drew1) | exact HB.out))) : w.heap.size ≤ gb323)); have n3_ := Aside0.mk ((by rw [hg]; exact (below_size (by repeat (first | (with_reducible first | exact HB.out | apply below_alloc | apply pw_below_drewN | apply below_drew1) | exact HB.out))) : w.heap.size ≤ gb323)); clear HB; have HB := n0_; have BK323 := n1_; have GW323 := n2_; have GE323 := n3_; clear n0_ n1_ n2_ n3_; clear hb hbox hg; have hcz81_0 : w80.cell? ⟨gb323, 0, none⟩ = some (.string (⟨#[]⟩ : ByteArray)) := (blk_cell BK323.out 0).trans rfl; have hcz81_1 : w80.cell? ⟨gb323, 1, none⟩ = some (.int .i64 0) := (blk_cell BK323.out 1).trans rfl; have hcz81_2 : w80.cell? ⟨gb323, 2, none⟩ = some (.int .i64 0) := (blk_cell BK323.out 2).trans rfl; have hcz81_3 : w80.cell? ⟨gb323, 3, none⟩ = some (.string (⟨#[]⟩ : ByteArray)) := (blk_cell BK323.out 3).trans rfl; have hfz81_0 := blk_frozen BK323.out 0; have hfz81_1 := blk_frozen BK323.out 1; have hfz81_2 := blk_frozen BK323.out 2; have hfz81_3 := blk_frozen BK323.out 3)); try go_wp2_with (first | (go_at_call 30; (with_reducible refine (glacisref05_value.calls kj6 (((⟨#[58]⟩ : ByteArray) ++ a2) ++ (⟨#[58]⟩ : ByteArray)) t317 t318 t319 t320 t321 true _ A72.out).mono ?_); rintro e w79 ⟨rfl, hb⟩; have n0_ := Aside0.mk (below_step (by repeat (first | (with_reducible first | exact HB.out | apply below_alloc | apply pw_below_drewN | apply below_drew1) | exact HB.out)) hb); clear HB; have HB := n0_; clear n0_; (try clear hb); (try clear hb2); (try clear hk); (try clear hi)) | ((with_reducible refine gate_dst (N := 14) rfl ?_); refine box_event ?hg (N := 14) ?hd (cs := #[.string (⟨#[]⟩ : ByteArray), .int .i64 0, .int .i64 0, .string (⟨#[]⟩ : ByteArray)]) (t := 43) ?hr ?_; (case hd => rfl); (case hg => rfl); (case hr => first | (go_simp; done) | (go_simp; rfl)); intro gb323 hg w80 hbox hb; have n0_ := Aside0.mk (below_step (by repeat (first | (with_reducible first | exact HB.out | apply below_alloc | apply pw_below_drewN | apply below_drew1) | exact HB.out)) hb); have n1_ := Aside0.mk (hbox); have n2_ := Aside0.mk ((by rw [hg]; exact (below_size (by repeat (first | (with_reducible first | exact HB.out | apply below_alloc | apply pw_below_drewN | apply below_drew1) | exact HB.out))) : w.heap.size ≤ gb323)); have n3_ := Aside0.mk ((by rw [hg]; exact (below_size (by repeat (first | (with_reducible first | exact HB.out | apply below_alloc | apply pw_below_drewN | apply below_drew1) | exact HB.out))) : w.heap.size ≤ gb323)); clear HB; have HB := n0_; have BK323 := n1_; have GW323 := n2_; have GE323 := n3_; clear n0_ n1_ n2_ n3_; clear hb hbox hg; have hcz81_0 : w80.cell? ⟨gb323, 0, none⟩ = some (.string (⟨#[]⟩ : ByteArray)) := (blk_cell BK323.out 0).trans rfl; have hcz81_1 : w80.cell? ⟨gb323, 1, none⟩ = some (.int .i64 0) := (blk_cell BK323.out 1).trans rfl; have hcz81_2 : w80.cell? ⟨gb323, 2, none⟩ = some (.int .i64 0) := (blk_cell BK323.out 2).trans rfl; have hcz81_3 : w80.cell? ⟨gb323, 3, none⟩ = some (.string (⟨#[]⟩ : ByteArray)) := (blk_cell BK323.out 3).trans rfl; have hfz81_0 := blk_frozen BK323.out 0; have hfz81_1 := blk_frozen BK323.out 1; have hfz81_2 := blk_frozen BK323.out 2; have hfz81_3 := blk_frozen BK323.out 3)))
                                  go_ret2
                                  exact ⟨by first | rfl | (simp [errW_none, errW_some] <;> rfl) | (simp [*, errW_none, errW_some] <;> rfl) | (simp [q_ne_nil]; done), by repeat (first | (with_reducible first | exact HB.out | apply below_alloc | apply pw_below_drewN | apply below_drew1 | refine below_set ?_ GE323.out) | exact HB.out)⟩
                              · rw [if_neg c74] at H
                                have c74b0 : (t321.toList == ([] : List UInt8)) = false := beq_eq_false_iff_ne.mpr c74
                                have c74b1 : (t321.toList != ([] : List UInt8)) = true := bne_iff_ne.mpr c74
                                simp only [Option.some.injEq, Prod.mk.injEq] at H
                                obtain ⟨rfl, rfl⟩ := H
                                go_wp2_with (first | (go_at_call 30; (with_reducible refine (glacisref05_value.calls kj6 (((⟨#[58]⟩ : ByteArray) ++ a2) ++ (⟨#[58]⟩ : ByteArray)) t317 t318 t319 t320 t321 true _ A72.out).mono ?_); rintro e w82 ⟨rfl, hb⟩; have n0_ := Aside0.mk (below_step (by repeat (first | (with_reducible first | exact HB.out | apply below_alloc | apply pw_below_drewN | apply below_drew1) | exact HB.out)) hb); clear HB; have HB := n0_; clear n0_; (try clear hb); (try clear hb2); (try clear hk); (try clear hi)) | ((with_reducible refine gate_dst (N := 14) rfl ?_); refine box_event ?hg (N := 14) ?hd (cs := #[.string (⟨#[]⟩ : ByteArray), .int .i64 0, .int .i64 0, .string (⟨#[]⟩ : ByteArray)]) (t := 43) ?hr ?_; (case hd => rfl); (case hg => rfl); (case hr => first | (go_simp; done) | (go_simp; rfl)); intro gb323 hg w83 hbox hb; have n0_ := Aside0.mk (below_step (by repeat (first | (with_reducible first | exact HB.out | apply below_alloc | apply pw_below_drewN | apply below_drew1) | exact HB.out)) hb); have n1_ := Aside0.mk (hbox); have n2_ := Aside0.mk ((by rw [hg]; exact (below_size (by repeat (first | (with_reducible first | exact HB.out | apply below_alloc | apply pw_below_drewN | apply below_drew1) | exact HB.out))) : w.heap.size ≤ gb323)); have n3_ := Aside0.mk ((by rw [hg]; exact (below_size (by repeat (first | (with_reducible first | exact HB.out | apply below_alloc | apply pw_below_drewN | apply below_drew1) | exact HB.out))) : w.heap.size ≤ gb323)); clear HB; have HB := n0_; have BK323 := n1_; have GW323 := n2_; have GE323 := n3_; clear n0_ n1_ n2_ n3_; clear hb hbox hg; have hcz84_0 : w83.cell? ⟨gb323, 0, none⟩ = some (.string (⟨#[]⟩ : ByteArray)) := (blk_cell BK323.out 0).trans rfl; have hcz84_1 : w83.cell? ⟨gb323, 1, none⟩ = some (.int .i64 0) := (blk_cell BK323.out 1).trans rfl; have hcz84_2 : w83.cell? ⟨gb323, 2, none⟩ = some (.int .i64 0) := (blk_cell BK323.out 2).trans rfl; have hcz84_3 : w83.cell? ⟨gb323, 3, none⟩ = some (.string (⟨#[]⟩ : ByteArray)) := (blk_cell BK323.out 3).trans rfl; have hfz84_0 := blk_frozen BK323.out 0; have hfz84_1 := blk_frozen BK323.out 1; have hfz84_2 := blk_frozen BK323.out 2; have hfz84_3 := blk_frozen BK323.out 3))
                                repeat (go_quiet (first | (go_at_call 30; (with_reducible refine (glacisref05_value.calls kj6 (((⟨#[58]⟩ : ByteArray) ++ a2) ++ (⟨#[58]⟩ : ByteArray)) t317 t318 t319 t320 t321 true _ A72.out).mono ?_); rintro e w82 ⟨rfl, hb⟩; have n0_ := Aside0.mk (below_step (by repeat (first | (with_reducible first | exact HB.out | apply below_alloc | apply pw_below_drewN | apply below_drew1) | exact HB.out)) hb); clear HB; have HB := n0_; clear n0_; (try clear hb); (try clear hb2); (try clear hk); (try clear hi)) | ((with_reducible refine gate_dst (N := 14) rfl ?_); refine box_event ?hg (N := 14) ?hd (cs := #[.string (⟨#[]⟩ : ByteArray), .int .i64 0, .int .i64 0, .string (⟨#[]⟩ : ByteArray)]) (t := 43) ?hr ?_; (case hd => rfl); (case hg => rfl); (case hr => first | (go_simp; done) | (go_simp; rfl)); intro gb323 hg w83 hbox hb; have n0_ := Aside0.mk (below_step (by repeat (first | (with_reducible first | exact HB.out | apply below_alloc | apply pw_below_drewN | apply below_drew1) | exact HB.out)) hb); have n1_ := Aside0.mk (hbox); have n2_ := Aside0.mk ((by rw [hg]; exact (below_size (by repeat (first | (with_reducible first | exact HB.out | apply below_alloc | apply pw_below_drewN | apply below_drew1) | exact HB.out))) : w.heap.size ≤ gb323)); have n3_ := Aside0.mk ((by rw [hg]; exact (below_size (by repeat (first | (with_reducible first | exact HB.out | apply below_alloc | apply pw_below_drewN | apply below_drew1) | exact HB.out))) : w.heap.size ≤ gb323)); clear HB; have HB := n0_; have BK323 := n1_; have GW323 := n2_; have GE323 := n3_; clear n0_ n1_ n2_ n3_; clear hb hbox hg; have hcz84_0 : w83.cell? ⟨gb323, 0, none⟩ = some (.string (⟨#[]⟩ : ByteArray)) := (blk_cell BK323.out 0).trans rfl; have hcz84_1 : w83.cell? ⟨gb323, 1, none⟩ = some (.int .i64 0) := (blk_cell BK323.out 1).trans rfl; have hcz84_2 : w83.cell? ⟨gb323, 2, none⟩ = some (.int .i64 0) := (blk_cell BK323.out 2).trans rfl; have hcz84_3 : w83.cell? ⟨gb323, 3, none⟩ = some (.string (⟨#[]⟩ : ByteArray)) := (blk_cell BK323.out 3).trans rfl; have hfz84_0 := blk_frozen BK323.out 0; have hfz84_1 := blk_frozen BK323.out 1; have hfz84_2 := blk_frozen BK323.out 2; have hfz84_3 := blk_frozen BK323.out 3)); try go_wp2_with (first | (go_at_call 30; (with_reducible refine (glacisref05_value.calls kj6 (((⟨#[58]⟩ : ByteArray) ++ a2) ++ (⟨#[58]⟩ : ByteArray)) t317 t318 t319 t320 t321 true _ A72.out).mono ?_); rintro e w82 ⟨rfl, hb⟩; have n0_ := Aside0.mk (below_step (by repeat (first | (with_reducible first | exact HB.out | apply below_alloc | apply pw_below_drewN | apply below_drew1) | exact HB.out)) hb); clear HB; have HB := n0_; clear n0_; (try clear hb); (try clear hb2); (try clear hk); (try clear hi)) | ((with_reducible refine gate_dst (N := 14) rfl ?_); refine box_event ?hg (N := 14) ?hd (cs := #[.string (⟨#[]⟩ : ByteArray), .int .i64 0, .int .i64 0, .string (⟨#[]⟩ : ByteArray)]) (t := 43) ?hr ?_; (case hd => rfl); (case hg => rfl); (case hr => first | (go_simp; done) | (go_simp; rfl)); intro gb323 hg w83 hbox hb; have n0_ := Aside0.mk (below_step (by repeat (first | (with_reducible first | exact HB.out | apply below_alloc | apply pw_below_drewN | apply below_drew1) | exact HB.out)) hb); have n1_ := Aside0.mk (hbox); have n2_ := Aside0.mk ((by rw [hg]; exact (below_size (by repeat (first | (with_reducible first | exact HB.out | apply below_alloc | apply pw_below_drewN | apply below_drew1) | exact HB.out))) : w.heap.size ≤ gb323)); have n3_ := Aside0.mk ((by rw [hg]; exact (below_size (by repeat (first | (with_reducible first | exact HB.out | apply below_alloc | apply pw_below_drewN | apply below_drew1) | exact HB.out))) : w.heap.size ≤ gb323)); clear HB; have HB := n0_; have BK323 := n1_; have GW323 := n2_; have GE323 := n3_; clear n0_ n1_ n2_ n3_; clear hb hbox hg; have hcz84_0 : w83.cell? ⟨gb323, 0, none⟩ = some (.string (⟨#[]⟩ : ByteArray)) := (blk_cell BK323.out 0).trans rfl; have hcz84_1 : w83.cell? ⟨gb323, 1, none⟩ = some (.int .i64 0) := (blk_cell BK323.out 1).trans rfl; have hcz84_2 : w83.cell? ⟨gb323, 2, none⟩ = some (.int .i64 0) := (blk_cell BK323.out 2).trans rfl; have hcz84_3 : w83.cell? ⟨gb323, 3, none⟩ = some (.string (⟨#[]⟩ : ByteArray)) := (blk_cell BK323.out 3).trans rfl; have hfz84_0 := blk_frozen BK323.out 0; have hfz84_1 := blk_frozen BK323.out 1; have hfz84_2 := blk_frozen BK323.out 2; have hfz84_3 := blk_frozen BK323.out 3)))
                                go_ret2
                                exact ⟨by first | rfl | (simp [errW_none, errW_some] <;> rfl) | (simp [*, errW_none, errW_some] <;> rfl) | (simp [q_ne_nil]; done), by repeat (first | (with_reducible first | exact HB.out | apply below_alloc | apply pw_below_drewN | apply below_drew1 | refine below_set ?_ GE323.out) | exact HB.out)⟩
                            · replace c73 := Bool.eq_false_iff.mpr c73
                              subst c73
                              have H1 : (some (((⟨#[58]⟩ : ByteArray) ++ a2) ++ (⟨#[58]⟩ : ByteArray), false)) = some (r1, r2) := by rw [if_neg (show ¬ (false = true) by decide)] at H; exact H
                              clear H
                              have H := H1
                              clear H1
                              simp only [Option.some.injEq, Prod.mk.injEq] at H
                              obtain ⟨rfl, rfl⟩ := H
                              go_wp2_with (first | (go_at_call 30; (with_reducible refine (glacisref05_value.calls kj6 (((⟨#[58]⟩ : ByteArray) ++ a2) ++ (⟨#[58]⟩ : ByteArray)) t317 t318 t319 t320 t321 false _ A72.out).mono ?_); rintro e w85 ⟨rfl, hb⟩; have n0_ := Aside0.mk (below_step (by repeat (first | (with_reducible first | exact HB.out | apply below_alloc | apply pw_below_drewN | apply below_drew1) | exact HB.out)) hb); clear HB; have HB := n0_; clear n0_; (try clear hb); (try clear hb2); (try clear hk); (try clear hi)) | ((with_reducible refine gate_dst (N := 14) rfl ?_); refine box_event ?hg (N := 14) ?hd (cs := #[.string (⟨#[]⟩ : ByteArray), .int .i64 0, .int .i64 0, .string (⟨#[]⟩ : ByteArray)]) (t := 43) ?hr ?_; (case hd => rfl); (case hg => rfl); (case hr => first | (go_simp; done) | (go_simp; rfl)); intro gb323 hg w86 hbox hb; have n0_ := Aside0.mk (below_step (by repeat (first | (with_reducible first | exact HB.out | apply below_alloc | apply pw_below_drewN | apply below_drew1) | exact HB.out)) hb); have n1_ := Aside0.mk (hbox); have n2_ := Aside0.mk ((by rw [hg]; exact (below_size (by repeat (first | (with_reducible first | exact HB.out | apply below_alloc | apply pw_below_drewN | apply below_drew1) | exact HB.out))) : w.heap.size ≤ gb323)); have n3_ := Aside0.mk ((by rw [hg]; exact (below_size (by repeat (first | (with_reducible first | exact HB.out | apply below_alloc | apply pw_below_drewN | apply below_drew1) | exact HB.out))) : w.heap.size ≤ gb323)); clear HB; have HB := n0_; have BK323 := n1_; have GW323 := n2_; have GE323 := n3_; clear n0_ n1_ n2_ n3_; clear hb hbox hg; have hcz87_0 : w86.cell? ⟨gb323, 0, none⟩ = some (.string (⟨#[]⟩ : ByteArray)) := (blk_cell BK323.out 0).trans rfl; have hcz87_1 : w86.cell? ⟨gb323, 1, none⟩ = some (.int .i64 0) := (blk_cell BK323.out 1).trans rfl; have hcz87_2 : w86.cell? ⟨gb323, 2, none⟩ = some (.int .i64 0) := (blk_cell BK323.out 2).trans rfl; have hcz87_3 : w86.cell? ⟨gb323, 3, none⟩ = some (.string (⟨#[]⟩ : ByteArray)) := (blk_cell BK323.out 3).trans rfl; have hfz87_0 := blk_frozen BK323.out 0; have hfz87_1 := blk_frozen BK323.out 1; have hfz87_2 := blk_frozen BK323.out 2; have hfz87_3 := blk_frozen BK323.out 3))
                              repeat (go_quiet (first | (go_at_call 30; (with_reducible refine (glacisref05_value.calls kj6 (((⟨#[58]⟩ : ByteArray) ++ a2) ++ (⟨#[58]⟩ : ByteArray)) t317 t318 t319 t320 t321 false _ A72.out).mono ?_); rintro e w85 ⟨rfl, hb⟩; have n0_ := Aside0.mk (below_step (by repeat (first | (with_reducible first | exact HB.out | apply below_alloc | apply pw_below_drewN | apply below_drew1) | exact HB.out)) hb); clear HB; have HB := n0_; clear n0_; (try clear hb); (try clear hb2); (try clear hk); (try clear hi)) | ((with_reducible refine gate_dst (N := 14) rfl ?_); refine box_event ?hg (N := 14) ?hd (cs := #[.string (⟨#[]⟩ : ByteArray), .int .i64 0, .int .i64 0, .string (⟨#[]⟩ : ByteArray)]) (t := 43) ?hr ?_; (case hd => rfl); (case hg => rfl); (case hr => first | (go_simp; done) | (go_simp; rfl)); intro gb323 hg w86 hbox hb; have n0_ := Aside0.mk (below_step (by repeat (first | (with_reducible first | exact HB.out | apply below_alloc | apply pw_below_drewN | apply below_drew1) | exact HB.out)) hb); have n1_ := Aside0.mk (hbox); have n2_ := Aside0.mk ((by rw [hg]; exact (below_size (by repeat (first | (with_reducible first | exact HB.out | apply below_alloc | apply pw_below_drewN | apply below_drew1) | exact HB.out))) : w.heap.size ≤ gb323)); have n3_ := Aside0.mk ((by rw [hg]; exact (below_size (by repeat (first | (with_reducible first | exact HB.out | apply below_alloc | apply pw_below_drewN | apply below_drew1) | exact HB.out))) : w.heap.size ≤ gb323)); clear HB; have HB := n0_; have BK323 := n1_; have GW323 := n2_; have GE323 := n3_; clear n0_ n1_ n2_ n3_; clear hb hbox hg; have hcz87_0 : w86.cell? ⟨gb323, 0, none⟩ = some (.string (⟨#[]⟩ : ByteArray)) := (blk_cell BK323.out 0).trans rfl; have hcz87_1 : w86.cell? ⟨gb323, 1, none⟩ = some (.int .i64 0) := (blk_cell BK323.out 1).trans rfl; have hcz87_2 : w86.cell? ⟨gb323, 2, none⟩ = some (.int .i64 0) := (blk_cell BK323.out 2).trans rfl; have hcz87_3 : w86.cell? ⟨gb323, 3, none⟩ = some (.string (⟨#[]⟩ : ByteArray)) := (blk_cell BK323.out 3).trans rfl; have hfz87_0 := blk_frozen BK323.out 0; have hfz87_1 := blk_frozen BK323.out 1; have hfz87_2 := blk_frozen BK323.out 2; have hfz87_3 := blk_frozen BK323.out 3)); try go_wp2_with (first | (go_at_call 30; (with_reducible refine (glacisref05_value.calls kj6 (((⟨#[58]⟩ : ByteArray) ++ a2) ++ (⟨#[58]⟩ : ByteArray)) t317 t318 t319 t320 t321 false _ A72.out).mono ?_); rintro e w85 ⟨rfl, hb⟩; have n0_ := Aside0.mk (below_step (by repeat (first | (with_reducible first | exact HB.out | apply below_alloc | apply pw_below_drewN | apply below_drew1) | exact HB.out)) hb); clear HB; have HB := n0_; clear n0_; (try clear hb); (try clear hb2); (try clear hk); (try clear hi)) | ((with_reducible refine gate_dst (N := 14) rfl ?_); refine box_event ?hg (N := 14) ?hd (cs := #[.string (⟨#[]⟩ : ByteArray), .int .i64 0, .int .i64 0, .string (⟨#[]⟩ : ByteArray)]) (t := 43) ?hr ?_; (case hd => rfl); (case hg => rfl); (case hr => first | (go_simp; done) | (go_simp; rfl)); intro gb323 hg w86 hbox hb; have n0_ := Aside0.mk (below_step (by repeat (first | (with_reducible first | exact HB.out | apply below_alloc | apply pw_below_drewN | apply below_drew1) | exact HB.out)) hb); have n1_ := Aside0.mk (hbox); have n2_ := Aside0.mk ((by rw [hg]; exact (below_size (by repeat (first | (with_reducible first | exact HB.out | apply below_alloc | apply pw_below_drewN | apply below_drew1) | exact HB.out))) : w.heap.size ≤ gb323)); have n3_ := Aside0.mk ((by rw [hg]; exact (below_size (by repeat (first | (with_reducible first | exact HB.out | apply below_alloc | apply pw_below_drewN | apply below_drew1) | exact HB.out))) : w.heap.size ≤ gb323)); clear HB; have HB := n0_; have BK323 := n1_; have GW323 := n2_; have GE323 := n3_; clear n0_ n1_ n2_ n3_; clear hb hbox hg; have hcz87_0 : w86.cell? ⟨gb323, 0, none⟩ = some (.string (⟨#[]⟩ : ByteArray)) := (blk_cell BK323.out 0).trans rfl; have hcz87_1 : w86.cell? ⟨gb323, 1, none⟩ = some (.int .i64 0) := (blk_cell BK323.out 1).trans rfl; have hcz87_2 : w86.cell? ⟨gb323, 2, none⟩ = some (.int .i64 0) := (blk_cell BK323.out 2).trans rfl; have hcz87_3 : w86.cell? ⟨gb323, 3, none⟩ = some (.string (⟨#[]⟩ : ByteArray)) := (blk_cell BK323.out 3).trans rfl; have hfz87_0 := blk_frozen BK323.out 0; have hfz87_1 := blk_frozen BK323.out 1; have hfz87_2 := blk_frozen BK323.out 2; have hfz87_3 := blk_frozen BK323.out 3)))
                              go_ret2
                              exact ⟨by first | rfl | (simp [errW_none, errW_some] <;> rfl) | (simp [*, errW_none, errW_some] <;> rfl) | (simp [q_ne_nil]; done), by repeat (first | (with_reducible first | exact HB.out | apply below_alloc | apply pw_below_drewN | apply below_drew1 | refine below_set ?_ GE323.out) | exact HB.out)⟩
                          · rw [if_neg c71] at H
                            exact absurd H (by simp)
                        · rw [if_neg c70] at H
                          exact absurd H (by simp)
                      · rw [if_neg c69] at H
                        have c69b0 : (a0 == 5) = false := beq_eq_false_iff_ne.mpr c69
                        have c69b1 : (a0 != 5) = true := bne_iff_ne.mpr c69
                        simp only [Option.some.injEq, Prod.mk.injEq] at H
                        obtain ⟨rfl, rfl⟩ := H
                        go_wp2
                        repeat (go_quiet (fail); try go_wp2)
                        go_ret2
                        exact ⟨by first | rfl | (simp [errW_none, errW_some] <;> rfl) | (simp [*, errW_none, errW_some] <;> rfl) | (simp [q_ne_nil]; done), by repeat (first | (with_reducible first | exact HB.out | apply below_alloc | apply pw_below_drewN | apply below_drew1) | exact HB.out)⟩
end Go.Proofs.YtbbaokjkmcfceaaGreatDoor.Q
namespace Go.Proofs.YtbbaokjkmcfceaaGreatDoor.Q
open Go.RowKit Go.Proofs.YtbbaokjkmcfceaaGreatDoorW.PrintWords Go.Proofs.YtbbaokjkmcfceaaGreatDoorW.PrintLast Go.Proofs.YtbbaokjkmcfceaaGreatDoorW.PrintMore
set_option linter.unusedVariables false
set_option linter.unusedSimpArgs false
mutual
def glacisref05_Tail.l0 : Nat → List (S43) → ByteArray → Int → Option (ByteArray × Int)
  | 0, _, _, _ => none
  | k + 1, x0, x4, x5 => if x5 < (x0.length : Int) then (if 0 ≤ x5 then ((glacisref05_Key.f k ((rd_T43 x0 x5).f0)).bind fun bt325 => ((glacisref05_Value.f k ((rd_T43 x0 x5).f1) ((rd_T43 x0 x5).f2) ((rd_T43 x0 x5).f3)).bind fun bt331 => (if bt325.2.2 = 0 then (if bt325.2.1.toList = ([] : List UInt8) then (glacisref05_Tail.j1 k x0 x4 x5 bt325.1 bt331.1 (!bt331.2)) else (glacisref05_Tail.j1 k x0 x4 x5 bt325.1 bt331.1 true)) else (glacisref05_Tail.j1 k x0 x4 x5 bt325.1 bt331.1 true)))) else (none)) else (some (x4, 0))
def glacisref05_Tail.j1 : Nat → List (S43) → ByteArray → Int → ByteArray → ByteArray → Bool → Option (ByteArray × Int)
  | 0, _, _, _, _, _, _ => none
  | k + 1, x0, x4, x5, x6, x9, x56 => if x56 = true then (some ((⟨#[]⟩ : ByteArray), 50)) else (glacisref05_Tail.l1 k x0 x4 x5 x6 x9 0)
def glacisref05_Tail.l1 : Nat → List (S43) → ByteArray → Int → ByteArray → ByteArray → Int → Option (ByteArray × Int)
  | 0, _, _, _, _, _, _ => none
  | k + 1, x0, x4, x5, x6, x9, x11 => if x11 < x5 then (if 0 ≤ x11 then (if x11 < (x0.length : Int) then (if ((rd_T43 x0 x11).f0).toList = x6.toList then (some ((⟨#[]⟩ : ByteArray), 50)) else (glacisref05_Tail.l1 k x0 x4 x5 x6 x9 (wrap64 (x11 + 1)))) else (none)) else (none)) else (if x4.size + 1 ≤ 9223372036854775807 then (if (x4 ++ (⟨#[59]⟩ : ByteArray)).size + x6.size ≤ 9223372036854775807 then (if 0 ≤ x5 then (if x5 < (x0.length : Int) then (if ((rd_T43 x0 x5).f1) = 6 then (if ((rd_T43 x0 x5).f2) = 1 then (glacisref05_Tail.l0 k x0 ((x4 ++ (⟨#[59]⟩ : ByteArray)) ++ x6) (wrap64 (x5 + 1))) else (if ((x4 ++ (⟨#[59]⟩ : ByteArray)) ++ x6).size + 1 ≤ 9223372036854775807 then (if (((x4 ++ (⟨#[59]⟩ : ByteArray)) ++ x6) ++ (⟨#[61]⟩ : ByteArray)).size + x9.size ≤ 9223372036854775807 then (glacisref05_Tail.l0 k x0 ((((x4 ++ (⟨#[59]⟩ : ByteArray)) ++ x6) ++ (⟨#[61]⟩ : ByteArray)) ++ x9) (wrap64 (x5 + 1))) else (none)) else (none))) else (if ((x4 ++ (⟨#[59]⟩ : ByteArray)) ++ x6).size + 1 ≤ 9223372036854775807 then (if (((x4 ++ (⟨#[59]⟩ : ByteArray)) ++ x6) ++ (⟨#[61]⟩ : ByteArray)).size + x9.size ≤ 9223372036854775807 then (glacisref05_Tail.l0 k x0 ((((x4 ++ (⟨#[59]⟩ : ByteArray)) ++ x6) ++ (⟨#[61]⟩ : ByteArray)) ++ x9) (wrap64 (x5 + 1))) else (none)) else (none))) else (none)) else (none)) else (none)) else (none))
end
def glacisref05_Tail.f (k : Nat) (l0 : List (S43)) : Option (ByteArray × Int) := glacisref05_Tail.l0 k l0 (⟨#[]⟩ : ByteArray) 0
def glacisref05_Tail.T6 : Bool × List (List Nat × List Nat) := (true, [([], []), ([], []), ([0, 1], [0, 1]), ([2], [2]), ([3], [3]), ([], []), ([], []), ([5, 6], [5, 6]), ([7], [7]), ([8], [8]), ([], []), ([], []), ([10, 11], [10, 11]), ([12], [12]), ([13], [13]), ([4, 9, 14], [4, 9, 14]), ([15], [15]), ([16], [16]), ([16], [16]), ([17, 15, 0, 1, 2, 3, 4, 5, 6, 7, 8, 9, 10, 11, 12, 13, 14, 15, 16, 17], [17]), ([18, 19, 0, 1, 2, 3, 4, 5, 6, 7, 8, 9, 10, 11, 12, 13, 14, 15, 16, 17, 18, 19], [18])])
def glacisref05_Tail.B6 : List Nat := [0, 0, 3, 7, 15, 0, 0, 96, 224, 480, 0, 0, 3072, 7168, 15360, 32767, 65535, 131071, 131071, 262143, 1048575]
theorem glacisref05_Tail.tab6 : rtab .any (opsOf Tryz.f14 6) = glacisref05_Tail.T6 := by kernel_rfl
theorem glacisref05_Tail.bits6 : waitsOk glacisref05_Tail.T6.2 glacisref05_Tail.B6 = true := by kernel_rfl
set_option maxHeartbeats 8000000 in
set_option maxRecDepth 100000 in
theorem glacisref05_Tail.calls (k : Nat) (A0 : Option Addr) (c0 : Nat) (l0 : List (S43)) (r1 : ByteArray) (r2 : Int) (w : World) (hT_ : Aside0 (TabW w)) (hr0 : Kd.C k43 w A0 l0.length l0) (hc0 : l0.length ≤ c0) (h : glacisref05_Tail.f k l0 = some (r1, r2)) :
    Calls Tryz.prog 14 #[.slice A0 l0.length c0] w fun e w' => e = .returned (.tuple #[.string r1, .int .i64 r2]) ∧ Below w.heap.size w w' := by
  have HR0 := Aside0.mk hr0
  have HC0 := Aside0.mk hc0
  clear hr0 hc0
  have HB := Aside0.mk (Below.refl w.heap.size w)
  have H : (glacisref05_Tail.l0 k l0 (⟨#[]⟩ : ByteArray) 0) = some (r1, r2) := h
  clear h
  have H' := Aside0.mk H
  clear H
  go_enter Tryz.func14, Tryz.ntmps14
  go_wp2
  go_loopg [4, 5] k (fun kq v4 v5 w' => ∃ (x4_1 : ByteArray) (x5_1 : Int), v4 = .string x4_1 ∧ v5 = .int .i64 x5_1 ∧ Aside0 (glacisref05_Tail.l0 kq l0 x4_1 x5_1 = some (r1, r2)) ∧ Aside0 (kq ≤ k) ∧ Aside0 (Below w.heap.size w w'))
  case atStart => exact ⟨((⟨#[]⟩ : ByteArray)), (0), (by first | rfl | (simp; done) | (simp [*]; done) | (simp [q_ne_nil]; done)), (by first | rfl | (simp; done) | (simp [*]; done) | (simp [q_ne_nil]; done)), H', ⟨Nat.le_refl _⟩, ⟨by repeat (first | (with_reducible first | exact HB.out | apply below_alloc | apply pw_below_drewN | apply below_drew1) | exact HB.out)⟩⟩
  case round =>
    clear H'
    try clear c1
    obtain ⟨x4_1, x5_1, rfl, rfl, HA, HK1, HB⟩ := hrel
    cases gk with
    | zero => exact absurd HA.out (by simp [glacisref05_Tail.l0])
    | succ k1 =>
      have H := HA.out
      clear HA
      simp only [glacisref05_Tail.l0] at H
      by_cases c2 : x5_1 < (l0.length : Int)
      · rw [if_pos c2] at H
        have c2b0 : decide (x5_1 < (l0.length : Int)) = true := decide_eq_true c2
        clear c2
        by_cases c3 : 0 ≤ x5_1
        · rw [if_pos c3] at H
          have c3b0 : decide (0 ≤ x5_1) = true := decide_eq_true c3
          clear c3
          replace H := Option.bind_eq_some_iff.mp H
          obtain ⟨⟨t325, t326, t327⟩, A40, H⟩ := H
          replace H : ((glacisref05_Value.f k1 ((rd_T43 l0 x5_1).f1) ((rd_T43 l0 x5_1).f2) ((rd_T43 l0 x5_1).f3)).bind fun bt331 => (if t327 = 0 then (if t326.toList = ([] : List UInt8) then (glacisref05_Tail.j1 k1 l0 x4_1 x5_1 t325 bt331.1 (!bt331.2)) else (glacisref05_Tail.j1 k1 l0 x4_1 x5_1 t325 bt331.1 true)) else (glacisref05_Tail.j1 k1 l0 x4_1 x5_1 t325 bt331.1 true))) = some (r1, r2) := H
          have A4 := Aside0.mk A40
          clear A40
          replace H := Option.bind_eq_some_iff.mp H
          obtain ⟨⟨t331, t332⟩, A50, H⟩ := H
          replace H : (if t327 = 0 then (if t326.toList = ([] : List UInt8) then (glacisref05_Tail.j1 k1 l0 x4_1 x5_1 t325 t331 (!t332)) else (glacisref05_Tail.j1 k1 l0 x4_1 x5_1 t325 t331 true)) else (glacisref05_Tail.j1 k1 l0 x4_1 x5_1 t325 t331 true)) = some (r1, r2) := H
          have A5 := Aside0.mk A50
          clear A50
          have HC6 := Aside0.mk H
          clear H
          have p324 : 0 ≤ (x5_1 : Int) := of_decide_eq_true (by first | (with_reducible assumption) | assumption)
          have q324 : x5_1 < (l0.length : Int) := of_decide_eq_true (by first | (with_reducible assumption) | assumption)
          obtain ⟨ad324, e324, hx324_0, hx324_1, hx324_2, hx324_3⟩ := at_T43 HR0.out x5_1 p324 q324
          cases e324
          replace hx324_0 := (HB.out.cell (World.block_lt_of_cell? w _ hx324_0)).trans hx324_0
          replace hx324_1 := (HB.out.cell (World.block_lt_of_cell? w _ hx324_1)).trans hx324_1
          replace hx324_2 := (HB.out.cell (World.block_lt_of_cell? w _ hx324_2)).trans hx324_2
          replace hx324_3 := (HB.out.cell (World.block_lt_of_cell? w _ hx324_3)).trans hx324_3
          replace p324 := eq_true p324
          replace q324 := eq_true q324
          try go_wp2_with (first | ((with_reducible refine gate_callee (f := 21) rfl ?_); refine goesL_ (some 24) rfl rfl Tryz.func21 (by kernel_rfl) rfl #[.string ((rd_T43 l0 x5_1).f0)] rfl (by (try simp only [List.map_toArray, List.map_cons, List.map_nil]); first | done | rfl | (simp only [List.length_drop, List.length_take]; rfl)) ?_; (with_reducible refine (glacisref05_Key.calls k1 ((rd_T43 l0 x5_1).f0) t325 t326 t327 _ A4.out).mono ?_); rintro e w' ⟨rfl, ⟨nd, rfl⟩⟩; refine ⟨_, rfl, ?_⟩))
          (try (rw [drewN_self wr]; generalize hq_ : World.drewN wr _ = wr; have n0_ : Aside0 (Below w.heap.size w wr) := ⟨by rw [← hq_]; exact (by repeat (first | (with_reducible first | exact HB.out | apply below_alloc | apply pw_below_drewN | apply below_drew1) | exact HB.out))⟩; clear HB hq_; have HB := n0_; clear n0_))
          have n0_ := Aside0.mk (below_drew1 HB.out)
          clear HB
          have HB := n0_
          clear n0_
          have p328 : 0 ≤ (x5_1 : Int) := of_decide_eq_true (by first | (with_reducible assumption) | assumption)
          have q328 : x5_1 < (l0.length : Int) := of_decide_eq_true (by first | (with_reducible assumption) | assumption)
          obtain ⟨ad328, e328, hx328_0, hx328_1, hx328_2, hx328_3⟩ := at_T43 HR0.out x5_1 p328 q328
          have hw328_3 := hx328_3
          have hw328_2 := hx328_2
          have hw328_1 := hx328_1
          have hw328_0 := hx328_0
          obtain rfl : ad324 = ad328 := (by injection e328)
          replace hx328_0 := (HB.out.cell (World.block_lt_of_cell? w _ hx328_0)).trans hx328_0
          replace hx328_1 := (HB.out.cell (World.block_lt_of_cell? w _ hx328_1)).trans hx328_1
          replace hx328_2 := (HB.out.cell (World.block_lt_of_cell? w _ hx328_2)).trans hx328_2
          replace hx328_3 := (HB.out.cell (World.block_lt_of_cell? w _ hx328_3)).trans hx328_3
          replace p328 := eq_true p328
          replace q328 := eq_true q328
          have p329 : 0 ≤ (x5_1 : Int) := of_decide_eq_true (by first | (with_reducible assumption) | assumption)
          have q329 : x5_1 < (l0.length : Int) := of_decide_eq_true (by first | (with_reducible assumption) | assumption)
          obtain ⟨ad329, e329, hx329_0, hx329_1, hx329_2, hx329_3⟩ := at_T43 HR0.out x5_1 p329 q329
          have hw329_3 := hx329_3
          have hw329_2 := hx329_2
          have hw329_1 := hx329_1
          have hw329_0 := hx329_0
          obtain rfl : ad324 = ad329 := (by injection e329)
          replace hx329_0 := (HB.out.cell (World.block_lt_of_cell? w _ hx329_0)).trans hx329_0
          replace hx329_1 := (HB.out.cell (World.block_lt_of_cell? w _ hx329_1)).trans hx329_1
          replace hx329_2 := (HB.out.cell (World.block_lt_of_cell? w _ hx329_2)).trans hx329_2
          replace hx329_3 := (HB.out.cell (World.block_lt_of_cell? w _ hx329_3)).trans hx329_3
          replace p329 := eq_true p329
          replace q329 := eq_true q329
          have p330 : 0 ≤ (x5_1 : Int) := of_decide_eq_true (by first | (with_reducible assumption) | assumption)
          have q330 : x5_1 < (l0.length : Int) := of_decide_eq_true (by first | (with_reducible assumption) | assumption)
          obtain ⟨ad330, e330, hx330_0, hx330_1, hx330_2, hx330_3⟩ := at_T43 HR0.out x5_1 p330 q330
          have hw330_3 := hx330_3
          have hw330_2 := hx330_2
          have hw330_1 := hx330_1
          have hw330_0 := hx330_0
          obtain rfl : ad324 = ad330 := (by injection e330)
          replace hx330_0 := (HB.out.cell (World.block_lt_of_cell? w _ hx330_0)).trans hx330_0
          replace hx330_1 := (HB.out.cell (World.block_lt_of_cell? w _ hx330_1)).trans hx330_1
          replace hx330_2 := (HB.out.cell (World.block_lt_of_cell? w _ hx330_2)).trans hx330_2
          replace hx330_3 := (HB.out.cell (World.block_lt_of_cell? w _ hx330_3)).trans hx330_3
          replace p330 := eq_true p330
          replace q330 := eq_true q330
          refine start_ (n := 21) (S := fun w' => w'.cell? (ad324.add ((x5_1).toNat * 4)) = some (.string ((rd_T43 l0 x5_1).f0)) ∧ w'.cell? ⟨(ad324.add ((x5_1).toNat * 4)).block, (ad324.add ((x5_1).toNat * 4)).off + 1, none⟩ = some (.int .i64 ((rd_T43 l0 x5_1).f1)) ∧ w'.cell? ⟨(ad324.add ((x5_1).toNat * 4)).block, (ad324.add ((x5_1).toNat * 4)).off + 2, none⟩ = some (.int .i64 ((rd_T43 l0 x5_1).f2)) ∧ w'.cell? ⟨(ad324.add ((x5_1).toNat * 4)).block, (ad324.add ((x5_1).toNat * 4)).off + 3, none⟩ = some (.string ((rd_T43 l0 x5_1).f3)) ∧ w'.cell? (ad324.add ((x5_1).toNat * 4)) = some (.string ((rd_T43 l0 x5_1).f0)) ∧ w'.cell? ⟨(ad324.add ((x5_1).toNat * 4)).block, (ad324.add ((x5_1).toNat * 4)).off + 1, none⟩ = some (.int .i64 ((rd_T43 l0 x5_1).f1)) ∧ w'.cell? ⟨(ad324.add ((x5_1).toNat * 4)).block, (ad324.add ((x5_1).toNat * 4)).off + 2, none⟩ = some (.int .i64 ((rd_T43 l0 x5_1).f2)) ∧ w'.cell? ⟨(ad324.add ((x5_1).toNat * 4)).block, (ad324.add ((x5_1).toNat * 4)).off + 3, none⟩ = some (.string ((rd_T43 l0 x5_1).f3)) ∧ w'.cell? (ad324.add ((x5_1).toNat * 4)) = some (.string ((rd_T43 l0 x5_1).f0)) ∧ w'.cell? ⟨(ad324.add ((x5_1).toNat * 4)).block, (ad324.add ((x5_1).toNat * 4)).off + 1, none⟩ = some (.int .i64 ((rd_T43 l0 x5_1).f1)) ∧ w'.cell? ⟨(ad324.add ((x5_1).toNat * 4)).block, (ad324.add ((x5_1).toNat * 4)).off + 2, none⟩ = some (.int .i64 ((rd_T43 l0 x5_1).f2)) ∧ w'.cell? ⟨(ad324.add ((x5_1).toNat * 4)).block, (ad324.add ((x5_1).toNat * 4)).off + 3, none⟩ = some (.string ((rd_T43 l0 x5_1).f3))) (ds := []) #[false, false, false, false, false, false, false, false, false, false, false, false, false, false, false, false, false, false, false, false, false] (by kernel_rfl) rfl rfl ⟨((HB.out.cell (World.block_lt_of_cell? w _ hw328_0)).trans hw328_0), ((HB.out.cell (World.block_lt_of_cell? w _ hw328_1)).trans hw328_1), ((HB.out.cell (World.block_lt_of_cell? w _ hw328_2)).trans hw328_2), ((HB.out.cell (World.block_lt_of_cell? w _ hw328_3)).trans hw328_3), ((HB.out.cell (World.block_lt_of_cell? w _ hw329_0)).trans hw329_0), ((HB.out.cell (World.block_lt_of_cell? w _ hw329_1)).trans hw329_1), ((HB.out.cell (World.block_lt_of_cell? w _ hw329_2)).trans hw329_2), ((HB.out.cell (World.block_lt_of_cell? w _ hw329_3)).trans hw329_3), ((HB.out.cell (World.block_lt_of_cell? w _ hw330_0)).trans hw330_0), ((HB.out.cell (World.block_lt_of_cell? w _ hw330_1)).trans hw330_1), ((HB.out.cell (World.block_lt_of_cell? w _ hw330_2)).trans hw330_2), ((HB.out.cell (World.block_lt_of_cell? w _ hw330_3)).trans hw330_3)⟩ (fun hHeld => ?_); refine with_tabW glacisref05_Tail.tab6 glacisref05_Tail.bits6 (fun HT_ HW_ => ?_)
          generalize wr.drew = w7 at HB hx328_0 hx328_1 hx328_2 hx328_3 hx329_0 hx329_1 hx329_2 hx329_3 hx330_0 hx330_1 hx330_2 hx330_3 hHeld ⊢
          refine pure_ (i := 0) (N := some 29) (v := ?_) (a' := ?_) #[true, false, false, false, false, false, false, false, false, false, false, false, false, false, false, false, false, false, false, false, false] rfl rfl (any_of HT_.out (by kernel_rfl)) (fun _ _ _ h => h) (Or.inl ⟨by rfl, ?_⟩) ?_ ?_
          rotate_left
          · intro w'
            go_simp
            with_reducible rfl
          rotate_left
          · simp only [Act.put, List.setIfInBounds_toArray, List.set_cons_zero, List.set_cons_succ, i64_w, i32_w]
            rfl
          refine pure_ (i := 1) (N := some 30) (v := ?_) (a' := ?_) #[true, true, false, false, false, false, false, false, false, false, false, false, false, false, false, false, false, false, false, false, false] rfl rfl (any_of HT_.out (by kernel_rfl)) (fun _ _ _ h => h) (Or.inl ⟨by rfl, ?_⟩) ?_ ?_
          rotate_left
          · intro w'
            go_simp
            with_reducible rfl
          rotate_left
          · simp only [Act.put, List.setIfInBounds_toArray, List.set_cons_zero, List.set_cons_succ, i64_w, i32_w]
            rfl
          refine pure_ (i := 2) (N := some 31) (v := ?_) (a' := ?_) #[true, true, true, false, false, false, false, false, false, false, false, false, false, false, false, false, false, false, false, false, false] rfl rfl (any_of HT_.out (by kernel_rfl)) (fun _ _ _ h => h) (Or.inl ⟨by rfl, ?_⟩) ?_ ?_
          rotate_left
          · intro w'
            go_simp
            with_reducible rfl
          rotate_left
          · simp only [Act.put, List.setIfInBounds_toArray, List.set_cons_zero, List.set_cons_succ, i64_w, i32_w]
            rfl
          refine pure_ (i := 3) (N := some 32) (v := ?_) (a' := ?_) #[true, true, true, true, false, false, false, false, false, false, false, false, false, false, false, false, false, false, false, false, false] rfl rfl (any_of HT_.out (by kernel_rfl)) (fun _ _ _ h => h) (Or.inl ⟨by rfl, ?_⟩) ?_ ?_
          rotate_left
          · intro w'
            go_simp
            with_reducible rfl
          rotate_left
          · simp only [Act.put, List.setIfInBounds_toArray, List.set_cons_zero, List.set_cons_succ, i64_w, i32_w]
            rfl
          refine pure_ (i := 5) (N := some 34) (v := ?_) (a' := ?_) #[true, true, true, true, false, true, false, false, false, false, false, false, false, false, false, false, false, false, false, false, false] rfl rfl (any_of HT_.out (by kernel_rfl)) (fun _ _ _ h => h) (Or.inl ⟨by rfl, ?_⟩) ?_ ?_
          rotate_left
          · intro w'
            go_simp
            with_reducible rfl
          rotate_left
          · simp only [Act.put, List.setIfInBounds_toArray, List.set_cons_zero, List.set_cons_succ, i64_w, i32_w]
            rfl
          refine pure_ (i := 6) (N := some 35) (v := ?_) (a' := ?_) #[true, true, true, true, false, true, true, false, false, false, false, false, false, false, false, false, false, false, false, false, false] rfl rfl (any_of HT_.out (by kernel_rfl)) (fun _ _ _ h => h) (Or.inl ⟨by rfl, ?_⟩) ?_ ?_
          rotate_left
          · intro w'
            go_simp
            with_reducible rfl
          rotate_left
          · simp only [Act.put, List.setIfInBounds_toArray, List.set_cons_zero, List.set_cons_succ, i64_w, i32_w]
            rfl
          refine pure_ (i := 7) (N := some 36) (v := ?_) (a' := ?_) #[true, true, true, true, false, true, true, true, false, false, false, false, false, false, false, false, false, false, false, false, false] rfl rfl (any_of HT_.out (by kernel_rfl)) (fun _ _ _ h => h) (Or.inl ⟨by rfl, ?_⟩) ?_ ?_
          rotate_left
          · intro w'
            go_simp
            with_reducible rfl
          rotate_left
          · simp only [Act.put, List.setIfInBounds_toArray, List.set_cons_zero, List.set_cons_succ, i64_w, i32_w]
            rfl
          refine pure_ (i := 8) (N := some 37) (v := ?_) (a' := ?_) #[true, true, true, true, false, true, true, true, true, false, false, false, false, false, false, false, false, false, false, false, false] rfl rfl (any_of HT_.out (by kernel_rfl)) (fun _ _ _ h => h) (Or.inl ⟨by rfl, ?_⟩) ?_ ?_
          rotate_left
          · intro w'
            go_simp
            with_reducible rfl
          rotate_left
          · simp only [Act.put, List.setIfInBounds_toArray, List.set_cons_zero, List.set_cons_succ, i64_w, i32_w]
            rfl
          refine pure_ (i := 10) (N := some 39) (v := ?_) (a' := ?_) #[true, true, true, true, false, true, true, true, true, false, true, false, false, false, false, false, false, false, false, false, false] rfl rfl (any_of HT_.out (by kernel_rfl)) (fun _ _ _ h => h) (Or.inl ⟨by rfl, ?_⟩) ?_ ?_
          rotate_left
          · intro w'
            go_simp
            with_reducible rfl
          rotate_left
          · simp only [Act.put, List.setIfInBounds_toArray, List.set_cons_zero, List.set_cons_succ, i64_w, i32_w]
            rfl
          refine pure_ (i := 11) (N := some 40) (v := ?_) (a' := ?_) #[true, true, true, true, false, true, true, true, true, false, true, true, false, false, false, false, false, false, false, false, false] rfl rfl (any_of HT_.out (by kernel_rfl)) (fun _ _ _ h => h) (Or.inl ⟨by rfl, ?_⟩) ?_ ?_
          rotate_left
          · intro w'
            go_simp
            with_reducible rfl
          rotate_left
          · simp only [Act.put, List.setIfInBounds_toArray, List.set_cons_zero, List.set_cons_succ, i64_w, i32_w]
            rfl
          refine pure_ (i := 12) (N := some 41) (v := ?_) (a' := ?_) #[true, true, true, true, false, true, true, true, true, false, true, true, true, false, false, false, false, false, false, false, false] rfl rfl (any_of HT_.out (by kernel_rfl)) (fun _ _ _ h => h) (Or.inl ⟨by rfl, ?_⟩) ?_ ?_
          rotate_left
          · intro w'
            go_simp
            with_reducible rfl
          rotate_left
          · simp only [Act.put, List.setIfInBounds_toArray, List.set_cons_zero, List.set_cons_succ, i64_w, i32_w]
            rfl
          refine pure_ (i := 13) (N := some 42) (v := ?_) (a' := ?_) #[true, true, true, true, false, true, true, true, true, false, true, true, true, true, false, false, false, false, false, false, false] rfl rfl (any_of HT_.out (by kernel_rfl)) (fun _ _ _ h => h) (Or.inl ⟨by rfl, ?_⟩) ?_ ?_
          rotate_left
          · intro w'
            go_simp
            with_reducible rfl
          rotate_left
          · simp only [Act.put, List.setIfInBounds_toArray, List.set_cons_zero, List.set_cons_succ, i64_w, i32_w]
            rfl
          refine take_ (i := 4) (N := some 33) (v := ?_) (a' := ?_) #[true, true, true, true, true, true, true, true, true, false, true, true, true, true, false, false, false, false, false, false, false] rfl rfl (take_ofW HT_.out HW_.out (by kernel_rfl)) (fun _ _ _ h => h) (Or.inl ⟨by rfl, ?_⟩) hHeld ?_ ?_
          rotate_left
          · rintro w' ⟨s0, s1, s2, s3, s4, s5, s6, s7, s8, s9, s10, s11⟩
            go_simp
            with_reducible rfl
          rotate_left
          · simp only [Act.put, List.setIfInBounds_toArray, List.set_cons_zero, List.set_cons_succ, i64_w, i32_w]
            rfl
          refine take_ (i := 9) (N := some 38) (v := ?_) (a' := ?_) #[true, true, true, true, true, true, true, true, true, true, true, true, true, true, false, false, false, false, false, false, false] rfl rfl (take_ofW HT_.out HW_.out (by kernel_rfl)) (fun _ _ _ h => h) (Or.inl ⟨by rfl, ?_⟩) hHeld ?_ ?_
          rotate_left
          · rintro w' ⟨s0, s1, s2, s3, s4, s5, s6, s7, s8, s9, s10, s11⟩
            go_simp
            with_reducible rfl
          rotate_left
          · simp only [Act.put, List.setIfInBounds_toArray, List.set_cons_zero, List.set_cons_succ, i64_w, i32_w]
            rfl
          refine take_ (i := 14) (N := some 43) (v := ?_) (a' := ?_) #[true, true, true, true, true, true, true, true, true, true, true, true, true, true, true, false, false, false, false, false, false] rfl rfl (take_ofW HT_.out HW_.out (by kernel_rfl)) (fun _ _ _ h => h) (Or.inl ⟨by rfl, ?_⟩) hHeld ?_ ?_
          rotate_left
          · rintro w' ⟨s0, s1, s2, s3, s4, s5, s6, s7, s8, s9, s10, s11⟩
            go_simp
            with_reducible rfl
          rotate_left
          · simp only [Act.put, List.setIfInBounds_toArray, List.set_cons_zero, List.set_cons_succ, i64_w, i32_w]
            rfl
          refine one_ (i := 15) (N := some 44) #[true, true, true, true, true, true, true, true, true, true, true, true, true, true, true, true, false, false, false, false, false] rfl rfl (one_of HT_.out (by kernel_rfl)) (by decide) (fun K hK => ?_)
          refine goes_ Tryz.func25 (by kernel_rfl) rfl #[.int .i64 ((rd_T43 l0 x5_1).f1), .int .i64 ((rd_T43 l0 x5_1).f2), .string ((rd_T43 l0 x5_1).f3)] (by rfl) rfl rfl (by (try simp only [List.map_toArray, List.map_cons, List.map_nil]); first | done | rfl | (simp only [List.length_drop, List.length_take]; rfl)) ?_
          with_reducible refine (glacisref05_Value.calls k1 ((rd_T43 l0 x5_1).f1) ((rd_T43 l0 x5_1).f2) ((rd_T43 l0 x5_1).f3) t331 t332 _ (tab_ hT_ ?hTab) A5.out).mono ?_
          case hTab => exact (by repeat (first | (with_reducible first | exact HB.out | apply below_alloc | apply pw_below_drewN | apply below_drew1) | exact HB.out))
          rintro e w8 ⟨rfl, hb⟩
          refine ⟨_, rfl, ?_⟩
          have n0_ := Aside0.mk (below_step (by repeat (first | (with_reducible first | exact HB.out | apply below_alloc | apply pw_below_drewN | apply below_drew1) | exact HB.out)) hb)
          clear HB
          have HB := n0_
          clear n0_
          (try clear hb)
          (try clear hb2)
          (try clear hk)
          (try clear hi)
          refine hK.out _ _ ⟨((HB.out.cell (World.block_lt_of_cell? w _ hw328_0)).trans hw328_0), ((HB.out.cell (World.block_lt_of_cell? w _ hw328_1)).trans hw328_1), ((HB.out.cell (World.block_lt_of_cell? w _ hw328_2)).trans hw328_2), ((HB.out.cell (World.block_lt_of_cell? w _ hw328_3)).trans hw328_3), ((HB.out.cell (World.block_lt_of_cell? w _ hw329_0)).trans hw329_0), ((HB.out.cell (World.block_lt_of_cell? w _ hw329_1)).trans hw329_1), ((HB.out.cell (World.block_lt_of_cell? w _ hw329_2)).trans hw329_2), ((HB.out.cell (World.block_lt_of_cell? w _ hw329_3)).trans hw329_3), ((HB.out.cell (World.block_lt_of_cell? w _ hw330_0)).trans hw330_0), ((HB.out.cell (World.block_lt_of_cell? w _ hw330_1)).trans hw330_1), ((HB.out.cell (World.block_lt_of_cell? w _ hw330_2)).trans hw330_2), ((HB.out.cell (World.block_lt_of_cell? w _ hw330_3)).trans hw330_3)⟩ (fun hHeld => ?_)
          clear hK K
          refine norm_ (a' := ?_) ?_ ?_
          rotate_left
          · show Act.put _ (some 44) _ = _
            simp only [Act.put, List.setIfInBounds_toArray, List.set_cons_zero, List.set_cons_succ, i64_w, i32_w]
            rfl
          refine pure_ (i := 16) (N := some 28) (v := ?_) (a' := ?_) #[true, true, true, true, true, true, true, true, true, true, true, true, true, true, true, true, true, false, false, false, false] rfl rfl (any_of HT_.out (by kernel_rfl)) (fun _ _ _ h => h) (Or.inl ⟨by rfl, ?_⟩) ?_ ?_
          rotate_left
          · intro w'
            go_simp
            with_reducible rfl
          rotate_left
          · simp only [Act.put, List.setIfInBounds_toArray, List.set_cons_zero, List.set_cons_succ, i64_w, i32_w]
            rfl
          refine pure_ (i := 17) (N := some 45) (v := ?_) (a' := ?_) #[true, true, true, true, true, true, true, true, true, true, true, true, true, true, true, true, true, true, false, false, false] rfl rfl (any_of HT_.out (by kernel_rfl)) (fun _ _ _ h => h) (Or.inl ⟨by rfl, ?_⟩) ?_ ?_
          rotate_left
          · intro w'
            go_simp
            with_reducible rfl
          rotate_left
          · simp only [Act.put, List.setIfInBounds_toArray, List.set_cons_zero, List.set_cons_succ, i64_w, i32_w]
            rfl
          refine pure_ (i := 18) (N := some 46) (v := ?_) (a' := ?_) #[true, true, true, true, true, true, true, true, true, true, true, true, true, true, true, true, true, true, true, false, false] rfl rfl (any_of HT_.out (by kernel_rfl)) (fun _ _ _ h => h) (Or.inl ⟨by rfl, ?_⟩) ?_ ?_
          rotate_left
          · intro w'
            go_simp
            with_reducible rfl
          rotate_left
          · simp only [Act.put, List.setIfInBounds_toArray, List.set_cons_zero, List.set_cons_succ, i64_w, i32_w]
            rfl
          refine pure_ (i := 19) (N := some 9) (v := ?_) (a' := ?_) #[true, true, true, true, true, true, true, true, true, true, true, true, true, true, true, true, true, true, true, true, false] rfl rfl (any_of HT_.out (by kernel_rfl)) (fun _ _ _ h => h) (Or.inl ⟨by rfl, ?_⟩) ?_ ?_
          rotate_left
          · intro w'
            go_simp
            with_reducible rfl
          rotate_left
          · simp only [Act.put, List.setIfInBounds_toArray, List.set_cons_zero, List.set_cons_succ, i64_w, i32_w]
            rfl
          refine pure_ (i := 20) (N := some 10) (v := ?_) (a' := ?_) #[true, true, true, true, true, true, true, true, true, true, true, true, true, true, true, true, true, true, true, true, true] rfl rfl (any_of HT_.out (by kernel_rfl)) (fun _ _ _ h => h) (Or.inl ⟨by rfl, ?_⟩) ?_ ?_
          rotate_left
          · intro w'
            go_simp
            with_reducible rfl
          rotate_left
          · simp only [Act.put, List.setIfInBounds_toArray, List.set_cons_zero, List.set_cons_succ, i64_w, i32_w]
            rfl
          refine done_ (done_of HT_.out (by kernel_rfl)) ?_
          go_upto_region 7 with (fail)
          go_cut [56] (fun v56 wc => ∃ (kq : Nat) (x56_5 : Bool), v56 = .bool x56_5 ∧ Aside0 (glacisref05_Tail.j1 kq l0 x4_1 x5_1 t325 t331 x56_5 = some (r1, r2)) ∧ Aside0 (kq ≤ k1) ∧ Aside0 (Below w.heap.size w wc))
          case first =>
            have H := HC6.out
            clear HC6
            by_cases c9 : t327 = 0
            · rw [if_pos c9] at H
              have c9b0 : (t327 == 0) = true := beq_iff_eq.mpr c9
              have c9b1 : (t327 != 0) = false := bne_eq_false_iff_eq.mpr c9
              clear c9
              (first | rw [c9b0] | (simp only [i64_w, i32_w]; rw [c9b0]) | skip)
              by_cases c10 : t326.toList = ([] : List UInt8)
              · rw [if_pos c10] at H
                have c10b0 : (t326.toList == ([] : List UInt8)) = true := beq_iff_eq.mpr c10
                have c10b1 : (t326.toList != ([] : List UInt8)) = false := bne_eq_false_iff_eq.mpr c10
                clear c10
                have H' := Aside0.mk H
                clear H
                go_wp2
                go_meet
                case rel => exact ⟨_, (!t332), (by first | rfl | (simp; done) | (simp [*]; done) | (simp [q_ne_nil]; done)), H', ⟨by have := HK1.out; first | omega | exact Nat.le_refl _⟩, ⟨by repeat (first | (with_reducible first | exact HB.out | apply below_alloc | apply pw_below_drewN | apply below_drew1) | exact HB.out)⟩⟩
              · rw [if_neg c10] at H
                have c10b0 : (t326.toList == ([] : List UInt8)) = false := beq_eq_false_iff_ne.mpr c10
                have c10b1 : (t326.toList != ([] : List UInt8)) = true := bne_iff_ne.mpr c10
                have H' := Aside0.mk H
                clear H
                go_wp2
                go_meet
                case rel => exact ⟨_, (true), (by first | rfl | (simp; done) | (simp [*]; done) | (simp [q_ne_nil]; done)), H', ⟨by have := HK1.out; first | omega | exact Nat.le_refl _⟩, ⟨by repeat (first | (with_reducible first | exact HB.out | apply below_alloc | apply pw_below_drewN | apply below_drew1) | exact HB.out)⟩⟩
            · rw [if_neg c9] at H
              have c9b0 : (t327 == 0) = false := beq_eq_false_iff_ne.mpr c9
              have c9b1 : (t327 != 0) = true := bne_iff_ne.mpr c9
              (first | rw [c9b0] | (simp only [i64_w, i32_w]; rw [c9b0]) | skip)
              have H' := Aside0.mk H
              clear H
              go_wp2
              go_meet
              case rel => exact ⟨_, (true), (by first | rfl | (simp; done) | (simp [*]; done) | (simp [q_ne_nil]; done)), H', ⟨by have := HK1.out; first | omega | exact Nat.le_refl _⟩, ⟨by repeat (first | (with_reducible first | exact HB.out | apply below_alloc | apply pw_below_drewN | apply below_drew1) | exact HB.out)⟩⟩
          case rest =>
            clear HC6
            try clear c1
            try clear c2
            try clear c2b0
            try clear p2
            try clear c3
            try clear c3b0
            try clear p3
            try clear q3
            try clear hx3
            try clear c9
            try clear c9b0
            try clear c9b1
            try clear c10
            try clear c10b0
            try clear c10b1
            try clear hx324_0
            try clear hx324_1
            try clear hx324_2
            try clear hx324_3
            try clear hx328_0
            try clear hx328_1
            try clear hx328_2
            try clear hx328_3
            try clear hx329_0
            try clear hx329_1
            try clear hx329_2
            try clear hx329_3
            try clear hx330_0
            try clear hx330_1
            try clear hx330_2
            try clear hx330_3
            try clear p324
            try clear p328
            try clear p329
            try clear p330
            try clear q324
            try clear q328
            try clear q329
            try clear q330
            obtain ⟨kq, x56_5, rfl, HA, HJ5, HB⟩ := hcut
            cases kq with
            | zero => exact absurd HA.out (by simp [glacisref05_Tail.j1])
            | succ kj5 =>
              have H := HA.out
              clear HA
              simp only [glacisref05_Tail.j1] at H
              by_cases c11 : x56_5 = true
              · subst c11
                have H1 : (some ((⟨#[]⟩ : ByteArray), 50)) = some (r1, r2) := by rw [if_pos rfl] at H; exact H
                clear H
                have H := H1
                clear H1
                simp only [Option.some.injEq, Prod.mk.injEq] at H
                obtain ⟨rfl, rfl⟩ := H
                go_wp2
                go_ret2
                exact ⟨by first | rfl | (simp [errW_none, errW_some] <;> rfl) | (simp [*, errW_none, errW_some] <;> rfl) | (simp [q_ne_nil]; done), by repeat (first | (with_reducible first | exact HB.out | apply below_alloc | apply pw_below_drewN | apply below_drew1) | exact HB.out)⟩
              · replace c11 := Bool.eq_false_iff.mpr c11
                subst c11
                have H1 : (glacisref05_Tail.l1 kj5 l0 x4_1 x5_1 t325 t331 0) = some (r1, r2) := by rw [if_neg (show ¬ (false = true) by decide)] at H; exact H
                clear H
                have H := H1
                clear H1
                have H' := Aside0.mk H
                clear H
                go_wp2
                go_loopg [11] kj5 (fun kq v11 w' => ∃ (x11_3 : Int), v11 = .int .i64 x11_3 ∧ Aside0 (glacisref05_Tail.l1 kq l0 x4_1 x5_1 t325 t331 x11_3 = some (r1, r2)) ∧ Aside0 (kq ≤ kj5) ∧ Aside0 (Below w.heap.size w w'))
                case atStart => exact ⟨(0), (by first | rfl | (simp; done) | (simp [*]; done) | (simp [q_ne_nil]; done)), H', ⟨Nat.le_refl _⟩, ⟨by repeat (first | (with_reducible first | exact HB.out | apply below_alloc | apply pw_below_drewN | apply below_drew1) | exact HB.out)⟩⟩
                case round =>
                  clear H'
                  try clear c1
                  try clear c2
                  try clear c2b0
                  try clear p2
                  try clear c3
                  try clear c3b0
                  try clear p3
                  try clear q3
                  try clear hx3
                  try clear c9
                  try clear c9b0
                  try clear c9b1
                  try clear c10
                  try clear c10b0
                  try clear c10b1
                  try clear c11
                  try clear hx324_0
                  try clear hx324_1
                  try clear hx324_2
                  try clear hx324_3
                  try clear hx328_0
                  try clear hx328_1
                  try clear hx328_2
                  try clear hx328_3
                  try clear hx329_0
                  try clear hx329_1
                  try clear hx329_2
                  try clear hx329_3
                  try clear hx330_0
                  try clear hx330_1
                  try clear hx330_2
                  try clear hx330_3
                  try clear p2
                  try clear p3
                  try clear p324
                  try clear p328
                  try clear p329
                  try clear p330
                  try clear q3
                  try clear q324
                  try clear q328
                  try clear q329
                  try clear q330
                  obtain ⟨x11_3, rfl, HA, HK3, HB⟩ := hrel
                  cases gk with
                  | zero => exact absurd HA.out (by simp [glacisref05_Tail.l1])
                  | succ k3 =>
                    have H := HA.out
                    clear HA
                    simp only [glacisref05_Tail.l1] at H
                    by_cases c12 : x11_3 < x5_1
                    · rw [if_pos c12] at H
                      have c12b0 : decide (x11_3 < x5_1) = true := decide_eq_true c12
                      clear c12
                      by_cases c13 : 0 ≤ x11_3
                      · rw [if_pos c13] at H
                        have c13b0 : decide (0 ≤ x11_3) = true := decide_eq_true c13
                        clear c13
                        by_cases c14 : x11_3 < (l0.length : Int)
                        · rw [if_pos c14] at H
                          have c14b0 : decide (x11_3 < (l0.length : Int)) = true := decide_eq_true c14
                          clear c14
                          by_cases c15 : ((rd_T43 l0 x11_3).f0).toList = t325.toList
                          · rw [if_pos c15] at H
                            have c15b0 : (((rd_T43 l0 x11_3).f0).toList == t325.toList) = true := beq_iff_eq.mpr c15
                            have c15b1 : (((rd_T43 l0 x11_3).f0).toList != t325.toList) = false := bne_eq_false_iff_eq.mpr c15
                            clear c15
                            simp only [Option.some.injEq, Prod.mk.injEq] at H
                            obtain ⟨rfl, rfl⟩ := H
                            have p333 : 0 ≤ (x11_3 : Int) := of_decide_eq_true (by first | (with_reducible assumption) | assumption)
                            have q333 : x11_3 < (l0.length : Int) := of_decide_eq_true (by first | (with_reducible assumption) | assumption)
                            obtain ⟨ad333, e333, hx333_0, hx333_1, hx333_2, hx333_3⟩ := at_T43 HR0.out x11_3 p333 q333
                            obtain rfl : ad324 = ad333 := (by injection e333)
                            replace hx333_0 := (HB.out.cell (World.block_lt_of_cell? w _ hx333_0)).trans hx333_0
                            replace hx333_1 := (HB.out.cell (World.block_lt_of_cell? w _ hx333_1)).trans hx333_1
                            replace hx333_2 := (HB.out.cell (World.block_lt_of_cell? w _ hx333_2)).trans hx333_2
                            replace hx333_3 := (HB.out.cell (World.block_lt_of_cell? w _ hx333_3)).trans hx333_3
                            replace p333 := eq_true p333
                            replace q333 := eq_true q333
                            go_wp2
                            go_ret2
                            exact ⟨by first | rfl | (simp [errW_none, errW_some] <;> rfl) | (simp [*, errW_none, errW_some] <;> rfl) | (simp [q_ne_nil]; done), by repeat (first | (with_reducible first | exact HB.out | apply below_alloc | apply pw_below_drewN | apply below_drew1) | exact HB.out)⟩
                          · rw [if_neg c15] at H
                            have c15b0 : (((rd_T43 l0 x11_3).f0).toList == t325.toList) = false := beq_eq_false_iff_ne.mpr c15
                            have c15b1 : (((rd_T43 l0 x11_3).f0).toList != t325.toList) = true := bne_iff_ne.mpr c15
                            have H' := Aside0.mk H
                            clear H
                            have p333 : 0 ≤ (x11_3 : Int) := of_decide_eq_true (by first | (with_reducible assumption) | assumption)
                            have q333 : x11_3 < (l0.length : Int) := of_decide_eq_true (by first | (with_reducible assumption) | assumption)
                            obtain ⟨ad333, e333, hx333_0, hx333_1, hx333_2, hx333_3⟩ := at_T43 HR0.out x11_3 p333 q333
                            obtain rfl : ad324 = ad333 := (by injection e333)
                            replace hx333_0 := (HB.out.cell (World.block_lt_of_cell? w _ hx333_0)).trans hx333_0
                            replace hx333_1 := (HB.out.cell (World.block_lt_of_cell? w _ hx333_1)).trans hx333_1
                            replace hx333_2 := (HB.out.cell (World.block_lt_of_cell? w _ hx333_2)).trans hx333_2
                            replace hx333_3 := (HB.out.cell (World.block_lt_of_cell? w _ hx333_3)).trans hx333_3
                            replace p333 := eq_true p333
                            replace q333 := eq_true q333
                            go_wp2
                            go_roundg k3
                            case measure => have := HK1.out; have := HJ5.out; have := HK3.out; omega
                            case rel => exact ⟨(wrap64 (x11_3 + 1)), (by first | rfl | (simp; done) | (simp [*]; done) | (simp [q_ne_nil]; done)), H', ⟨by have := HK1.out; have := HJ5.out; have := HK3.out; omega⟩, ⟨by repeat (first | (with_reducible first | exact HB.out | apply below_alloc | apply pw_below_drewN | apply below_drew1) | exact HB.out)⟩⟩
                        · rw [if_neg c14] at H
                          exact absurd H (by simp)
                      · rw [if_neg c13] at H
                        exact absurd H (by simp)
                    · rw [if_neg c12] at H
                      have c12b0 : decide (x11_3 < x5_1) = false := decide_eq_false c12
                      clear c12
                      by_cases c16 : x4_1.size + 1 ≤ 9223372036854775807
                      · rw [if_pos c16] at H
                        have c16b0 := eq_true c16
                        have c16b1 : decide (x4_1.size + 1 ≤ 9223372036854775807) = true := decide_eq_true c16
                        try have c16b2 : (9223372036854775807 < x4_1.size + 1) = False := eq_false (Nat.not_lt.2 c16)
                        by_cases c17 : (x4_1 ++ (⟨#[59]⟩ : ByteArray)).size + t325.size ≤ 9223372036854775807
                        · rw [if_pos c17] at H
                          have c17b0 := eq_true c17
                          have c17b1 : decide ((x4_1 ++ (⟨#[59]⟩ : ByteArray)).size + t325.size ≤ 9223372036854775807) = true := decide_eq_true c17
                          try have c17b2 : (9223372036854775807 < (x4_1 ++ (⟨#[59]⟩ : ByteArray)).size + t325.size) = False := eq_false (Nat.not_lt.2 c17)
                          try (have c17d : (9223372036854775807 < x4_1.size + 1 + t325.size) = False := eq_false (by have h_ := c17; simp only [ByteArray.size_append] at h_; exact Nat.not_lt.2 h_))
                          by_cases c18 : 0 ≤ x5_1
                          · rw [if_pos c18] at H
                            have c18b0 : decide (0 ≤ x5_1) = true := decide_eq_true c18
                            clear c18
                            by_cases c19 : x5_1 < (l0.length : Int)
                            · rw [if_pos c19] at H
                              have c19b0 : decide (x5_1 < (l0.length : Int)) = true := decide_eq_true c19
                              clear c19
                              by_cases c20 : ((rd_T43 l0 x5_1).f1) = 6
                              · rw [if_pos c20] at H
                                have c20b0 : (((rd_T43 l0 x5_1).f1) == 6) = true := beq_iff_eq.mpr c20
                                have c20b1 : (((rd_T43 l0 x5_1).f1) != 6) = false := bne_eq_false_iff_eq.mpr c20
                                clear c20
                                by_cases c21 : ((rd_T43 l0 x5_1).f2) = 1
                                · rw [if_pos c21] at H
                                  have c21b0 : (((rd_T43 l0 x5_1).f2) == 1) = true := beq_iff_eq.mpr c21
                                  have c21b1 : (((rd_T43 l0 x5_1).f2) != 1) = false := bne_eq_false_iff_eq.mpr c21
                                  clear c21
                                  have H' := Aside0.mk H
                                  clear H
                                  have p334 : 0 ≤ (x5_1 : Int) := of_decide_eq_true (by first | (with_reducible assumption) | assumption)
                                  have q334 : x5_1 < (l0.length : Int) := of_decide_eq_true (by first | (with_reducible assumption) | assumption)
                                  obtain ⟨ad334, e334, hx334_0, hx334_1, hx334_2, hx334_3⟩ := at_T43 HR0.out x5_1 p334 q334
                                  obtain rfl : ad324 = ad334 := (by injection e334)
                                  replace hx334_0 := (HB.out.cell (World.block_lt_of_cell? w _ hx334_0)).trans hx334_0
                                  replace hx334_1 := (HB.out.cell (World.block_lt_of_cell? w _ hx334_1)).trans hx334_1
                                  replace hx334_2 := (HB.out.cell (World.block_lt_of_cell? w _ hx334_2)).trans hx334_2
                                  replace hx334_3 := (HB.out.cell (World.block_lt_of_cell? w _ hx334_3)).trans hx334_3
                                  replace p334 := eq_true p334
                                  replace q334 := eq_true q334
                                  have p335 : 0 ≤ (x5_1 : Int) := of_decide_eq_true (by first | (with_reducible assumption) | assumption)
                                  have q335 : x5_1 < (l0.length : Int) := of_decide_eq_true (by first | (with_reducible assumption) | assumption)
                                  obtain ⟨ad335, e335, hx335_0, hx335_1, hx335_2, hx335_3⟩ := at_T43 HR0.out x5_1 p335 q335
                                  obtain rfl : ad324 = ad335 := (by injection e335)
                                  replace hx335_0 := (HB.out.cell (World.block_lt_of_cell? w _ hx335_0)).trans hx335_0
                                  replace hx335_1 := (HB.out.cell (World.block_lt_of_cell? w _ hx335_1)).trans hx335_1
                                  replace hx335_2 := (HB.out.cell (World.block_lt_of_cell? w _ hx335_2)).trans hx335_2
                                  replace hx335_3 := (HB.out.cell (World.block_lt_of_cell? w _ hx335_3)).trans hx335_3
                                  replace p335 := eq_true p335
                                  replace q335 := eq_true q335
                                  go_wp2
                                  go_roundg k3
                                  case measure => have := HK1.out; have := HJ5.out; have := HK3.out; omega
                                  case rel => exact ⟨((x4_1 ++ (⟨#[59]⟩ : ByteArray)) ++ t325), (wrap64 (x5_1 + 1)), (by first | rfl | (simp; done) | (simp [*]; done) | (simp [q_ne_nil]; done)), (by first | rfl | (simp; done) | (simp [*]; done) | (simp [q_ne_nil]; done)), H', ⟨by have := HK1.out; have := HJ5.out; have := HK3.out; omega⟩, ⟨by repeat (first | (with_reducible first | exact HB.out | apply below_alloc | apply pw_below_drewN | apply below_drew1) | exact HB.out)⟩⟩
                                · rw [if_neg c21] at H
                                  have c21b0 : (((rd_T43 l0 x5_1).f2) == 1) = false := beq_eq_false_iff_ne.mpr c21
                                  have c21b1 : (((rd_T43 l0 x5_1).f2) != 1) = true := bne_iff_ne.mpr c21
                                  by_cases c22 : ((x4_1 ++ (⟨#[59]⟩ : ByteArray)) ++ t325).size + 1 ≤ 9223372036854775807
                                  · rw [if_pos c22] at H
                                    have c22b0 := eq_true c22
                                    have c22b1 : decide (((x4_1 ++ (⟨#[59]⟩ : ByteArray)) ++ t325).size + 1 ≤ 9223372036854775807) = true := decide_eq_true c22
                                    try have c22b2 : (9223372036854775807 < ((x4_1 ++ (⟨#[59]⟩ : ByteArray)) ++ t325).size + 1) = False := eq_false (Nat.not_lt.2 c22)
                                    try (have c22d : (9223372036854775807 < x4_1.size + 1 + t325.size + 1) = False := eq_false (by have h_ := c22; simp only [ByteArray.size_append] at h_; exact Nat.not_lt.2 h_))
                                    by_cases c23 : (((x4_1 ++ (⟨#[59]⟩ : ByteArray)) ++ t325) ++ (⟨#[61]⟩ : ByteArray)).size + t331.size ≤ 9223372036854775807
                                    · rw [if_pos c23] at H
                                      have c23b0 := eq_true c23
                                      have c23b1 : decide ((((x4_1 ++ (⟨#[59]⟩ : ByteArray)) ++ t325) ++ (⟨#[61]⟩ : ByteArray)).size + t331.size ≤ 9223372036854775807) = true := decide_eq_true c23
                                      try have c23b2 : (9223372036854775807 < (((x4_1 ++ (⟨#[59]⟩ : ByteArray)) ++ t325) ++ (⟨#[61]⟩ : ByteArray)).size + t331.size) = False := eq_false (Nat.not_lt.2 c23)
                                      try (have c23d : (9223372036854775807 < x4_1.size + 1 + t325.size + 1 + t331.size) = False := eq_false (by have h_ := c23; simp only [ByteArray.size_append] at h_; exact Nat.not_lt.2 h_))
                                      have H' := Aside0.mk H
                                      clear H
                                      have p334 : 0 ≤ (x5_1 : Int) := of_decide_eq_true (by first | (with_reducible assumption) | assumption)
                                      have q334 : x5_1 < (l0.length : Int) := of_decide_eq_true (by first | (with_reducible assumption) | assumption)
                                      obtain ⟨ad334, e334, hx334_0, hx334_1, hx334_2, hx334_3⟩ := at_T43 HR0.out x5_1 p334 q334
                                      obtain rfl : ad324 = ad334 := (by injection e334)
                                      replace hx334_0 := (HB.out.cell (World.block_lt_of_cell? w _ hx334_0)).trans hx334_0
                                      replace hx334_1 := (HB.out.cell (World.block_lt_of_cell? w _ hx334_1)).trans hx334_1
                                      replace hx334_2 := (HB.out.cell (World.block_lt_of_cell? w _ hx334_2)).trans hx334_2
                                      replace hx334_3 := (HB.out.cell (World.block_lt_of_cell? w _ hx334_3)).trans hx334_3
                                      replace p334 := eq_true p334
                                      replace q334 := eq_true q334
                                      have p335 : 0 ≤ (x5_1 : Int) := of_decide_eq_true (by first | (with_reducible assumption) | assumption)
                                      have q335 : x5_1 < (l0.length : Int) := of_decide_eq_true (by first | (with_reducible assumption) | assumption)
                                      obtain ⟨ad335, e335, hx335_0, hx335_1, hx335_2, hx335_3⟩ := at_T43 HR0.out x5_1 p335 q335
                                      obtain rfl : ad324 = ad335 := (by injection e335)
                                      replace hx335_0 := (HB.out.cell (World.block_lt_of_cell? w _ hx335_0)).trans hx335_0
                                      replace hx335_1 := (HB.out.cell (World.block_lt_of_cell? w _ hx335_1)).trans hx335_1
                                      replace hx335_2 := (HB.out.cell (World.block_lt_of_cell? w _ hx335_2)).trans hx335_2
                                      replace hx335_3 := (HB.out.cell (World.block_lt_of_cell? w _ hx335_3)).trans hx335_3
                                      replace p335 := eq_true p335
                                      replace q335 := eq_true q335
                                      go_wp2
                                      go_roundg k3
                                      case measure => have := HK1.out; have := HJ5.out; have := HK3.out; omega
                                      case rel => exact ⟨((((x4_1 ++ (⟨#[59]⟩ : ByteArray)) ++ t325) ++ (⟨#[61]⟩ : ByteArray)) ++ t331), (wrap64 (x5_1 + 1)), (by first | rfl | (simp; done) | (simp [*]; done) | (simp [q_ne_nil]; done)), (by first | rfl | (simp; done) | (simp [*]; done) | (simp [q_ne_nil]; done)), H', ⟨by have := HK1.out; have := HJ5.out; have := HK3.out; omega⟩, ⟨by repeat (first | (with_reducible first | exact HB.out | apply below_alloc | apply pw_below_drewN | apply below_drew1) | exact HB.out)⟩⟩
                                    · rw [if_neg c23] at H
                                      exact absurd H (by simp)
                                  · rw [if_neg c22] at H
                                    exact absurd H (by simp)
                              · rw [if_neg c20] at H
                                have c20b0 : (((rd_T43 l0 x5_1).f1) == 6) = false := beq_eq_false_iff_ne.mpr c20
                                have c20b1 : (((rd_T43 l0 x5_1).f1) != 6) = true := bne_iff_ne.mpr c20
                                by_cases c24 : ((x4_1 ++ (⟨#[59]⟩ : ByteArray)) ++ t325).size + 1 ≤ 9223372036854775807
                                · rw [if_pos c24] at H
                                  have c24b0 := eq_true c24
                                  have c24b1 : decide (((x4_1 ++ (⟨#[59]⟩ : ByteArray)) ++ t325).size + 1 ≤ 9223372036854775807) = true := decide_eq_true c24
                                  try have c24b2 : (9223372036854775807 < ((x4_1 ++ (⟨#[59]⟩ : ByteArray)) ++ t325).size + 1) = False := eq_false (Nat.not_lt.2 c24)
                                  try (have c24d : (9223372036854775807 < x4_1.size + 1 + t325.size + 1) = False := eq_false (by have h_ := c24; simp only [ByteArray.size_append] at h_; exact Nat.not_lt.2 h_))
                                  by_cases c25 : (((x4_1 ++ (⟨#[59]⟩ : ByteArray)) ++ t325) ++ (⟨#[61]⟩ : ByteArray)).size + t331.size ≤ 9223372036854775807
                                  · rw [if_pos c25] at H
                                    have c25b0 := eq_true c25
                                    have c25b1 : decide ((((x4_1 ++ (⟨#[59]⟩ : ByteArray)) ++ t325) ++ (⟨#[61]⟩ : ByteArray)).size + t331.size ≤ 9223372036854775807) = true := decide_eq_true c25
                                    try have c25b2 : (9223372036854775807 < (((x4_1 ++ (⟨#[59]⟩ : ByteArray)) ++ t325) ++ (⟨#[61]⟩ : ByteArray)).size + t331.size) = False := eq_false (Nat.not_lt.2 c25)
                                    try (have c25d : (9223372036854775807 < x4_1.size + 1 + t325.size + 1 + t331.size) = False := eq_false (by have h_ := c25; simp only [ByteArray.size_append] at h_; exact Nat.not_lt.2 h_))
                                    have H' := Aside0.mk H
                                    clear H
                                    have p334 : 0 ≤ (x5_1 : Int) := of_decide_eq_true (by first | (with_reducible assumption) | assumption)
                                    have q334 : x5_1 < (l0.length : Int) := of_decide_eq_true (by first | (with_reducible assumption) | assumption)
                                    obtain ⟨ad334, e334, hx334_0, hx334_1, hx334_2, hx334_3⟩ := at_T43 HR0.out x5_1 p334 q334
                                    obtain rfl : ad324 = ad334 := (by injection e334)
                                    replace hx334_0 := (HB.out.cell (World.block_lt_of_cell? w _ hx334_0)).trans hx334_0
                                    replace hx334_1 := (HB.out.cell (World.block_lt_of_cell? w _ hx334_1)).trans hx334_1
                                    replace hx334_2 := (HB.out.cell (World.block_lt_of_cell? w _ hx334_2)).trans hx334_2
                                    replace hx334_3 := (HB.out.cell (World.block_lt_of_cell? w _ hx334_3)).trans hx334_3
                                    replace p334 := eq_true p334
                                    replace q334 := eq_true q334
                                    go_wp2
                                    go_roundg k3
                                    case measure => have := HK1.out; have := HJ5.out; have := HK3.out; omega
                                    case rel => exact ⟨((((x4_1 ++ (⟨#[59]⟩ : ByteArray)) ++ t325) ++ (⟨#[61]⟩ : ByteArray)) ++ t331), (wrap64 (x5_1 + 1)), (by first | rfl | (simp; done) | (simp [*]; done) | (simp [q_ne_nil]; done)), (by first | rfl | (simp; done) | (simp [*]; done) | (simp [q_ne_nil]; done)), H', ⟨by have := HK1.out; have := HJ5.out; have := HK3.out; omega⟩, ⟨by repeat (first | (with_reducible first | exact HB.out | apply below_alloc | apply pw_below_drewN | apply below_drew1) | exact HB.out)⟩⟩
                                  · rw [if_neg c25] at H
                                    exact absurd H (by simp)
                                · rw [if_neg c24] at H
                                  exact absurd H (by simp)
                            · rw [if_neg c19] at H
                              exact absurd H (by simp)
                          · rw [if_neg c18] at H
                            exact absurd H (by simp)
                        · rw [if_neg c17] at H
                          exact absurd H (by simp)
                      · rw [if_neg c16] at H
                        exact absurd H (by simp)
        · rw [if_neg c3] at H
          exact absurd H (by simp)
      · rw [if_neg c2] at H
        have c2b0 : decide (x5_1 < (l0.length : Int)) = false := decide_eq_false c2
        clear c2
        simp only [Option.some.injEq, Prod.mk.injEq] at H
        obtain ⟨rfl, rfl⟩ := H
        go_wp2
        go_ret2
        exact ⟨by first | rfl | (simp [errW_none, errW_some] <;> rfl) | (simp [*, errW_none, errW_some] <;> rfl) | (simp [q_ne_nil]; done), by repeat (first | (with_reducible first | exact HB.out | apply below_alloc | apply pw_below_drewN | apply below_drew1) | exact HB.out)⟩
def glacisref05_Text.f (k : Nat) (a0_0 : Int) (a0_1 : Int) (a0_2 : ByteArray) (l0_3 : List (S43)) : Option (ByteArray × Int) := (glacisref05_Value.f k a0_0 a0_1 a0_2).bind fun bt337 => ((glacisref05_Tail.f k l0_3).bind fun bt339 => (if bt337.2 = true then (if bt339.2 = 0 then (if bt337.1.size + bt339.1.size ≤ 9223372036854775807 then (some (bt337.1 ++ bt339.1, 0)) else (none)) else (some ((⟨#[]⟩ : ByteArray), 50))) else (some ((⟨#[]⟩ : ByteArray), 50))))
set_option maxHeartbeats 8000000 in
set_option maxRecDepth 100000 in
theorem glacisref05_Text.calls (k : Nat) (a0_0 : Int) (a0_1 : Int) (a0_2 : ByteArray) (A0_3 : Option Addr) (c0_3 : Nat) (l0_3 : List (S43)) (r1 : ByteArray) (r2 : Int) (w : World) (hT_ : Aside0 (TabW w)) (hr0_3 : Kd.C k43 w A0_3 l0_3.length l0_3) (hc0_3 : l0_3.length ≤ c0_3) (h : glacisref05_Text.f k a0_0 a0_1 a0_2 l0_3 = some (r1, r2)) :
    Calls Tryz.prog 12 #[.agg #[.int .i64 a0_0, .int .i64 a0_1, .string a0_2, .slice A0_3 l0_3.length c0_3]] w fun e w' => e = .returned (.tuple #[.string r1, .int .i64 r2]) ∧ Below w.heap.size w w' := by
  have hu25 := Tryz.underlying25
  have HR0_3 := Aside0.mk hr0_3
  have HC0_3 := Aside0.mk hc0_3
  clear hr0_3 hc0_3
  have HB := Aside0.mk (Below.refl w.heap.size w)
  have H : ((glacisref05_Value.f k a0_0 a0_1 a0_2).bind fun bt337 => ((glacisref05_Tail.f k l0_3).bind fun bt339 => (if bt337.2 = true then (if bt339.2 = 0 then (if bt337.1.size + bt339.1.size ≤ 9223372036854775807 then (some (bt337.1 ++ bt339.1, 0)) else (none)) else (some ((⟨#[]⟩ : ByteArray), 50))) else (some ((⟨#[]⟩ : ByteArray), 50))))) = some (r1, r2) := h
  clear h
  replace H := Option.bind_eq_some_iff.mp H
  obtain ⟨⟨t337, t338⟩, A20, H⟩ := H
  replace H : ((glacisref05_Tail.f k l0_3).bind fun bt339 => (if t338 = true then (if bt339.2 = 0 then (if t337.size + bt339.1.size ≤ 9223372036854775807 then (some (t337 ++ bt339.1, 0)) else (none)) else (some ((⟨#[]⟩ : ByteArray), 50))) else (some ((⟨#[]⟩ : ByteArray), 50)))) = some (r1, r2) := H
  have A2 := Aside0.mk A20
  clear A20
  replace H := Option.bind_eq_some_iff.mp H
  obtain ⟨⟨t339, t340⟩, A30, H⟩ := H
  replace H : (if t338 = true then (if t340 = 0 then (if t337.size + t339.size ≤ 9223372036854775807 then (some (t337 ++ t339, 0)) else (none)) else (some ((⟨#[]⟩ : ByteArray), 50))) else (some ((⟨#[]⟩ : ByteArray), 50))) = some (r1, r2) := H
  have A3 := Aside0.mk A30
  clear A30
  by_cases c4 : t338 = true
  · subst c4
    have H1 : (if t340 = 0 then (if t337.size + t339.size ≤ 9223372036854775807 then (some (t337 ++ t339, 0)) else (none)) else (some ((⟨#[]⟩ : ByteArray), 50))) = some (r1, r2) := by rw [if_pos rfl] at H; exact H
    clear H
    have H := H1
    clear H1
    by_cases c5 : t340 = 0
    · rw [if_pos c5] at H
      have c5b0 : (t340 == 0) = true := beq_iff_eq.mpr c5
      have c5b1 : (t340 != 0) = false := bne_eq_false_iff_eq.mpr c5
      clear c5
      by_cases c6 : t337.size + t339.size ≤ 9223372036854775807
      · rw [if_pos c6] at H
        have c6b0 := eq_true c6
        have c6b1 : decide (t337.size + t339.size ≤ 9223372036854775807) = true := decide_eq_true c6
        try have c6b2 : (9223372036854775807 < t337.size + t339.size) = False := eq_false (Nat.not_lt.2 c6)
        simp only [Option.some.injEq, Prod.mk.injEq] at H
        obtain ⟨rfl, rfl⟩ := H
        go_enter Tryz.func12, Tryz.ntmps12
        go_wp2_with (first | ((with_reducible refine gate_dst (N := 1) rfl ?_); refine box_event ?hg (N := 1) ?hd (cs := #[.int .i64 a0_0, .int .i64 a0_1, .string a0_2, .slice A0_3 l0_3.length c0_3]) (t := 25) ?hr ?_; (case hd => rfl); (case hg => rfl); (case hr => first | (go_simp; done) | (go_simp; rfl)); intro gb336 hg w7 hbox hb; have n0_ := Aside0.mk (below_step (by repeat (first | (with_reducible first | exact HB.out | apply below_alloc | apply pw_below_drewN | apply below_drew1) | exact HB.out)) hb); have n1_ := Aside0.mk (hbox); have n2_ := Aside0.mk ((by rw [hg]; exact (below_size (by repeat (first | (with_reducible first | exact HB.out | apply below_alloc | apply pw_below_drewN | apply below_drew1) | exact HB.out))) : w.heap.size ≤ gb336)); have n3_ := Aside0.mk ((by rw [hg]; exact (below_size (by repeat (first | (with_reducible first | exact HB.out | apply below_alloc | apply pw_below_drewN | apply below_drew1) | exact HB.out))) : w.heap.size ≤ gb336)); clear HB; have HB := n0_; have BK336 := n1_; have GW336 := n2_; have GE336 := n3_; clear n0_ n1_ n2_ n3_; clear hb hbox hg; have hcz8_0 : w7.cell? ⟨gb336, 0, none⟩ = some (.int .i64 a0_0) := (blk_cell BK336.out 0).trans rfl; have hcz8_1 : w7.cell? ⟨gb336, 1, none⟩ = some (.int .i64 a0_1) := (blk_cell BK336.out 1).trans rfl; have hcz8_2 : w7.cell? ⟨gb336, 2, none⟩ = some (.string a0_2) := (blk_cell BK336.out 2).trans rfl; have hcz8_3 : w7.cell? ⟨gb336, 3, none⟩ = some (.slice A0_3 l0_3.length c0_3) := (blk_cell BK336.out 3).trans rfl; have hfz8_0 := blk_frozen BK336.out 0; have hfz8_1 := blk_frozen BK336.out 1; have hfz8_2 := blk_frozen BK336.out 2; have hfz8_3 := blk_frozen BK336.out 3) | ((with_reducible refine gate_callee (f := 25) rfl ?_); refine goesL_ (some 15) rfl rfl Tryz.func25 (by kernel_rfl) rfl #[.int .i64 a0_0, .int .i64 a0_1, .string a0_2] rfl (by (try simp only [List.map_toArray, List.map_cons, List.map_nil]); first | done | rfl | (simp only [List.length_drop, List.length_take]; rfl)) ?_; (with_reducible refine (glacisref05_Value.calls k a0_0 a0_1 a0_2 t337 true _ (tab_ hT_ ?hTab) A2.out).mono ?_); (case hTab => exact (by repeat (first | (with_reducible first | exact HB.out | apply below_alloc | apply pw_below_drewN | apply below_drew1 | refine below_set ?_ GE336.out) | exact HB.out))); rintro e w9 ⟨rfl, hb⟩; refine ⟨_, rfl, ?_⟩; have n0_ := Aside0.mk (blk_below (g := gb336) (o := .cells #[.int .i64 a0_0, .int .i64 a0_1, .string a0_2, .slice A0_3 l0_3.length c0_3] 25 (0, 0)) (by (with_reducible repeat (first | refine blk_drewN ?_ _ | refine blk_drew ?_ | refine blk_alloc ?_ _)); exact BK336.out) hb); have n1_ := Aside0.mk (below_step (by repeat (first | (with_reducible first | exact HB.out | apply below_alloc | apply pw_below_drewN | apply below_drew1 | refine below_set ?_ GE336.out) | exact HB.out)) hb); clear BK336; clear HB; have BK336 := n0_; have HB := n1_; clear n0_ n1_; (try clear hb); (try clear hb2); (try clear hk); (try clear hi); have hcz10_0 : w9.cell? ⟨gb336, 0, none⟩ = some (.int .i64 a0_0) := (blk_cell BK336.out 0).trans rfl; have hcz10_1 : w9.cell? ⟨gb336, 1, none⟩ = some (.int .i64 a0_1) := (blk_cell BK336.out 1).trans rfl; have hcz10_2 : w9.cell? ⟨gb336, 2, none⟩ = some (.string a0_2) := (blk_cell BK336.out 2).trans rfl; have hcz10_3 : w9.cell? ⟨gb336, 3, none⟩ = some (.slice A0_3 l0_3.length c0_3) := (blk_cell BK336.out 3).trans rfl; have hfz10_0 := blk_frozen BK336.out 0; have hfz10_1 := blk_frozen BK336.out 1; have hfz10_2 := blk_frozen BK336.out 2; have hfz10_3 := blk_frozen BK336.out 3) | ((with_reducible refine gate_callee (f := 14) rfl ?_); refine goesL_ (some 21) rfl rfl Tryz.func14 (by kernel_rfl) rfl #[.slice A0_3 l0_3.length c0_3] rfl (by (try simp only [List.map_toArray, List.map_cons, List.map_nil]); first | done | rfl | (simp only [List.length_drop, List.length_take]; rfl)) ?_; (with_reducible refine (glacisref05_Tail.calls k _ _ l0_3 t339 t340 _ (tab_ hT_ ?hTab) ?side1 ?side2 A3.out).mono ?_); (case hTab => exact (by repeat (first | (with_reducible first | exact HB.out | apply below_alloc | apply pw_below_drewN | apply below_drew1 | refine below_set ?_ GE336.out) | exact HB.out))); (case side1 => repeat (first | exact (Kd.C_below HR0_3.out HB.out) | (with_reducible refine Kd.C_alloc ?_ _) | (with_reducible refine Kd.C_drewN ?_ _) | (with_reducible refine Kd.C_drew ?_))); (case side2 => exact HC0_3.out); rintro e w11 ⟨rfl, hb⟩; refine ⟨_, rfl, ?_⟩; have n0_ := Aside0.mk (blk_below (g := gb336) (o := .cells #[.int .i64 a0_0, .int .i64 a0_1, .string a0_2, .slice A0_3 l0_3.length c0_3] 25 (0, 0)) (by (with_reducible repeat (first | refine blk_drewN ?_ _ | refine blk_drew ?_ | refine blk_alloc ?_ _)); exact BK336.out) hb); have n1_ := Aside0.mk (below_step (by repeat (first | (with_reducible first | exact HB.out | apply below_alloc | apply pw_below_drewN | apply below_drew1 | refine below_set ?_ GE336.out) | exact HB.out)) hb); clear BK336; clear HB; have BK336 := n0_; have HB := n1_; clear n0_ n1_; (try clear hb); (try clear hb2); (try clear hk); (try clear hi)))
        go_ret2
        exact ⟨by first | rfl | (simp [errW_none, errW_some] <;> rfl) | (simp [*, errW_none, errW_some] <;> rfl) | (simp [q_ne_nil]; done), by repeat (first | (with_reducible first | exact HB.out | apply below_alloc | apply pw_below_drewN | apply below_drew1 | refine below_set ?_ GE336.out) | exact HB.out)⟩
      · rw [if_neg c6] at H
        exact absurd H (by simp)
    · rw [if_neg c5] at H
      have c5b0 : (t340 == 0) = false := beq_eq_false_iff_ne.mpr c5
      have c5b1 : (t340 != 0) = true := bne_iff_ne.mpr c5
      simp only [Option.some.injEq, Prod.mk.injEq] at H
      obtain ⟨rfl, rfl⟩ := H
      go_enter Tryz.func12, Tryz.ntmps12
      go_wp2_with (first | ((with_reducible refine gate_dst (N := 1) rfl ?_); refine box_event ?hg (N := 1) ?hd (cs := #[.int .i64 a0_0, .int .i64 a0_1, .string a0_2, .slice A0_3 l0_3.length c0_3]) (t := 25) ?hr ?_; (case hd => rfl); (case hg => rfl); (case hr => first | (go_simp; done) | (go_simp; rfl)); intro gb336 hg w12 hbox hb; have n0_ := Aside0.mk (below_step (by repeat (first | (with_reducible first | exact HB.out | apply below_alloc | apply pw_below_drewN | apply below_drew1) | exact HB.out)) hb); have n1_ := Aside0.mk (hbox); have n2_ := Aside0.mk ((by rw [hg]; exact (below_size (by repeat (first | (with_reducible first | exact HB.out | apply below_alloc | apply pw_below_drewN | apply below_drew1) | exact HB.out))) : w.heap.size ≤ gb336)); have n3_ := Aside0.mk ((by rw [hg]; exact (below_size (by repeat (first | (with_reducible first | exact HB.out | apply below_alloc | apply pw_below_drewN | apply below_drew1) | exact HB.out))) : w.heap.size ≤ gb336)); clear HB; have HB := n0_; have BK336 := n1_; have GW336 := n2_; have GE336 := n3_; clear n0_ n1_ n2_ n3_; clear hb hbox hg; have hcz13_0 : w12.cell? ⟨gb336, 0, none⟩ = some (.int .i64 a0_0) := (blk_cell BK336.out 0).trans rfl; have hcz13_1 : w12.cell? ⟨gb336, 1, none⟩ = some (.int .i64 a0_1) := (blk_cell BK336.out 1).trans rfl; have hcz13_2 : w12.cell? ⟨gb336, 2, none⟩ = some (.string a0_2) := (blk_cell BK336.out 2).trans rfl; have hcz13_3 : w12.cell? ⟨gb336, 3, none⟩ = some (.slice A0_3 l0_3.length c0_3) := (blk_cell BK336.out 3).trans rfl; have hfz13_0 := blk_frozen BK336.out 0; have hfz13_1 := blk_frozen BK336.out 1; have hfz13_2 := blk_frozen BK336.out 2; have hfz13_3 := blk_frozen BK336.out 3) | ((with_reducible refine gate_callee (f := 25) rfl ?_); refine goesL_ (some 15) rfl rfl Tryz.func25 (by kernel_rfl) rfl #[.int .i64 a0_0, .int .i64 a0_1, .string a0_2] rfl (by (try simp only [List.map_toArray, List.map_cons, List.map_nil]); first | done | rfl | (simp only [List.length_drop, List.length_take]; rfl)) ?_; (with_reducible refine (glacisref05_Value.calls k a0_0 a0_1 a0_2 t337 true _ (tab_ hT_ ?hTab) A2.out).mono ?_); (case hTab => exact (by repeat (first | (with_reducible first | exact HB.out | apply below_alloc | apply pw_below_drewN | apply below_drew1 | refine below_set ?_ GE336.out) | exact HB.out))); rintro e w14 ⟨rfl, hb⟩; refine ⟨_, rfl, ?_⟩; have n0_ := Aside0.mk (blk_below (g := gb336) (o := .cells #[.int .i64 a0_0, .int .i64 a0_1, .string a0_2, .slice A0_3 l0_3.length c0_3] 25 (0, 0)) (by (with_reducible repeat (first | refine blk_drewN ?_ _ | refine blk_drew ?_ | refine blk_alloc ?_ _)); exact BK336.out) hb); have n1_ := Aside0.mk (below_step (by repeat (first | (with_reducible first | exact HB.out | apply below_alloc | apply pw_below_drewN | apply below_drew1 | refine below_set ?_ GE336.out) | exact HB.out)) hb); clear BK336; clear HB; have BK336 := n0_; have HB := n1_; clear n0_ n1_; (try clear hb); (try clear hb2); (try clear hk); (try clear hi); have hcz15_0 : w14.cell? ⟨gb336, 0, none⟩ = some (.int .i64 a0_0) := (blk_cell BK336.out 0).trans rfl; have hcz15_1 : w14.cell? ⟨gb336, 1, none⟩ = some (.int .i64 a0_1) := (blk_cell BK336.out 1).trans rfl; have hcz15_2 : w14.cell? ⟨gb336, 2, none⟩ = some (.string a0_2) := (blk_cell BK336.out 2).trans rfl; have hcz15_3 : w14.cell? ⟨gb336, 3, none⟩ = some (.slice A0_3 l0_3.length c0_3) := (blk_cell BK336.out 3).trans rfl; have hfz15_0 := blk_frozen BK336.out 0; have hfz15_1 := blk_frozen BK336.out 1; have hfz15_2 := blk_frozen BK336.out 2; have hfz15_3 := blk_frozen BK336.out 3) | ((with_reducible refine gate_callee (f := 14) rfl ?_); refine goesL_ (some 21) rfl rfl Tryz.func14 (by kernel_rfl) rfl #[.slice A0_3 l0_3.length c0_3] rfl (by (try simp only [List.map_toArray, List.map_cons, List.map_nil]); first | done | rfl | (simp only [List.length_drop, List.length_take]; rfl)) ?_; (with_reducible refine (glacisref05_Tail.calls k _ _ l0_3 t339 t340 _ (tab_ hT_ ?hTab) ?side1 ?side2 A3.out).mono ?_); (case hTab => exact (by repeat (first | (with_reducible first | exact HB.out | apply below_alloc | apply pw_below_drewN | apply below_drew1 | refine below_set ?_ GE336.out) | exact HB.out))); (case side1 => repeat (first | exact (Kd.C_below HR0_3.out HB.out) | (with_reducible refine Kd.C_alloc ?_ _) | (with_reducible refine Kd.C_drewN ?_ _) | (with_reducible refine Kd.C_drew ?_))); (case side2 => exact HC0_3.out); rintro e w16 ⟨rfl, hb⟩; refine ⟨_, rfl, ?_⟩; have n0_ := Aside0.mk (blk_below (g := gb336) (o := .cells #[.int .i64 a0_0, .int .i64 a0_1, .string a0_2, .slice A0_3 l0_3.length c0_3] 25 (0, 0)) (by (with_reducible repeat (first | refine blk_drewN ?_ _ | refine blk_drew ?_ | refine blk_alloc ?_ _)); exact BK336.out) hb); have n1_ := Aside0.mk (below_step (by repeat (first | (with_reducible first | exact HB.out | apply below_alloc | apply pw_below_drewN | apply below_drew1 | refine below_set ?_ GE336.out) | exact HB.out)) hb); clear BK336; clear HB; have BK336 := n0_; have HB := n1_; clear n0_ n1_; (try clear hb); (try clear hb2); (try clear hk); (try clear hi)))
      go_ret2
      exact ⟨by first | rfl | (simp [errW_none, errW_some] <;> rfl) | (simp [*, errW_none, errW_some] <;> rfl) | (simp [q_ne_nil]; done), by repeat (first | (with_reducible first | exact HB.out | apply below_alloc | apply pw_below_drewN | apply below_drew1 | refine below_set ?_ GE336.out) | exact HB.out)⟩
  · replace c4 := Bool.eq_false_iff.mpr c4
    subst c4
    have H1 : (some ((⟨#[]⟩ : ByteArray), 50)) = some (r1, r2) := by rw [if_neg (show ¬ (false = true) by decide)] at H; exact H
    clear H
    have H := H1
    clear H1
    simp only [Option.some.injEq, Prod.mk.injEq] at H
    obtain ⟨rfl, rfl⟩ := H
    go_enter Tryz.func12, Tryz.ntmps12
    go_wp2_with (first | ((with_reducible refine gate_dst (N := 1) rfl ?_); refine box_event ?hg (N := 1) ?hd (cs := #[.int .i64 a0_0, .int .i64 a0_1, .string a0_2, .slice A0_3 l0_3.length c0_3]) (t := 25) ?hr ?_; (case hd => rfl); (case hg => rfl); (case hr => first | (go_simp; done) | (go_simp; rfl)); intro gb336 hg w17 hbox hb; have n0_ := Aside0.mk (below_step (by repeat (first | (with_reducible first | exact HB.out | apply below_alloc | apply pw_below_drewN | apply below_drew1) | exact HB.out)) hb); have n1_ := Aside0.mk (hbox); have n2_ := Aside0.mk ((by rw [hg]; exact (below_size (by repeat (first | (with_reducible first | exact HB.out | apply below_alloc | apply pw_below_drewN | apply below_drew1) | exact HB.out))) : w.heap.size ≤ gb336)); have n3_ := Aside0.mk ((by rw [hg]; exact (below_size (by repeat (first | (with_reducible first | exact HB.out | apply below_alloc | apply pw_below_drewN | apply below_drew1) | exact HB.out))) : w.heap.size ≤ gb336)); clear HB; have HB := n0_; have BK336 := n1_; have GW336 := n2_; have GE336 := n3_; clear n0_ n1_ n2_ n3_; clear hb hbox hg; have hcz18_0 : w17.cell? ⟨gb336, 0, none⟩ = some (.int .i64 a0_0) := (blk_cell BK336.out 0).trans rfl; have hcz18_1 : w17.cell? ⟨gb336, 1, none⟩ = some (.int .i64 a0_1) := (blk_cell BK336.out 1).trans rfl; have hcz18_2 : w17.cell? ⟨gb336, 2, none⟩ = some (.string a0_2) := (blk_cell BK336.out 2).trans rfl; have hcz18_3 : w17.cell? ⟨gb336, 3, none⟩ = some (.slice A0_3 l0_3.length c0_3) := (blk_cell BK336.out 3).trans rfl; have hfz18_0 := blk_frozen BK336.out 0; have hfz18_1 := blk_frozen BK336.out 1; have hfz18_2 := blk_frozen BK336.out 2; have hfz18_3 := blk_frozen BK336.out 3) | ((with_reducible refine gate_callee (f := 25) rfl ?_); refine goesL_ (some 15) rfl rfl Tryz.func25 (by kernel_rfl) rfl #[.int .i64 a0_0, .int .i64 a0_1, .string a0_2] rfl (by (try simp only [List.map_toArray, List.map_cons, List.map_nil]); first | done | rfl | (simp only [List.length_drop, List.length_take]; rfl)) ?_; (with_reducible refine (glacisref05_Value.calls k a0_0 a0_1 a0_2 t337 false _ (tab_ hT_ ?hTab) A2.out).mono ?_); (case hTab => exact (by repeat (first | (with_reducible first | exact HB.out | apply below_alloc | apply pw_below_drewN | apply below_drew1 | refine below_set ?_ GE336.out) | exact HB.out))); rintro e w19 ⟨rfl, hb⟩; refine ⟨_, rfl, ?_⟩; have n0_ := Aside0.mk (blk_below (g := gb336) (o := .cells #[.int .i64 a0_0, .int .i64 a0_1, .string a0_2, .slice A0_3 l0_3.length c0_3] 25 (0, 0)) (by (with_reducible repeat (first | refine blk_drewN ?_ _ | refine blk_drew ?_ | refine blk_alloc ?_ _)); exact BK336.out) hb); have n1_ := Aside0.mk (below_step (by repeat (first | (with_reducible first | exact HB.out | apply below_alloc | apply pw_below_drewN | apply below_drew1 | refine below_set ?_ GE336.out) | exact HB.out)) hb); clear BK336; clear HB; have BK336 := n0_; have HB := n1_; clear n0_ n1_; (try clear hb); (try clear hb2); (try clear hk); (try clear hi); have hcz20_0 : w19.cell? ⟨gb336, 0, none⟩ = some (.int .i64 a0_0) := (blk_cell BK336.out 0).trans rfl; have hcz20_1 : w19.cell? ⟨gb336, 1, none⟩ = some (.int .i64 a0_1) := (blk_cell BK336.out 1).trans rfl; have hcz20_2 : w19.cell? ⟨gb336, 2, none⟩ = some (.string a0_2) := (blk_cell BK336.out 2).trans rfl; have hcz20_3 : w19.cell? ⟨gb336, 3, none⟩ = some (.slice A0_3 l0_3.length c0_3) := (blk_cell BK336.out 3).trans rfl; have hfz20_0 := blk_frozen BK336.out 0; have hfz20_1 := blk_frozen BK336.out 1; have hfz20_2 := blk_frozen BK336.out 2; have hfz20_3 := blk_frozen BK336.out 3) | ((with_reducible refine gate_callee (f := 14) rfl ?_); refine goesL_ (some 21) rfl rfl Tryz.func14 (by kernel_rfl) rfl #[.slice A0_3 l0_3.length c0_3] rfl (by (try simp only [List.map_toArray, List.map_cons, List.map_nil]); first | done | rfl | (simp only [List.length_drop, List.length_take]; rfl)) ?_; (with_reducible refine (glacisref05_Tail.calls k _ _ l0_3 t339 t340 _ (tab_ hT_ ?hTab) ?side1 ?side2 A3.out).mono ?_); (case hTab => exact (by repeat (first | (with_reducible first | exact HB.out | apply below_alloc | apply pw_below_drewN | apply below_drew1 | refine below_set ?_ GE336.out) | exact HB.out))); (case side1 => repeat (first | exact (Kd.C_below HR0_3.out HB.out) | (with_reducible refine Kd.C_alloc ?_ _) | (with_reducible refine Kd.C_drewN ?_ _) | (with_reducible refine Kd.C_drew ?_))); (case side2 => exact HC0_3.out); rintro e w21 ⟨rfl, hb⟩; refine ⟨_, rfl, ?_⟩; have n0_ := Aside0.mk (blk_below (g := gb336) (o := .cells #[.int .i64 a0_0, .int .i64 a0_1, .string a0_2, .slice A0_3 l0_3.length c0_3] 25 (0, 0)) (by (with_reducible repeat (first | refine blk_drewN ?_ _ | refine blk_drew ?_ | refine blk_alloc ?_ _)); exact BK336.out) hb); have n1_ := Aside0.mk (below_step (by repeat (first | (with_reducible first | exact HB.out | apply below_alloc | apply pw_below_drewN | apply below_drew1 | refine below_set ?_ GE336.out) | exact HB.out)) hb); clear BK336; clear HB; have BK336 := n0_; have HB := n1_; clear n0_ n1_; (try clear hb); (try clear hb2); (try clear hk); (try clear hi)))
    go_ret2
    exact ⟨by first | rfl | (simp [errW_none, errW_some] <;> rfl) | (simp [*, errW_none, errW_some] <;> rfl) | (simp [q_ne_nil]; done), by repeat (first | (with_reducible first | exact HB.out | apply below_alloc | apply pw_below_drewN | apply below_drew1 | refine below_set ?_ GE336.out) | exact HB.out)⟩
end Go.Proofs.YtbbaokjkmcfceaaGreatDoor.Q
