/- The law SfitemBegins: contracts, words and plain lemmas that its proof reaches, part 4. Its conditions: the row's own. -/
import Derived.Test.YtbbaokjkmcfceaaGreatDoorZb3
namespace Go.Proofs.YtbbaokjkmcfceaaGreatDoor.Q
open Go.RowKit Go.Proofs.YtbbaokjkmcfceaaGreatDoorW.PrintWords Go.Proofs.YtbbaokjkmcfceaaGreatDoorW.PrintLast Go.Proofs.YtbbaokjkmcfceaaGreatDoorW.PrintMore
set_option linter.unusedVariables false
set_option linter.unusedSimpArgs false
def glacisref05_Blank.l0 : Nat → ByteArray → Option (ByteArray)
  | 0, _ => none
  | k + 1, x0 => if (x0.size : Int) > 0 then (if 0 < (x0.size : Int) then (if (bt x0 0) = 32 then (if 1 ≤ (x0.size : Int) then (glacisref05_Blank.l0 k (x0.extract 1 x0.size)) else (none)) else (some x0)) else (none)) else (some x0)
def glacisref05_Blank.f (k : Nat) (a0 : ByteArray) : Option (ByteArray) := glacisref05_Blank.l0 k a0
set_option maxHeartbeats 8000000 in
set_option maxRecDepth 100000 in
theorem glacisref05_Blank.calls (k : Nat) (a0 : ByteArray) (r : ByteArray) (w : World) (h : glacisref05_Blank.f k a0 = some r) :
    Calls Tryz.prog 32 #[.string a0] w fun e w' => e = .returned (.string r) ∧ Drawn0 w w' := by
  have H : (glacisref05_Blank.l0 k a0) = some r := h
  clear h
  have H' := Aside0.mk H
  clear H
  go_enter Tryz.func32, Tryz.ntmps32
  go_wp2
  go_loopg [0] k (fun kq v0 w' => ∃ (x0_1 : ByteArray), v0 = .string x0_1 ∧ Aside0 (glacisref05_Blank.l0 kq x0_1 = some r) ∧ Aside0 (kq ≤ k) ∧ Drawn0 w w')
  case atStart => exact ⟨(a0), (by first | rfl | (simp; done) | (simp [*]; done) | (simp [q_ne_nil]; done)), H', ⟨Nat.le_refl _⟩, by repeat (first | exact Drawn0.refl _ | apply Drawn0.step)⟩
  case round =>
    clear H'
    obtain ⟨x0_1, rfl, HA, HK1, ⟨m1, rfl⟩⟩ := hrel
    cases gk with
    | zero => exact absurd HA.out (by simp [glacisref05_Blank.l0])
    | succ k1 =>
      have H := HA.out
      clear HA
      simp only [glacisref05_Blank.l0] at H
      by_cases c2 : (x0_1.size : Int) > 0
      · rw [if_pos c2] at H
        have c2b0 : decide (0 < (x0_1.size : Int)) = true := decide_eq_true c2
        have c2b1 : decide (0 < x0_1.size) = true := decide_eq_true (by omega)
        clear c2
        by_cases c3 : 0 < (x0_1.size : Int)
        · rw [if_pos c3] at H
          have c3b0 : decide (0 < (x0_1.size : Int)) = true := decide_eq_true c3
          have c3b1 : decide (0 < x0_1.size) = true := decide_eq_true (by omega)
          clear c3
          by_cases c5 : (bt x0_1 0) = 32
          · rw [if_pos c5] at H
            have c5b0 : ((bt x0_1 0) == 32) = true := beq_iff_eq.mpr c5
            have c5b1 : ((bt x0_1 0) != 32) = false := bne_eq_false_iff_eq.mpr c5
            clear c5
            by_cases c6 : 1 ≤ (x0_1.size : Int)
            · rw [if_pos c6] at H
              have c6b0 := eq_true c6
              have c6b1 : decide (1 ≤ (x0_1.size : Int)) = true := decide_eq_true c6
              clear c6
              have H' := Aside0.mk H
              clear H
              have p4 : 0 ≤ (0 : Int) := (by omega)
              have q4 : 0 < x0_1.size := (by have : (0 : Int) < (x0_1.size : Int) := of_decide_eq_true (by first | (with_reducible assumption) | assumption); omega)
              have hx4 : ∀ h : 0 < x0_1.size, ((x0_1[0]'h).toNat : Int) = bt x0_1 0 := bt_at x0_1 0
              clear p4
              have qi4 : (0 < (x0_1.size : Int)) = True := eq_true (of_decide_eq_true (by first | (with_reducible assumption) | assumption))
              replace q4 := eq_true q4
              go_wp2
              go_roundg k1
              case measure => have := HK1.out; omega
              case rel => exact ⟨(x0_1.extract 1 x0_1.size), (by first | rfl | (simp; done) | (simp [*]; done) | (simp [q_ne_nil]; done)), H', ⟨by have := HK1.out; omega⟩, by repeat (first | exact Drawn0.refl _ | apply Drawn0.step)⟩
            · rw [if_neg c6] at H
              exact absurd H (by simp)
          · rw [if_neg c5] at H
            have c5b0 : ((bt x0_1 0) == 32) = false := beq_eq_false_iff_ne.mpr c5
            have c5b1 : ((bt x0_1 0) != 32) = true := bne_iff_ne.mpr c5
            obtain rfl := Option.some.inj H
            have p4 : 0 ≤ (0 : Int) := (by omega)
            have q4 : 0 < x0_1.size := (by have : (0 : Int) < (x0_1.size : Int) := of_decide_eq_true (by first | (with_reducible assumption) | assumption); omega)
            have hx4 : ∀ h : 0 < x0_1.size, ((x0_1[0]'h).toNat : Int) = bt x0_1 0 := bt_at x0_1 0
            clear p4
            have qi4 : (0 < (x0_1.size : Int)) = True := eq_true (of_decide_eq_true (by first | (with_reducible assumption) | assumption))
            replace q4 := eq_true q4
            go_wp2
            go_ret
            exact ⟨by first | rfl | (simp; done) | (simp [*]; done) | (simp [q_ne_nil]; done), by repeat (first | exact Drawn0.refl _ | apply Drawn0.step)⟩
        · rw [if_neg c3] at H
          exact absurd H (by simp)
      · rw [if_neg c2] at H
        have c2b0 : decide (0 < (x0_1.size : Int)) = false := decide_eq_false c2
        have c2b1 : decide (0 < x0_1.size) = false := decide_eq_false (by omega)
        clear c2
        obtain rfl := Option.some.inj H
        go_wp2
        go_ret
        exact ⟨by first | rfl | (simp; done) | (simp [*]; done) | (simp [q_ne_nil]; done), by repeat (first | exact Drawn0.refl _ | apply Drawn0.step)⟩
def glacisref05_With.l0 : Nat → List (S43) → List (S43) → Bool → Int → ByteArray → Int → Int → ByteArray → Option ((List (S43)))
  | 0, _, _, _, _, _, _, _, _ => none
  | k + 1, x0, x5, x6, x7, x185000, x185001, x185002, x185003 => if x7 < (x0.length : Int) then (if 0 ≤ x7 then (if ((rd_T43 x0 x7).f0).toList = x185000.toList then (if x5.length < 2932031007402 then (glacisref05_With.l0 k x0 (x5 ++ [(⟨x185000, x185001, x185002, x185003⟩ : S43)]) true (wrap64 (x7 + 1)) x185000 x185001 x185002 x185003) else (none)) else (if x5.length < 2932031007402 then (glacisref05_With.l0 k x0 (x5 ++ [(⟨(rd_T43 x0 x7).f0, (rd_T43 x0 x7).f1, (rd_T43 x0 x7).f2, (rd_T43 x0 x7).f3⟩ : S43)]) x6 (wrap64 (x7 + 1)) x185000 x185001 x185002 x185003) else (none))) else (none)) else (if x6 = true then (some x5) else (if x5.length < 2932031007402 then (some (x5 ++ [(⟨x185000, x185001, x185002, x185003⟩ : S43)])) else (none)))
def glacisref05_With.f (k : Nat) (l0 : List (S43)) (a1_0 : ByteArray) (a1_1 : Int) (a1_2 : Int) (a1_3 : ByteArray) : Option ((List (S43))) := glacisref05_With.l0 k l0 ([] : List (S43)) false 0 a1_0 a1_1 a1_2 a1_3
set_option maxHeartbeats 8000000 in
set_option maxRecDepth 100000 in
theorem glacisref05_With.calls (k : Nat) (A0 : Option Addr) (c0 : Nat) (l0 : List (S43)) (a1_0 : ByteArray) (a1_1 : Int) (a1_2 : Int) (a1_3 : ByteArray) (r : List (S43)) (w : World) (hr0 : Kd.C k43 w A0 l0.length l0) (hc0 : l0.length ≤ c0) (h : glacisref05_With.f k l0 a1_0 a1_1 a1_2 a1_3 = some r) :
    Calls Tryz.prog 33 #[.slice A0 l0.length c0, .agg #[.string a1_0, .int .i64 a1_1, .int .i64 a1_2, .string a1_3]] w fun e w' => ∃ v0_ : Value, e = .returned (v0_) ∧ Kd.R k43 43 w' w.heap.size (fun _ => True) v0_ r ∧ Below w.heap.size w w' := by
  have hu43 := Tryz.underlying43
  have HR0 := Aside0.mk hr0
  have HC0 := Aside0.mk hc0
  clear hr0 hc0
  have HB := Aside0.mk (Below.refl w.heap.size w)
  have H : (glacisref05_With.l0 k l0 ([] : List (S43)) false 0 a1_0 a1_1 a1_2 a1_3) = some r := h
  clear h
  have H' := Aside0.mk H
  clear H
  go_enter Tryz.func33, Tryz.ntmps33
  go_wp2_with (first | ((with_reducible refine gate_dst (N := 3) rfl ?_); refine box_event ?hg (N := 3) ?hd (cs := #[.string a1_0, .int .i64 a1_1, .int .i64 a1_2, .string a1_3]) (t := 43) ?hr ?_; (case hd => rfl); (case hg => rfl); (case hr => first | (go_simp; done) | (go_simp; rfl)); intro gb184 hg w3 hbox hb; have n0_ := Aside0.mk (below_step (by repeat (first | (with_reducible first | exact HB.out | apply below_alloc | apply pw_below_drewN | apply below_drew1) | exact HB.out)) hb); have n1_ := Aside0.mk (hbox); have n2_ := Aside0.mk ((by rw [hg]; exact (below_size (by repeat (first | (with_reducible first | exact HB.out | apply below_alloc | apply pw_below_drewN | apply below_drew1) | exact HB.out))) : w.heap.size ≤ gb184)); have n3_ := Aside0.mk ((by rw [hg]; exact (below_size (by repeat (first | (with_reducible first | exact HB.out | apply below_alloc | apply pw_below_drewN | apply below_drew1) | exact HB.out))) : w.heap.size ≤ gb184)); clear HB; have HB := n0_; have BK184 := n1_; have GW184 := n2_; have GE184 := n3_; clear n0_ n1_ n2_ n3_; clear hb hbox hg))
  repeat (go_quiet (first | ((with_reducible refine gate_dst (N := 3) rfl ?_); refine box_event ?hg (N := 3) ?hd (cs := #[.string a1_0, .int .i64 a1_1, .int .i64 a1_2, .string a1_3]) (t := 43) ?hr ?_; (case hd => rfl); (case hg => rfl); (case hr => first | (go_simp; done) | (go_simp; rfl)); intro gb184 hg w3 hbox hb; have n0_ := Aside0.mk (below_step (by repeat (first | (with_reducible first | exact HB.out | apply below_alloc | apply pw_below_drewN | apply below_drew1) | exact HB.out)) hb); have n1_ := Aside0.mk (hbox); have n2_ := Aside0.mk ((by rw [hg]; exact (below_size (by repeat (first | (with_reducible first | exact HB.out | apply below_alloc | apply pw_below_drewN | apply below_drew1) | exact HB.out))) : w.heap.size ≤ gb184)); have n3_ := Aside0.mk ((by rw [hg]; exact (below_size (by repeat (first | (with_reducible first | exact HB.out | apply below_alloc | apply pw_below_drewN | apply below_drew1) | exact HB.out))) : w.heap.size ≤ gb184)); clear HB; have HB := n0_; have BK184 := n1_; have GW184 := n2_; have GE184 := n3_; clear n0_ n1_ n2_ n3_; clear hb hbox hg)); try go_wp2_with (first | ((with_reducible refine gate_dst (N := 3) rfl ?_); refine box_event ?hg (N := 3) ?hd (cs := #[.string a1_0, .int .i64 a1_1, .int .i64 a1_2, .string a1_3]) (t := 43) ?hr ?_; (case hd => rfl); (case hg => rfl); (case hr => first | (go_simp; done) | (go_simp; rfl)); intro gb184 hg w3 hbox hb; have n0_ := Aside0.mk (below_step (by repeat (first | (with_reducible first | exact HB.out | apply below_alloc | apply pw_below_drewN | apply below_drew1) | exact HB.out)) hb); have n1_ := Aside0.mk (hbox); have n2_ := Aside0.mk ((by rw [hg]; exact (below_size (by repeat (first | (with_reducible first | exact HB.out | apply below_alloc | apply pw_below_drewN | apply below_drew1) | exact HB.out))) : w.heap.size ≤ gb184)); have n3_ := Aside0.mk ((by rw [hg]; exact (below_size (by repeat (first | (with_reducible first | exact HB.out | apply below_alloc | apply pw_below_drewN | apply below_drew1) | exact HB.out))) : w.heap.size ≤ gb184)); clear HB; have HB := n0_; have BK184 := n1_; have GW184 := n2_; have GE184 := n3_; clear n0_ n1_ n2_ n3_; clear hb hbox hg)))
  go_loopg [5, 6, 7] k (fun kq v5 v6 v7 w' => ∃ (x5_1 : List (S43)) (x6_1 : Bool) (x7_1 : Int), v6 = .bool x6_1 ∧ v7 = .int .i64 x7_1 ∧ Aside0 (glacisref05_With.l0 kq l0 x5_1 x6_1 x7_1 a1_0 a1_1 a1_2 a1_3 = some r) ∧ Aside0 (kq ≤ k) ∧ Aside0 (Kd.R k43 43 w' w.heap.size (fun k_ => k_ ≠ gb184) v5 x5_1) ∧ Aside0 (w'.heap[gb184]? = some (.cells #[.string a1_0, .int .i64 a1_1, .int .i64 a1_2, .string a1_3] 43 (0, 0))) ∧ Aside0 (Below w.heap.size w w'))
  case atStart => exact ⟨(([] : List (S43))), (false), (0), (by first | rfl | (simp; done) | (simp [*]; done) | (simp [q_ne_nil]; done)), (by first | rfl | (simp; done) | (simp [*]; done) | (simp [q_ne_nil]; done)), H', ⟨Nat.le_refl _⟩, ⟨by first | exact Kd.R_nil _ _ _ _ _ | exact Kd.N_nil _ _ _ _ _ | exact Kd.V_nil _ _ _ _ _ | exact Kd.Q_nil _ _ _ _ _ | exact Kd.S_nil _ _ _ _ _⟩, ⟨by (with_reducible repeat (first | refine blk_drewN ?_ _ | refine blk_drew ?_ | refine blk_alloc ?_ _)); exact BK184.out⟩, ⟨by repeat (first | (with_reducible first | exact HB.out | apply below_alloc | apply pw_below_drewN | apply below_drew1 | refine below_set ?_ GE184.out) | exact HB.out)⟩⟩
  case round =>
    clear H'
    try clear p2
    try clear c3
    obtain ⟨x5_1, x6_1, x7_1, rfl, rfl, HA, HK1, HO_5, BK184, HB⟩ := hrel
    cases gk with
    | zero => exact absurd HA.out (by simp [glacisref05_With.l0])
    | succ k1 =>
      have H := HA.out
      clear HA
      simp only [glacisref05_With.l0] at H
      by_cases c4 : x7_1 < (l0.length : Int)
      · rw [if_pos c4] at H
        have c4b0 : decide (x7_1 < (l0.length : Int)) = true := decide_eq_true c4
        clear c4
        by_cases c5 : 0 ≤ x7_1
        · rw [if_pos c5] at H
          have c5b0 : decide (0 ≤ x7_1) = true := decide_eq_true c5
          clear c5
          by_cases c6 : ((rd_T43 l0 x7_1).f0).toList = a1_0.toList
          · rw [if_pos c6] at H
            have c6b0 : (((rd_T43 l0 x7_1).f0).toList == a1_0.toList) = true := beq_iff_eq.mpr c6
            have c6b1 : (((rd_T43 l0 x7_1).f0).toList != a1_0.toList) = false := bne_eq_false_iff_eq.mpr c6
            clear c6
            by_cases c7 : x5_1.length < 2932031007402
            · rw [if_pos c7] at H
              have LMc7 := Aside0.mk c7
              clear c7
              obtain ⟨y186, hy186⟩ : ∃ y_ : List (S43), y_ = (x5_1 ++ [(⟨a1_0, a1_1, a1_2, a1_3⟩ : S43)]) := ⟨_, rfl⟩
              replace H : (glacisref05_With.l0 k1 l0 y186 true (wrap64 (x7_1 + 1)) a1_0 a1_1 a1_2 a1_3) = some r := by first | (rw [hy186]; with_reducible exact H) | (have H2_ := (Option.bind_some _ _).symm.trans H; rw [hy186]; with_reducible exact H2_) | (have H2_ := (Option.bind_some _ _).symm.trans H; with_reducible exact H2_) | with_reducible exact H | (rw [hy186]; exact H) | exact H
              have Ny186 := Aside0.mk hy186
              clear hy186
              have H' := Aside0.mk H
              clear H
              have p185 : 0 ≤ (x7_1 : Int) := of_decide_eq_true (by first | (with_reducible assumption) | assumption)
              have q185 : x7_1 < (l0.length : Int) := of_decide_eq_true (by first | (with_reducible assumption) | assumption)
              obtain ⟨ad185, e185, hx185_0, hx185_1, hx185_2, hx185_3⟩ := at_T43 HR0.out x7_1 p185 q185
              cases e185
              replace hx185_0 := (HB.out.cell (World.block_lt_of_cell? w _ hx185_0)).trans hx185_0
              replace hx185_1 := (HB.out.cell (World.block_lt_of_cell? w _ hx185_1)).trans hx185_1
              replace hx185_2 := (HB.out.cell (World.block_lt_of_cell? w _ hx185_2)).trans hx185_2
              replace hx185_3 := (HB.out.cell (World.block_lt_of_cell? w _ hx185_3)).trans hx185_3
              replace p185 := eq_true p185
              replace q185 := eq_true q185
              have hcz8_0 : wr.cell? ⟨gb184, 0, none⟩ = some (.string a1_0) := (blk_cell BK184.out 0).trans rfl
              have hcz8_1 : wr.cell? ⟨gb184, 1, none⟩ = some (.int .i64 a1_1) := (blk_cell BK184.out 1).trans rfl
              have hcz8_2 : wr.cell? ⟨gb184, 2, none⟩ = some (.int .i64 a1_2) := (blk_cell BK184.out 2).trans rfl
              have hcz8_3 : wr.cell? ⟨gb184, 3, none⟩ = some (.string a1_3) := (blk_cell BK184.out 3).trans rfl
              have hfz8_0 := blk_frozen BK184.out 0
              have hfz8_1 := blk_frozen BK184.out 1
              have hfz8_2 := blk_frozen BK184.out 2
              have hfz8_3 := blk_frozen BK184.out 3
              go_wp2_with (first | ((with_reducible refine gate_builtin (b := .append) (xs := #[.tmp 22, .tmp 24]) rfl ?_); at_builtin; refine Kd.R_append k43 (w0 := w) w.heap.size rfl (.tmp 22) (.tmp 24) 23 43 (.agg #[(.string ⟨#[]⟩), (.int .i64 0), (.int .i64 0), (.string ⟨#[]⟩)]) 48 rfl Tryz.underlying23 info43 rfl (by decide) (by omega) u5 x5_1 (⟨a1_0, a1_1, a1_2, a1_3⟩ : S43) [.string a1_0, .int .i64 a1_1, .int .i64 a1_2, .string a1_3] (fun k_ => k_ ≠ gb184) (fun _ => False) rfl rfl ?aP (fun _ hk => hk.elim) ?aF ?aO ?aB ?aS ?aL ?_; (case aP => exact k43_mkM _ _ _ (⟨a1_0, a1_1, a1_2, a1_3⟩ : S43)); (case aB => exact (by repeat (first | (with_reducible first | exact HB.out | apply below_alloc | apply pw_below_drewN | apply below_drew1 | refine below_set ?_ GE184.out) | exact HB.out))); (case aF => exact (fun k_ hk => Kd.freshB (g := gb184) (o := .cells #[.string a1_0, .int .i64 a1_1, .int .i64 a1_2, .string a1_3] 43 (0, 0)) (by (with_reducible repeat (first | refine blk_drewN ?_ _ | refine blk_drew ?_ | refine blk_alloc ?_ _)); exact BK184.out) k_ hk)); (case aO => exact (by (with_reducible repeat (first | apply Kd.R_alloc | apply Kd.R_drewN | apply Kd.R_drew)); exact HO_5.out)); (case aS => exact (below_size (by repeat (first | (with_reducible first | exact HB.out | apply below_alloc | apply pw_below_drewN | apply below_drew1 | refine below_set ?_ GE184.out) | exact HB.out)))); (case aL => have := LMc7.out; omega); intro v187 w9 ho hb hg hat; rw [← Ny186.out] at ho; have n0_ := Aside0.mk (blk_grown (g := gb184) (o := .cells #[.string a1_0, .int .i64 a1_1, .int .i64 a1_2, .string a1_3] 43 (0, 0)) (by (with_reducible repeat (first | refine blk_drewN ?_ _ | refine blk_drew ?_ | refine blk_alloc ?_ _)); exact BK184.out) hg (Kd.R_away HO_5.out (fun _ hk => hk))); have n1_ := Aside0.mk (hb); have n2_ := Aside0.mk (ho); clear BK184; clear HB; clear HO_5; have BK184 := n0_; have HB := n1_; have HO188 := n2_; clear n0_ n1_ n2_; clear ho hb hg hat))
              repeat (go_quiet (first | ((with_reducible refine gate_builtin (b := .append) (xs := #[.tmp 22, .tmp 24]) rfl ?_); at_builtin; refine Kd.R_append k43 (w0 := w) w.heap.size rfl (.tmp 22) (.tmp 24) 23 43 (.agg #[(.string ⟨#[]⟩), (.int .i64 0), (.int .i64 0), (.string ⟨#[]⟩)]) 48 rfl Tryz.underlying23 info43 rfl (by decide) (by omega) u5 x5_1 (⟨a1_0, a1_1, a1_2, a1_3⟩ : S43) [.string a1_0, .int .i64 a1_1, .int .i64 a1_2, .string a1_3] (fun k_ => k_ ≠ gb184) (fun _ => False) rfl rfl ?aP (fun _ hk => hk.elim) ?aF ?aO ?aB ?aS ?aL ?_; (case aP => exact k43_mkM _ _ _ (⟨a1_0, a1_1, a1_2, a1_3⟩ : S43)); (case aB => exact (by repeat (first | (with_reducible first | exact HB.out | apply below_alloc | apply pw_below_drewN | apply below_drew1 | refine below_set ?_ GE184.out) | exact HB.out))); (case aF => exact (fun k_ hk => Kd.freshB (g := gb184) (o := .cells #[.string a1_0, .int .i64 a1_1, .int .i64 a1_2, .string a1_3] 43 (0, 0)) (by (with_reducible repeat (first | refine blk_drewN ?_ _ | refine blk_drew ?_ | refine blk_alloc ?_ _)); exact BK184.out) k_ hk)); (case aO => exact (by (with_reducible repeat (first | apply Kd.R_alloc | apply Kd.R_drewN | apply Kd.R_drew)); exact HO_5.out)); (case aS => exact (below_size (by repeat (first | (with_reducible first | exact HB.out | apply below_alloc | apply pw_below_drewN | apply below_drew1 | refine below_set ?_ GE184.out) | exact HB.out)))); (case aL => have := LMc7.out; omega); intro v187 w9 ho hb hg hat; rw [← Ny186.out] at ho; have n0_ := Aside0.mk (blk_grown (g := gb184) (o := .cells #[.string a1_0, .int .i64 a1_1, .int .i64 a1_2, .string a1_3] 43 (0, 0)) (by (with_reducible repeat (first | refine blk_drewN ?_ _ | refine blk_drew ?_ | refine blk_alloc ?_ _)); exact BK184.out) hg (Kd.R_away HO_5.out (fun _ hk => hk))); have n1_ := Aside0.mk (hb); have n2_ := Aside0.mk (ho); clear BK184; clear HB; clear HO_5; have BK184 := n0_; have HB := n1_; have HO188 := n2_; clear n0_ n1_ n2_; clear ho hb hg hat)); try go_wp2_with (first | ((with_reducible refine gate_builtin (b := .append) (xs := #[.tmp 22, .tmp 24]) rfl ?_); at_builtin; refine Kd.R_append k43 (w0 := w) w.heap.size rfl (.tmp 22) (.tmp 24) 23 43 (.agg #[(.string ⟨#[]⟩), (.int .i64 0), (.int .i64 0), (.string ⟨#[]⟩)]) 48 rfl Tryz.underlying23 info43 rfl (by decide) (by omega) u5 x5_1 (⟨a1_0, a1_1, a1_2, a1_3⟩ : S43) [.string a1_0, .int .i64 a1_1, .int .i64 a1_2, .string a1_3] (fun k_ => k_ ≠ gb184) (fun _ => False) rfl rfl ?aP (fun _ hk => hk.elim) ?aF ?aO ?aB ?aS ?aL ?_; (case aP => exact k43_mkM _ _ _ (⟨a1_0, a1_1, a1_2, a1_3⟩ : S43)); (case aB => exact (by repeat (first | (with_reducible first | exact HB.out | apply below_alloc | apply pw_below_drewN | apply below_drew1 | refine below_set ?_ GE184.out) | exact HB.out))); (case aF => exact (fun k_ hk => Kd.freshB (g := gb184) (o := .cells #[.string a1_0, .int .i64 a1_1, .int .i64 a1_2, .string a1_3] 43 (0, 0)) (by (with_reducible repeat (first | refine blk_drewN ?_ _ | refine blk_drew ?_ | refine blk_alloc ?_ _)); exact BK184.out) k_ hk)); (case aO => exact (by (with_reducible repeat (first | apply Kd.R_alloc | apply Kd.R_drewN | apply Kd.R_drew)); exact HO_5.out)); (case aS => exact (below_size (by repeat (first | (with_reducible first | exact HB.out | apply below_alloc | apply pw_below_drewN | apply below_drew1 | refine below_set ?_ GE184.out) | exact HB.out)))); (case aL => have := LMc7.out; omega); intro v187 w9 ho hb hg hat; rw [← Ny186.out] at ho; have n0_ := Aside0.mk (blk_grown (g := gb184) (o := .cells #[.string a1_0, .int .i64 a1_1, .int .i64 a1_2, .string a1_3] 43 (0, 0)) (by (with_reducible repeat (first | refine blk_drewN ?_ _ | refine blk_drew ?_ | refine blk_alloc ?_ _)); exact BK184.out) hg (Kd.R_away HO_5.out (fun _ hk => hk))); have n1_ := Aside0.mk (hb); have n2_ := Aside0.mk (ho); clear BK184; clear HB; clear HO_5; have BK184 := n0_; have HB := n1_; have HO188 := n2_; clear n0_ n1_ n2_; clear ho hb hg hat)))
              go_roundg k1
              case measure => have := HK1.out; omega
              case rel => exact ⟨(y186), (true), (wrap64 (x7_1 + 1)), (by first | rfl | (simp; done) | (simp [*]; done) | (simp [q_ne_nil]; done)), (by first | rfl | (simp; done) | (simp [*]; done) | (simp [q_ne_nil]; done)), H', ⟨by have := HK1.out; omega⟩, ⟨by (with_reducible repeat (first | apply Kd.R_alloc | apply Kd.R_drewN | apply Kd.R_drew)); exact HO188.out⟩, ⟨by (with_reducible repeat (first | refine blk_drewN ?_ _ | refine blk_drew ?_ | refine blk_alloc ?_ _)); exact BK184.out⟩, ⟨by repeat (first | (with_reducible first | exact HB.out | apply below_alloc | apply pw_below_drewN | apply below_drew1 | refine below_set ?_ GE184.out) | exact HB.out)⟩⟩
            · rw [if_neg c7] at H
              exact absurd H (by simp)
          · rw [if_neg c6] at H
            have c6b0 : (((rd_T43 l0 x7_1).f0).toList == a1_0.toList) = false := beq_eq_false_iff_ne.mpr c6
            have c6b1 : (((rd_T43 l0 x7_1).f0).toList != a1_0.toList) = true := bne_iff_ne.mpr c6
            by_cases c10 : x5_1.length < 2932031007402
            · rw [if_pos c10] at H
              have LMc10 := Aside0.mk c10
              clear c10
              obtain ⟨y190, hy190⟩ : ∃ y_ : List (S43), y_ = (x5_1 ++ [(⟨(rd_T43 l0 x7_1).f0, (rd_T43 l0 x7_1).f1, (rd_T43 l0 x7_1).f2, (rd_T43 l0 x7_1).f3⟩ : S43)]) := ⟨_, rfl⟩
              replace H : (glacisref05_With.l0 k1 l0 y190 x6_1 (wrap64 (x7_1 + 1)) a1_0 a1_1 a1_2 a1_3) = some r := by first | (rw [hy190]; with_reducible exact H) | (have H2_ := (Option.bind_some _ _).symm.trans H; rw [hy190]; with_reducible exact H2_) | (have H2_ := (Option.bind_some _ _).symm.trans H; with_reducible exact H2_) | with_reducible exact H | (rw [hy190]; exact H) | exact H
              have Ny190 := Aside0.mk hy190
              clear hy190
              have H' := Aside0.mk H
              clear H
              have p185 : 0 ≤ (x7_1 : Int) := of_decide_eq_true (by first | (with_reducible assumption) | assumption)
              have q185 : x7_1 < (l0.length : Int) := of_decide_eq_true (by first | (with_reducible assumption) | assumption)
              obtain ⟨ad185, e185, hx185_0, hx185_1, hx185_2, hx185_3⟩ := at_T43 HR0.out x7_1 p185 q185
              cases e185
              replace hx185_0 := (HB.out.cell (World.block_lt_of_cell? w _ hx185_0)).trans hx185_0
              replace hx185_1 := (HB.out.cell (World.block_lt_of_cell? w _ hx185_1)).trans hx185_1
              replace hx185_2 := (HB.out.cell (World.block_lt_of_cell? w _ hx185_2)).trans hx185_2
              replace hx185_3 := (HB.out.cell (World.block_lt_of_cell? w _ hx185_3)).trans hx185_3
              replace p185 := eq_true p185
              replace q185 := eq_true q185
              have hcz11_0 : wr.cell? ⟨gb184, 0, none⟩ = some (.string a1_0) := (blk_cell BK184.out 0).trans rfl
              have hcz11_1 : wr.cell? ⟨gb184, 1, none⟩ = some (.int .i64 a1_1) := (blk_cell BK184.out 1).trans rfl
              have hcz11_2 : wr.cell? ⟨gb184, 2, none⟩ = some (.int .i64 a1_2) := (blk_cell BK184.out 2).trans rfl
              have hcz11_3 : wr.cell? ⟨gb184, 3, none⟩ = some (.string a1_3) := (blk_cell BK184.out 3).trans rfl
              have hfz11_0 := blk_frozen BK184.out 0
              have hfz11_1 := blk_frozen BK184.out 1
              have hfz11_2 := blk_frozen BK184.out 2
              have hfz11_3 := blk_frozen BK184.out 3
              have p189 : 0 ≤ (x7_1 : Int) := of_decide_eq_true (by first | (with_reducible assumption) | assumption)
              have q189 : x7_1 < (l0.length : Int) := of_decide_eq_true (by first | (with_reducible assumption) | assumption)
              obtain ⟨ad189, e189, hx189_0, hx189_1, hx189_2, hx189_3⟩ := at_T43 HR0.out x7_1 p189 q189
              obtain rfl : ad185 = ad189 := (by injection e189)
              replace hx189_0 := (HB.out.cell (World.block_lt_of_cell? w _ hx189_0)).trans hx189_0
              replace hx189_1 := (HB.out.cell (World.block_lt_of_cell? w _ hx189_1)).trans hx189_1
              replace hx189_2 := (HB.out.cell (World.block_lt_of_cell? w _ hx189_2)).trans hx189_2
              replace hx189_3 := (HB.out.cell (World.block_lt_of_cell? w _ hx189_3)).trans hx189_3
              replace p189 := eq_true p189
              replace q189 := eq_true q189
              go_wp2_with (first | ((with_reducible refine gate_builtin (b := .append) (xs := #[.tmp 26, .tmp 31]) rfl ?_); at_builtin; refine Kd.R_append k43 (w0 := w) w.heap.size rfl (.tmp 26) (.tmp 31) 23 43 (.agg #[(.string ⟨#[]⟩), (.int .i64 0), (.int .i64 0), (.string ⟨#[]⟩)]) 48 rfl Tryz.underlying23 info43 rfl (by decide) (by omega) u5 x5_1 (⟨(rd_T43 l0 x7_1).f0, (rd_T43 l0 x7_1).f1, (rd_T43 l0 x7_1).f2, (rd_T43 l0 x7_1).f3⟩ : S43) [.string ((rd_T43 l0 x7_1).f0), .int .i64 ((rd_T43 l0 x7_1).f1), .int .i64 ((rd_T43 l0 x7_1).f2), .string ((rd_T43 l0 x7_1).f3)] (fun k_ => k_ ≠ gb184) (fun _ => False) rfl rfl ?aP (fun _ hk => hk.elim) ?aF ?aO ?aB ?aS ?aL ?_; (case aP => exact k43_mkM _ _ _ (⟨(rd_T43 l0 x7_1).f0, (rd_T43 l0 x7_1).f1, (rd_T43 l0 x7_1).f2, (rd_T43 l0 x7_1).f3⟩ : S43)); (case aB => exact (by repeat (first | (with_reducible first | exact HB.out | apply below_alloc | apply pw_below_drewN | apply below_drew1 | refine below_set ?_ GE184.out) | exact HB.out))); (case aF => exact (fun k_ hk => Kd.freshB (g := gb184) (o := .cells #[.string a1_0, .int .i64 a1_1, .int .i64 a1_2, .string a1_3] 43 (0, 0)) (by (with_reducible repeat (first | refine blk_drewN ?_ _ | refine blk_drew ?_ | refine blk_alloc ?_ _)); exact BK184.out) k_ hk)); (case aO => exact (by (with_reducible repeat (first | apply Kd.R_alloc | apply Kd.R_drewN | apply Kd.R_drew)); exact HO_5.out)); (case aS => exact (below_size (by repeat (first | (with_reducible first | exact HB.out | apply below_alloc | apply pw_below_drewN | apply below_drew1 | refine below_set ?_ GE184.out) | exact HB.out)))); (case aL => have := LMc10.out; omega); intro v191 w12 ho hb hg hat; rw [← Ny190.out] at ho; have n0_ := Aside0.mk (blk_grown (g := gb184) (o := .cells #[.string a1_0, .int .i64 a1_1, .int .i64 a1_2, .string a1_3] 43 (0, 0)) (by (with_reducible repeat (first | refine blk_drewN ?_ _ | refine blk_drew ?_ | refine blk_alloc ?_ _)); exact BK184.out) hg (Kd.R_away HO_5.out (fun _ hk => hk))); have n1_ := Aside0.mk (hb); have n2_ := Aside0.mk (ho); clear BK184; clear HB; clear HO_5; have BK184 := n0_; have HB := n1_; have HO192 := n2_; clear n0_ n1_ n2_; clear ho hb hg hat))
              repeat (go_quiet (first | ((with_reducible refine gate_builtin (b := .append) (xs := #[.tmp 26, .tmp 31]) rfl ?_); at_builtin; refine Kd.R_append k43 (w0 := w) w.heap.size rfl (.tmp 26) (.tmp 31) 23 43 (.agg #[(.string ⟨#[]⟩), (.int .i64 0), (.int .i64 0), (.string ⟨#[]⟩)]) 48 rfl Tryz.underlying23 info43 rfl (by decide) (by omega) u5 x5_1 (⟨(rd_T43 l0 x7_1).f0, (rd_T43 l0 x7_1).f1, (rd_T43 l0 x7_1).f2, (rd_T43 l0 x7_1).f3⟩ : S43) [.string ((rd_T43 l0 x7_1).f0), .int .i64 ((rd_T43 l0 x7_1).f1), .int .i64 ((rd_T43 l0 x7_1).f2), .string ((rd_T43 l0 x7_1).f3)] (fun k_ => k_ ≠ gb184) (fun _ => False) rfl rfl ?aP (fun _ hk => hk.elim) ?aF ?aO ?aB ?aS ?aL ?_; (case aP => exact k43_mkM _ _ _ (⟨(rd_T43 l0 x7_1).f0, (rd_T43 l0 x7_1).f1, (rd_T43 l0 x7_1).f2, (rd_T43 l0 x7_1).f3⟩ : S43)); (case aB => exact (by repeat (first | (with_reducible first | exact HB.out | apply below_alloc | apply pw_below_drewN | apply below_drew1 | refine below_set ?_ GE184.out) | exact HB.out))); (case aF => exact (fun k_ hk => Kd.freshB (g := gb184) (o := .cells #[.string a1_0, .int .i64 a1_1, .int .i64 a1_2, .string a1_3] 43 (0, 0)) (by (with_reducible repeat (first | refine blk_drewN ?_ _ | refine blk_drew ?_ | refine blk_alloc ?_ _)); exact BK184.out) k_ hk)); (case aO => exact (by (with_reducible repeat (first | apply Kd.R_alloc | apply Kd.R_drewN | apply Kd.R_drew)); exact HO_5.out)); (case aS => exact (below_size (by repeat (first | (with_reducible first | exact HB.out | apply below_alloc | apply pw_below_drewN | apply below_drew1 | refine below_set ?_ GE184.out) | exact HB.out)))); (case aL => have := LMc10.out; omega); intro v191 w12 ho hb hg hat; rw [← Ny190.out] at ho; have n0_ := Aside0.mk (blk_grown (g := gb184) (o := .cells #[.string a1_0, .int .i64 a1_1, .int .i64 a1_2, .string a1_3] 43 (0, 0)) (by (with_reducible repeat (first | refine blk_drewN ?_ _ | refine blk_drew ?_ | refine blk_alloc ?_ _)); exact BK184.out) hg (Kd.R_away HO_5.out (fun _ hk => hk))); have n1_ := Aside0.mk (hb); have n2_ := Aside0.mk (ho); clear BK184; clear HB; clear HO_5; have BK184 := n0_; have HB := n1_; have HO192 := n2_; clear n0_ n1_ n2_; clear ho hb hg hat)); try go_wp2_with (first | ((with_reducible refine gate_builtin (b := .append) (xs := #[.tmp 26, .tmp 31]) rfl ?_); at_builtin; refine Kd.R_append k43 (w0 := w) w.heap.size rfl (.tmp 26) (.tmp 31) 23 43 (.agg #[(.string ⟨#[]⟩), (.int .i64 0), (.int .i64 0), (.string ⟨#[]⟩)]) 48 rfl Tryz.underlying23 info43 rfl (by decide) (by omega) u5 x5_1 (⟨(rd_T43 l0 x7_1).f0, (rd_T43 l0 x7_1).f1, (rd_T43 l0 x7_1).f2, (rd_T43 l0 x7_1).f3⟩ : S43) [.string ((rd_T43 l0 x7_1).f0), .int .i64 ((rd_T43 l0 x7_1).f1), .int .i64 ((rd_T43 l0 x7_1).f2), .string ((rd_T43 l0 x7_1).f3)] (fun k_ => k_ ≠ gb184) (fun _ => False) rfl rfl ?aP (fun _ hk => hk.elim) ?aF ?aO ?aB ?aS ?aL ?_; (case aP => exact k43_mkM _ _ _ (⟨(rd_T43 l0 x7_1).f0, (rd_T43 l0 x7_1).f1, (rd_T43 l0 x7_1).f2, (rd_T43 l0 x7_1).f3⟩ : S43)); (case aB => exact (by repeat (first | (with_reducible first | exact HB.out | apply below_alloc | apply pw_below_drewN | apply below_drew1 | refine below_set ?_ GE184.out) | exact HB.out))); (case aF => exact (fun k_ hk => Kd.freshB (g := gb184) (o := .cells #[.string a1_0, .int .i64 a1_1, .int .i64 a1_2, .string a1_3] 43 (0, 0)) (by (with_reducible repeat (first | refine blk_drewN ?_ _ | refine blk_drew ?_ | refine blk_alloc ?_ _)); exact BK184.out) k_ hk)); (case aO => exact (by (with_reducible repeat (first | apply Kd.R_alloc | apply Kd.R_drewN | apply Kd.R_drew)); exact HO_5.out)); (case aS => exact (below_size (by repeat (first | (with_reducible first | exact HB.out | apply below_alloc | apply pw_below_drewN | apply below_drew1 | refine below_set ?_ GE184.out) | exact HB.out)))); (case aL => have := LMc10.out; omega); intro v191 w12 ho hb hg hat; rw [← Ny190.out] at ho; have n0_ := Aside0.mk (blk_grown (g := gb184) (o := .cells #[.string a1_0, .int .i64 a1_1, .int .i64 a1_2, .string a1_3] 43 (0, 0)) (by (with_reducible repeat (first | refine blk_drewN ?_ _ | refine blk_drew ?_ | refine blk_alloc ?_ _)); exact BK184.out) hg (Kd.R_away HO_5.out (fun _ hk => hk))); have n1_ := Aside0.mk (hb); have n2_ := Aside0.mk (ho); clear BK184; clear HB; clear HO_5; have BK184 := n0_; have HB := n1_; have HO192 := n2_; clear n0_ n1_ n2_; clear ho hb hg hat)))
              go_roundg k1
              case measure => have := HK1.out; omega
              case rel => exact ⟨(y190), (x6_1), (wrap64 (x7_1 + 1)), (by first | rfl | (simp; done) | (simp [*]; done) | (simp [q_ne_nil]; done)), (by first | rfl | (simp; done) | (simp [*]; done) | (simp [q_ne_nil]; done)), H', ⟨by have := HK1.out; omega⟩, ⟨by (with_reducible repeat (first | apply Kd.R_alloc | apply Kd.R_drewN | apply Kd.R_drew)); exact HO192.out⟩, ⟨by (with_reducible repeat (first | refine blk_drewN ?_ _ | refine blk_drew ?_ | refine blk_alloc ?_ _)); exact BK184.out⟩, ⟨by repeat (first | (with_reducible first | exact HB.out | apply below_alloc | apply pw_below_drewN | apply below_drew1 | refine below_set ?_ GE184.out) | exact HB.out)⟩⟩
            · rw [if_neg c10] at H
              exact absurd H (by simp)
        · rw [if_neg c5] at H
          exact absurd H (by simp)
      · rw [if_neg c4] at H
        have c4b0 : decide (x7_1 < (l0.length : Int)) = false := decide_eq_false c4
        clear c4
        by_cases c13 : x6_1 = true
        · subst c13
          have H1 : (some x5_1) = some r := by rw [if_pos rfl] at H; exact H
          clear H
          have H := H1
          clear H1
          obtain rfl := Option.some.inj H
          go_wp2
          repeat (go_quiet (fail); try go_wp2)
          go_ret
          exact ⟨_, by first | rfl | (simp [errW_none, errW_some] <;> rfl) | (simp [*, errW_none, errW_some] <;> rfl) | (simp [q_ne_nil]; done), by (with_reducible repeat (first | apply Kd.R_alloc | apply Kd.R_drewN | apply Kd.R_drew)); exact Kd.R_mono HO_5.out (fun _ hk => trivial), by repeat (first | (with_reducible first | exact HB.out | apply below_alloc | apply pw_below_drewN | apply below_drew1 | refine below_set ?_ GE184.out) | exact HB.out)⟩
        · replace c13 := Bool.eq_false_iff.mpr c13
          subst c13
          have H1 : (if x5_1.length < 2932031007402 then (some (x5_1 ++ [(⟨a1_0, a1_1, a1_2, a1_3⟩ : S43)])) else (none)) = some r := by rw [if_neg (show ¬ (false = true) by decide)] at H; exact H
          clear H
          have H := H1
          clear H1
          by_cases c14 : x5_1.length < 2932031007402
          · rw [if_pos c14] at H
            have LMc14 := Aside0.mk c14
            clear c14
            obtain ⟨y193, hy193⟩ : ∃ y_ : List (S43), y_ = (x5_1 ++ [(⟨a1_0, a1_1, a1_2, a1_3⟩ : S43)]) := ⟨_, rfl⟩
            replace H : (some y193) = some r := by first | (rw [hy193]; with_reducible exact H) | (have H2_ := (Option.bind_some _ _).symm.trans H; rw [hy193]; with_reducible exact H2_) | (have H2_ := (Option.bind_some _ _).symm.trans H; with_reducible exact H2_) | with_reducible exact H | (rw [hy193]; exact H) | exact H
            have Ny193 := Aside0.mk hy193
            clear hy193
            obtain rfl := Option.some.inj H
            have hcz15_0 : wr.cell? ⟨gb184, 0, none⟩ = some (.string a1_0) := (blk_cell BK184.out 0).trans rfl
            have hcz15_1 : wr.cell? ⟨gb184, 1, none⟩ = some (.int .i64 a1_1) := (blk_cell BK184.out 1).trans rfl
            have hcz15_2 : wr.cell? ⟨gb184, 2, none⟩ = some (.int .i64 a1_2) := (blk_cell BK184.out 2).trans rfl
            have hcz15_3 : wr.cell? ⟨gb184, 3, none⟩ = some (.string a1_3) := (blk_cell BK184.out 3).trans rfl
            have hfz15_0 := blk_frozen BK184.out 0
            have hfz15_1 := blk_frozen BK184.out 1
            have hfz15_2 := blk_frozen BK184.out 2
            have hfz15_3 := blk_frozen BK184.out 3
            go_wp2_with (first | ((with_reducible refine gate_builtin (b := .append) (xs := #[.tmp 35, .tmp 37]) rfl ?_); at_builtin; refine Kd.R_append k43 (w0 := w) w.heap.size rfl (.tmp 35) (.tmp 37) 23 43 (.agg #[(.string ⟨#[]⟩), (.int .i64 0), (.int .i64 0), (.string ⟨#[]⟩)]) 48 rfl Tryz.underlying23 info43 rfl (by decide) (by omega) u5 x5_1 (⟨a1_0, a1_1, a1_2, a1_3⟩ : S43) [.string a1_0, .int .i64 a1_1, .int .i64 a1_2, .string a1_3] (fun k_ => k_ ≠ gb184) (fun _ => False) rfl rfl ?aP (fun _ hk => hk.elim) ?aF ?aO ?aB ?aS ?aL ?_; (case aP => exact k43_mkM _ _ _ (⟨a1_0, a1_1, a1_2, a1_3⟩ : S43)); (case aB => exact (by repeat (first | (with_reducible first | exact HB.out | apply below_alloc | apply pw_below_drewN | apply below_drew1 | refine below_set ?_ GE184.out) | exact HB.out))); (case aF => exact (fun k_ hk => Kd.freshB (g := gb184) (o := .cells #[.string a1_0, .int .i64 a1_1, .int .i64 a1_2, .string a1_3] 43 (0, 0)) (by (with_reducible repeat (first | refine blk_drewN ?_ _ | refine blk_drew ?_ | refine blk_alloc ?_ _)); exact BK184.out) k_ hk)); (case aO => exact (by (with_reducible repeat (first | apply Kd.R_alloc | apply Kd.R_drewN | apply Kd.R_drew)); exact HO_5.out)); (case aS => exact (below_size (by repeat (first | (with_reducible first | exact HB.out | apply below_alloc | apply pw_below_drewN | apply below_drew1 | refine below_set ?_ GE184.out) | exact HB.out)))); (case aL => have := LMc14.out; omega); intro v194 w16 ho hb hg hat; rw [← Ny193.out] at ho; have n0_ := Aside0.mk (blk_grown (g := gb184) (o := .cells #[.string a1_0, .int .i64 a1_1, .int .i64 a1_2, .string a1_3] 43 (0, 0)) (by (with_reducible repeat (first | refine blk_drewN ?_ _ | refine blk_drew ?_ | refine blk_alloc ?_ _)); exact BK184.out) hg (Kd.R_away HO_5.out (fun _ hk => hk))); have n1_ := Aside0.mk (hb); have n2_ := Aside0.mk (ho); clear BK184; clear HB; clear HO_5; have BK184 := n0_; have HB := n1_; have HO195 := n2_; clear n0_ n1_ n2_; clear ho hb hg hat))
            repeat (go_quiet (first | ((with_reducible refine gate_builtin (b := .append) (xs := #[.tmp 35, .tmp 37]) rfl ?_); at_builtin; refine Kd.R_append k43 (w0 := w) w.heap.size rfl (.tmp 35) (.tmp 37) 23 43 (.agg #[(.string ⟨#[]⟩), (.int .i64 0), (.int .i64 0), (.string ⟨#[]⟩)]) 48 rfl Tryz.underlying23 info43 rfl (by decide) (by omega) u5 x5_1 (⟨a1_0, a1_1, a1_2, a1_3⟩ : S43) [.string a1_0, .int .i64 a1_1, .int .i64 a1_2, .string a1_3] (fun k_ => k_ ≠ gb184) (fun _ => False) rfl rfl ?aP (fun _ hk => hk.elim) ?aF ?aO ?aB ?aS ?aL ?_; (case aP => exact k43_mkM _ _ _ (⟨a1_0, a1_1, a1_2, a1_3⟩ : S43)); (case aB => exact (by repeat (first | (with_reducible first | exact HB.out | apply below_alloc | apply pw_below_drewN | apply below_drew1 | refine below_set ?_ GE184.out) | exact HB.out))); (case aF => exact (fun k_ hk => Kd.freshB (g := gb184) (o := .cells #[.string a1_0, .int .i64 a1_1, .int .i64 a1_2, .string a1_3] 43 (0, 0)) (by (with_reducible repeat (first | refine blk_drewN ?_ _ | refine blk_drew ?_ | refine blk_alloc ?_ _)); exact BK184.out) k_ hk)); (case aO => exact (by (with_reducible repeat (first | apply Kd.R_alloc | apply Kd.R_drewN | apply Kd.R_drew)); exact HO_5.out)); (case aS => exact (below_size (by repeat (first | (with_reducible first | exact HB.out | apply below_alloc | apply pw_below_drewN | apply below_drew1 | refine below_set ?_ GE184.out) | exact HB.out)))); (case aL => have := LMc14.out; omega); intro v194 w16 ho hb hg hat; rw [← Ny193.out] at ho; have n0_ := Aside0.mk (blk_grown (g := gb184) (o := .cells #[.string a1_0, .int .i64 a1_1, .int .i64 a1_2, .string a1_3] 43 (0, 0)) (by (with_reducible repeat (first | refine blk_drewN ?_ _ | refine blk_drew ?_ | refine blk_alloc ?_ _)); exact BK184.out) hg (Kd.R_away HO_5.out (fun _ hk => hk))); have n1_ := Aside0.mk (hb); have n2_ := Aside0.mk (ho); clear BK184; clear HB; clear HO_5; have BK184 := n0_; have HB := n1_; have HO195 := n2_; clear n0_ n1_ n2_; clear ho hb hg hat)); try go_wp2_with (first | ((with_reducible refine gate_builtin (b := .append) (xs := #[.tmp 35, .tmp 37]) rfl ?_); at_builtin; refine Kd.R_append k43 (w0 := w) w.heap.size rfl (.tmp 35) (.tmp 37) 23 43 (.agg #[(.string ⟨#[]⟩), (.int .i64 0), (.int .i64 0), (.string ⟨#[]⟩)]) 48 rfl Tryz.underlying23 info43 rfl (by decide) (by omega) u5 x5_1 (⟨a1_0, a1_1, a1_2, a1_3⟩ : S43) [.string a1_0, .int .i64 a1_1, .int .i64 a1_2, .string a1_3] (fun k_ => k_ ≠ gb184) (fun _ => False) rfl rfl ?aP (fun _ hk => hk.elim) ?aF ?aO ?aB ?aS ?aL ?_; (case aP => exact k43_mkM _ _ _ (⟨a1_0, a1_1, a1_2, a1_3⟩ : S43)); (case aB => exact (by repeat (first | (with_reducible first | exact HB.out | apply below_alloc | apply pw_below_drewN | apply below_drew1 | refine below_set ?_ GE184.out) | exact HB.out))); (case aF => exact (fun k_ hk => Kd.freshB (g := gb184) (o := .cells #[.string a1_0, .int .i64 a1_1, .int .i64 a1_2, .string a1_3] 43 (0, 0)) (by (with_reducible repeat (first | refine blk_drewN ?_ _ | refine blk_drew ?_ | refine blk_alloc ?_ _)); exact BK184.out) k_ hk)); (case aO => exact (by (with_reducible repeat (first | apply Kd.R_alloc | apply Kd.R_drewN | apply Kd.R_drew)); exact HO_5.out)); (case aS => exact (below_size (by repeat (first | (with_reducible first | exact HB.out | apply below_alloc | apply pw_below_drewN | apply below_drew1 | refine below_set ?_ GE184.out) | exact HB.out)))); (case aL => have := LMc14.out; omega); intro v194 w16 ho hb hg hat; rw [← Ny193.out] at ho; have n0_ := Aside0.mk (blk_grown (g := gb184) (o := .cells #[.string a1_0, .int .i64 a1_1, .int .i64 a1_2, .string a1_3] 43 (0, 0)) (by (with_reducible repeat (first | refine blk_drewN ?_ _ | refine blk_drew ?_ | refine blk_alloc ?_ _)); exact BK184.out) hg (Kd.R_away HO_5.out (fun _ hk => hk))); have n1_ := Aside0.mk (hb); have n2_ := Aside0.mk (ho); clear BK184; clear HB; clear HO_5; have BK184 := n0_; have HB := n1_; have HO195 := n2_; clear n0_ n1_ n2_; clear ho hb hg hat)))
            go_ret
            exact ⟨_, by first | rfl | (simp [errW_none, errW_some] <;> rfl) | (simp [*, errW_none, errW_some] <;> rfl) | (simp [q_ne_nil]; done), by (with_reducible repeat (first | apply Kd.R_alloc | apply Kd.R_drewN | apply Kd.R_drew)); exact Kd.R_mono HO195.out (fun _ hk => trivial), by repeat (first | (with_reducible first | exact HB.out | apply below_alloc | apply pw_below_drewN | apply below_drew1 | refine below_set ?_ GE184.out) | exact HB.out)⟩
          · rw [if_neg c14] at H
            exact absurd H (by simp)
mutual
def glacisref05_Params.l0 : Nat → ByteArray → List (S43) → Option ((List (S43)) × ByteArray × Int)
  | 0, _, _ => none
  | k + 1, x0, x5 => if (x0.size : Int) > 0 then (if 0 < (x0.size : Int) then (glacisref05_Params.j1 k x0 x5 ((bt x0 0) == 59)) else (none)) else (glacisref05_Params.j1 k x0 x5 false)
def glacisref05_Params.j1 : Nat → ByteArray → List (S43) → Bool → Option ((List (S43)) × ByteArray × Int)
  | 0, _, _, _ => none
  | k + 1, x0, x5, x20 => if x20 = true then (if 1 ≤ (x0.size : Int) then ((glacisref05_Blank.f k (x0.extract 1 x0.size)).bind fun t196 => ((glacisref05_Key.f k t196).bind fun bt197 => (if bt197.2.2 = 0 then (if (bt197.2.1.size : Int) > 0 then (if 0 < (bt197.2.1.size : Int) then (glacisref05_Params.j2 k bt197.2.1 x5 bt197.1 ((bt bt197.2.1 0) == 61) (⟨#[]⟩ : ByteArray) 6 1 (⟨#[]⟩ : ByteArray)) else (none)) else (glacisref05_Params.j2 k bt197.2.1 x5 bt197.1 false (⟨#[]⟩ : ByteArray) 6 1 (⟨#[]⟩ : ByteArray))) else (some (([] : List (S43)), (⟨#[]⟩ : ByteArray), bt197.2.2))))) else (none)) else (some (x5, x0, 0))
def glacisref05_Params.j2 : Nat → ByteArray → List (S43) → ByteArray → Bool → ByteArray → Int → Int → ByteArray → Option ((List (S43)) × ByteArray × Int)
  | 0, _, _, _, _, _, _, _, _ => none
  | k + 1, x0, x5, x6, x41, x201000, x201001, x201002, x201003 => if x41 = true then (if 1 ≤ (x0.size : Int) then ((glacisref05_value.f k (x0.extract 1 x0.size)).bind fun bt201 => (if bt201.2.2.2.2.2 = true then ((glacisref05_With.f k x5 x6 bt201.2.1 bt201.2.2.1 bt201.2.2.2.1).bind fun t208 => (glacisref05_Params.l0 k bt201.2.2.2.2.1 t208)) else (some (([] : List (S43)), (⟨#[]⟩ : ByteArray), 50)))) else (none)) else ((glacisref05_With.f k x5 x6 x201001 x201002 x201003).bind fun t211 => (glacisref05_Params.l0 k x0 t211))
end
def glacisref05_Params.f (k : Nat) (a0 : ByteArray) : Option ((List (S43)) × ByteArray × Int) := glacisref05_Params.l0 k a0 ([] : List (S43))
set_option maxHeartbeats 8000000 in
set_option maxRecDepth 100000 in
theorem glacisref05_Params.calls (k : Nat) (a0 : ByteArray) (r1 : List (S43)) (r2 : ByteArray) (r3 : Int) (w : World) (h : glacisref05_Params.f k a0 = some (r1, r2, r3)) :
    Calls Tryz.prog 18 #[.string a0] w fun e w' => ∃ v0_ : Value, e = .returned (.tuple #[v0_, .string r2, .int .i64 r3]) ∧ Kd.R k43 43 w' w.heap.size (fun _ => True) v0_ r1 ∧ Below w.heap.size w w' := by
  have hu43 := Tryz.underlying43
  have HB := Aside0.mk (Below.refl w.heap.size w)
  have H : (glacisref05_Params.l0 k a0 ([] : List (S43))) = some (r1, r2, r3) := h
  clear h
  have H' := Aside0.mk H
  clear H
  go_enter Tryz.func18, Tryz.ntmps18
  go_wp2
  go_loopg [0, 5] k (fun kq v0 v5 w' => ∃ (x0_1 : ByteArray) (x5_1 : List (S43)), v0 = .string x0_1 ∧ Aside0 (glacisref05_Params.l0 kq x0_1 x5_1 = some (r1, r2, r3)) ∧ Aside0 (kq ≤ k) ∧ Aside0 (Kd.R k43 43 w' w.heap.size (fun _ => True) v5 x5_1) ∧ Aside0 (Below w.heap.size w w'))
  case atStart => exact ⟨(a0), (([] : List (S43))), (by first | rfl | (simp; done) | (simp [*]; done) | (simp [q_ne_nil]; done)), H', ⟨Nat.le_refl _⟩, ⟨by first | exact Kd.R_nil _ _ _ _ _ | exact Kd.N_nil _ _ _ _ _ | exact Kd.V_nil _ _ _ _ _ | exact Kd.Q_nil _ _ _ _ _ | exact Kd.S_nil _ _ _ _ _⟩, ⟨by repeat (first | (with_reducible first | exact HB.out | apply below_alloc | apply pw_below_drewN | apply below_drew1) | exact HB.out)⟩⟩
  case round =>
    clear H'
    try clear c1
    obtain ⟨x0_1, x5_1, rfl, HA, HK1, HO_5, HB⟩ := hrel
    cases gk with
    | zero => exact absurd HA.out (by simp [glacisref05_Params.l0])
    | succ k1 =>
      have H := HA.out
      clear HA
      simp only [glacisref05_Params.l0] at H
      have HC2 := Aside0.mk H
      clear H
      go_upto_region 2 with (fail)
      go_cut [20] (fun v20 wc => ∃ (kq : Nat) (x20_1 : Bool), v20 = .bool x20_1 ∧ Aside0 (glacisref05_Params.j1 kq x0_1 x5_1 x20_1 = some (r1, r2, r3)) ∧ Aside0 (kq ≤ k1) ∧ Aside0 (Kd.R k43 43 wc w.heap.size (fun _ => True) u5 x5_1) ∧ Aside0 (Below w.heap.size w wc))
      case first =>
        have H := HC2.out
        clear HC2
        by_cases c3 : (x0_1.size : Int) > 0
        · rw [if_pos c3] at H
          have c3b0 : decide (0 < (x0_1.size : Int)) = true := decide_eq_true c3
          have c3b1 : decide (0 < x0_1.size) = true := decide_eq_true (by omega)
          clear c3
          (first | rw [c3b0] | (simp only [i64_w, i32_w]; rw [c3b0]) | skip)
          by_cases c4 : 0 < (x0_1.size : Int)
          · rw [if_pos c4] at H
            have c4b0 : decide (0 < (x0_1.size : Int)) = true := decide_eq_true c4
            have c4b1 : decide (0 < x0_1.size) = true := decide_eq_true (by omega)
            clear c4
            have H' := Aside0.mk H
            clear H
            have p5 : 0 ≤ (0 : Int) := (by omega)
            have q5 : 0 < x0_1.size := (by have : (0 : Int) < (x0_1.size : Int) := of_decide_eq_true (by first | (with_reducible assumption) | assumption); omega)
            have hx5 : ∀ h : 0 < x0_1.size, ((x0_1[0]'h).toNat : Int) = bt x0_1 0 := bt_at x0_1 0
            clear p5
            have qi5 : (0 < (x0_1.size : Int)) = True := eq_true (of_decide_eq_true (by first | (with_reducible assumption) | assumption))
            replace q5 := eq_true q5
            go_wp2
            go_meet
            case rel => exact ⟨_, (((bt x0_1 0) == 59)), (by first | rfl | (simp; done) | (simp [*]; done) | (simp [q_ne_nil]; done)), H', ⟨by have := HK1.out; first | omega | exact Nat.le_refl _⟩, ⟨by (with_reducible repeat (first | apply Kd.R_alloc | apply Kd.R_drewN | apply Kd.R_drew)); exact HO_5.out⟩, ⟨by repeat (first | (with_reducible first | exact HB.out | apply below_alloc | apply pw_below_drewN | apply below_drew1) | exact HB.out)⟩⟩
          · rw [if_neg c4] at H
            exact absurd H (by simp)
        · rw [if_neg c3] at H
          have c3b0 : decide (0 < (x0_1.size : Int)) = false := decide_eq_false c3
          have c3b1 : decide (0 < x0_1.size) = false := decide_eq_false (by omega)
          clear c3
          (first | rw [c3b0] | (simp only [i64_w, i32_w]; rw [c3b0]) | skip)
          have H' := Aside0.mk H
          clear H
          go_wp2
          go_meet
          case rel => exact ⟨_, (false), (by first | rfl | (simp; done) | (simp [*]; done) | (simp [q_ne_nil]; done)), H', ⟨by have := HK1.out; first | omega | exact Nat.le_refl _⟩, ⟨by (with_reducible repeat (first | apply Kd.R_alloc | apply Kd.R_drewN | apply Kd.R_drew)); exact HO_5.out⟩, ⟨by repeat (first | (with_reducible first | exact HB.out | apply below_alloc | apply pw_below_drewN | apply below_drew1) | exact HB.out)⟩⟩
      case rest =>
        clear HC2
        try clear c1
        try clear p2
        try clear c3
        try clear c3b0
        try clear c3b1
        try clear c4
        try clear c4b0
        try clear c4b1
        try clear p5
        try clear q5
        try clear hx5
        try clear qi5
        try clear p5
        try clear q5
        obtain ⟨kq, x20_1, rfl, HA, HJ1, HO_5, HB⟩ := hcut
        cases kq with
        | zero => exact absurd HA.out (by simp [glacisref05_Params.j1])
        | succ kj1 =>
          have H := HA.out
          clear HA
          simp only [glacisref05_Params.j1] at H
          by_cases c6 : x20_1 = true
          · subst c6
            have H1 : (if 1 ≤ (x0_1.size : Int) then ((glacisref05_Blank.f kj1 (x0_1.extract 1 x0_1.size)).bind fun t196 => ((glacisref05_Key.f kj1 t196).bind fun bt197 => (if bt197.2.2 = 0 then (if (bt197.2.1.size : Int) > 0 then (if 0 < (bt197.2.1.size : Int) then (glacisref05_Params.j2 kj1 bt197.2.1 x5_1 bt197.1 ((bt bt197.2.1 0) == 61) (⟨#[]⟩ : ByteArray) 6 1 (⟨#[]⟩ : ByteArray)) else (none)) else (glacisref05_Params.j2 kj1 bt197.2.1 x5_1 bt197.1 false (⟨#[]⟩ : ByteArray) 6 1 (⟨#[]⟩ : ByteArray))) else (some (([] : List (S43)), (⟨#[]⟩ : ByteArray), bt197.2.2))))) else (none)) = some (r1, r2, r3) := by rw [if_pos rfl] at H; exact H
            clear H
            have H := H1
            clear H1
            by_cases c7 : 1 ≤ (x0_1.size : Int)
            · rw [if_pos c7] at H
              have c7b0 := eq_true c7
              have c7b1 : decide (1 ≤ (x0_1.size : Int)) = true := decide_eq_true c7
              clear c7
              replace H := Option.bind_eq_some_iff.mp H
              obtain ⟨t196, A80, H⟩ := H
              replace H : ((glacisref05_Key.f kj1 t196).bind fun bt197 => (if bt197.2.2 = 0 then (if (bt197.2.1.size : Int) > 0 then (if 0 < (bt197.2.1.size : Int) then (glacisref05_Params.j2 kj1 bt197.2.1 x5_1 bt197.1 ((bt bt197.2.1 0) == 61) (⟨#[]⟩ : ByteArray) 6 1 (⟨#[]⟩ : ByteArray)) else (none)) else (glacisref05_Params.j2 kj1 bt197.2.1 x5_1 bt197.1 false (⟨#[]⟩ : ByteArray) 6 1 (⟨#[]⟩ : ByteArray))) else (some (([] : List (S43)), (⟨#[]⟩ : ByteArray), bt197.2.2)))) = some (r1, r2, r3) := H
              have A8 := Aside0.mk A80
              clear A80
              replace H := Option.bind_eq_some_iff.mp H
              obtain ⟨⟨t197, t198, t199⟩, A90, H⟩ := H
              replace H : (if t199 = 0 then (if (t198.size : Int) > 0 then (if 0 < (t198.size : Int) then (glacisref05_Params.j2 kj1 t198 x5_1 t197 ((bt t198 0) == 61) (⟨#[]⟩ : ByteArray) 6 1 (⟨#[]⟩ : ByteArray)) else (none)) else (glacisref05_Params.j2 kj1 t198 x5_1 t197 false (⟨#[]⟩ : ByteArray) 6 1 (⟨#[]⟩ : ByteArray))) else (some (([] : List (S43)), (⟨#[]⟩ : ByteArray), t199))) = some (r1, r2, r3) := H
              have A9 := Aside0.mk A90
              clear A90
              by_cases c10 : t199 = 0
              · rw [if_pos c10] at H
                have c10b0 : (t199 == 0) = true := beq_iff_eq.mpr c10
                have c10b1 : (t199 != 0) = false := bne_eq_false_iff_eq.mpr c10
                clear c10
                have HC11 := Aside0.mk H
                clear H
                go_upto_region 8 with (first | ((with_reducible refine gate_callee (f := 32) rfl ?_); refine goesL_ (some 24) rfl rfl Tryz.func32 (by kernel_rfl) rfl #[.string (x0_1.extract 1 x0_1.size)] rfl (by (try simp only [List.map_toArray, List.map_cons, List.map_nil]); first | done | rfl | (simp only [List.length_drop, List.length_take]; rfl)) ?_; (with_reducible refine (glacisref05_Blank.calls kj1 (x0_1.extract 1 x0_1.size) t196 _ A8.out).mono ?_); rintro e w' ⟨rfl, ⟨nd, rfl⟩⟩; refine ⟨_, rfl, ?_⟩; (try (rw [drewN_self wc]; generalize hq_ : World.drewN wc _ = wc; have n0_ : Aside0 (Kd.R k43 43 wc w.heap.size (fun _ => True) u5 x5_1) := ⟨by rw [← hq_]; exact (by (with_reducible repeat (first | apply Kd.R_alloc | apply Kd.R_drewN | apply Kd.R_drew)); exact HO_5.out)⟩; have n1_ : Aside0 (Below w.heap.size w wc) := ⟨by rw [← hq_]; exact (by repeat (first | (with_reducible first | exact HB.out | apply below_alloc | apply pw_below_drewN | apply below_drew1) | exact HB.out))⟩; clear HO_5 HB hq_; have HO_5 := n0_; have HB := n1_; clear n0_ n1_))) | ((with_reducible refine gate_callee (f := 21) rfl ?_); refine goesL_ (some 25) rfl rfl Tryz.func21 (by kernel_rfl) rfl #[.string t196] rfl (by (try simp only [List.map_toArray, List.map_cons, List.map_nil]); first | done | rfl | (simp only [List.length_drop, List.length_take]; rfl)) ?_; (with_reducible refine (glacisref05_Key.calls kj1 t196 t197 t198 t199 _ A9.out).mono ?_); rintro e w' ⟨rfl, ⟨nd, rfl⟩⟩; refine ⟨_, rfl, ?_⟩; (try (rw [drewN_self wc]; generalize hq_ : World.drewN wc _ = wc; have n0_ : Aside0 (Kd.R k43 43 wc w.heap.size (fun _ => True) u5 x5_1) := ⟨by rw [← hq_]; exact (by (with_reducible repeat (first | apply Kd.R_alloc | apply Kd.R_drewN | apply Kd.R_drew)); exact HO_5.out)⟩; have n1_ : Aside0 (Below w.heap.size w wc) := ⟨by rw [← hq_]; exact (by repeat (first | (with_reducible first | exact HB.out | apply below_alloc | apply pw_below_drewN | apply below_drew1) | exact HB.out))⟩; clear HO_5 HB hq_; have HO_5 := n0_; have HB := n1_; clear n0_ n1_))) | ((with_reducible refine gate_dst (N := 9) rfl ?_); refine box_event ?hg (N := 9) ?hd (cs := #[.string (⟨#[]⟩ : ByteArray), .int .i64 0, .int .i64 0, .string (⟨#[]⟩ : ByteArray)]) (t := 43) ?hr ?_; (case hd => rfl); (case hg => rfl); (case hr => first | (go_simp; done) | (go_simp; rfl)); intro gb200 hg w12 hbox hb; have n0_ := Aside0.mk (Kd.R_below (Kd.R_elderB (by (with_reducible repeat (first | apply Kd.R_alloc | apply Kd.R_drewN | apply Kd.R_drew)); exact HO_5.out) gb200 (Nat.le_of_eq hg.symm)) hb); have n1_ := Aside0.mk (below_step (by repeat (first | (with_reducible first | exact HB.out | apply below_alloc | apply pw_below_drewN | apply below_drew1) | exact HB.out)) hb); have n2_ := Aside0.mk (hbox); have n3_ := Aside0.mk ((by rw [hg]; exact (below_size (by repeat (first | (with_reducible first | exact HB.out | apply below_alloc | apply pw_below_drewN | apply below_drew1) | exact HB.out))) : w.heap.size ≤ gb200)); have n4_ := Aside0.mk ((by rw [hg]; exact (below_size (by repeat (first | (with_reducible first | exact HB.out | apply below_alloc | apply pw_below_drewN | apply below_drew1) | exact HB.out))) : w.heap.size ≤ gb200)); clear HO_5; clear HB; have HO_5 := n0_; have HB := n1_; have BK200 := n2_; have GW200 := n3_; have GE200 := n4_; clear n0_ n1_ n2_ n3_ n4_; clear hb hbox hg; have hcz13_0 : w12.cell? ⟨gb200, 0, none⟩ = some (.string (⟨#[]⟩ : ByteArray)) := (blk_cell BK200.out 0).trans rfl; have hcz13_1 : w12.cell? ⟨gb200, 1, none⟩ = some (.int .i64 0) := (blk_cell BK200.out 1).trans rfl; have hcz13_2 : w12.cell? ⟨gb200, 2, none⟩ = some (.int .i64 0) := (blk_cell BK200.out 2).trans rfl; have hcz13_3 : w12.cell? ⟨gb200, 3, none⟩ = some (.string (⟨#[]⟩ : ByteArray)) := (blk_cell BK200.out 3).trans rfl; have hfz13_0 := blk_frozen BK200.out 0; have hfz13_1 := blk_frozen BK200.out 1; have hfz13_2 := blk_frozen BK200.out 2; have hfz13_3 := blk_frozen BK200.out 3))
                (try simp only [Act.put, List.setIfInBounds_toArray, List.set_cons_zero, List.set_cons_succ])
                go_cut [41] (fun v41 wc => ∃ (kq : Nat) (x41_10 : Bool), v41 = .bool x41_10 ∧ Aside0 (glacisref05_Params.j2 kq t198 x5_1 t197 x41_10 (⟨#[]⟩ : ByteArray) 6 1 (⟨#[]⟩ : ByteArray) = some (r1, r2, r3)) ∧ Aside0 (kq ≤ kj1) ∧ Aside0 (Kd.R k43 43 wc w.heap.size (fun k_ => k_ ≠ gb200) u5 x5_1) ∧ Aside0 (wc.heap[gb200]? = some (.cells #[.string (⟨#[]⟩ : ByteArray), .int .i64 6, .int .i64 1, .string (⟨#[]⟩ : ByteArray)] 43 (0, 0))) ∧ Aside0 (Below w.heap.size w wc))
                case first =>
                  have H := HC11.out
                  clear HC11
                  by_cases c14 : (t198.size : Int) > 0
                  · rw [if_pos c14] at H
                    have c14b0 : decide (0 < (t198.size : Int)) = true := decide_eq_true c14
                    have c14b1 : decide (0 < t198.size) = true := decide_eq_true (by omega)
                    clear c14
                    (first | rw [c14b0] | (simp only [i64_w, i32_w]; rw [c14b0]) | skip)
                    by_cases c15 : 0 < (t198.size : Int)
                    · rw [if_pos c15] at H
                      have c15b0 : decide (0 < (t198.size : Int)) = true := decide_eq_true c15
                      have c15b1 : decide (0 < t198.size) = true := decide_eq_true (by omega)
                      clear c15
                      have H' := Aside0.mk H
                      clear H
                      have p16 : 0 ≤ (0 : Int) := (by omega)
                      have q16 : 0 < t198.size := (by have : (0 : Int) < (t198.size : Int) := of_decide_eq_true (by first | (with_reducible assumption) | assumption); omega)
                      have hx16 : ∀ h : 0 < t198.size, ((t198[0]'h).toNat : Int) = bt t198 0 := bt_at t198 0
                      clear p16
                      have qi16 : (0 < (t198.size : Int)) = True := eq_true (of_decide_eq_true (by first | (with_reducible assumption) | assumption))
                      replace q16 := eq_true q16
                      go_wp2
                      go_meet
                      case rel => exact ⟨_, (((bt t198 0) == 61)), (by first | rfl | (simp; done) | (simp [*]; done) | (simp [q_ne_nil]; done)), H', ⟨by have := HK1.out; have := HJ1.out; first | omega | exact Nat.le_refl _⟩, ⟨by (with_reducible repeat (first | apply Kd.R_alloc | apply Kd.R_drewN | apply Kd.R_drew)); exact Kd.R_mono (Kd.R_far (p := ⟨gb200, 3, none⟩) (Kd.R_far (p := ⟨gb200, 2, none⟩) (Kd.R_far (p := ⟨gb200, 1, none⟩) (Kd.R_far (p := ⟨gb200, 0, none⟩) (Kd.R_mono HO_5.out (fun k_ hk => (⟨hk, hk.2⟩ : _ ∧ k_ ≠ gb200))) (fun _ hk => hk.2) (.string (⟨#[]⟩ : ByteArray))) (fun _ hk => hk.2) (.int .i64 6)) (fun _ hk => hk.2) (.int .i64 1)) (fun _ hk => hk.2) (.string (⟨#[]⟩ : ByteArray))) (fun _ hk => hk.1.2)⟩, ⟨by (with_reducible repeat (first | refine blk_drewN ?_ _ | refine blk_drew ?_ | refine blk_alloc ?_ _)); refine blk_put (cs := #[.string (⟨#[]⟩ : ByteArray), .int .i64 6, .int .i64 1, .string (⟨#[]⟩ : ByteArray)]) ?_ 3 _ rfl; (with_reducible repeat (first | refine blk_drewN ?_ _ | refine blk_drew ?_ | refine blk_alloc ?_ _)); refine blk_put (cs := #[.string (⟨#[]⟩ : ByteArray), .int .i64 6, .int .i64 0, .string (⟨#[]⟩ : ByteArray)]) ?_ 2 _ rfl; (with_reducible repeat (first | refine blk_drewN ?_ _ | refine blk_drew ?_ | refine blk_alloc ?_ _)); refine blk_put (cs := #[.string (⟨#[]⟩ : ByteArray), .int .i64 0, .int .i64 0, .string (⟨#[]⟩ : ByteArray)]) ?_ 1 _ rfl; (with_reducible repeat (first | refine blk_drewN ?_ _ | refine blk_drew ?_ | refine blk_alloc ?_ _)); refine blk_put (cs := #[.string (⟨#[]⟩ : ByteArray), .int .i64 0, .int .i64 0, .string (⟨#[]⟩ : ByteArray)]) ?_ 0 _ rfl; (with_reducible repeat (first | refine blk_drewN ?_ _ | refine blk_drew ?_ | refine blk_alloc ?_ _)); exact BK200.out⟩, ⟨by repeat (first | (with_reducible first | exact HB.out | apply below_alloc | apply pw_below_drewN | apply below_drew1 | refine below_set ?_ GE200.out) | exact HB.out)⟩⟩
                    · rw [if_neg c15] at H
                      exact absurd H (by simp)
                  · rw [if_neg c14] at H
                    have c14b0 : decide (0 < (t198.size : Int)) = false := decide_eq_false c14
                    have c14b1 : decide (0 < t198.size) = false := decide_eq_false (by omega)
                    clear c14
                    (first | rw [c14b0] | (simp only [i64_w, i32_w]; rw [c14b0]) | skip)
                    have H' := Aside0.mk H
                    clear H
                    go_wp2
                    go_meet
                    case rel => exact ⟨_, (false), (by first | rfl | (simp; done) | (simp [*]; done) | (simp [q_ne_nil]; done)), H', ⟨by have := HK1.out; have := HJ1.out; first | omega | exact Nat.le_refl _⟩, ⟨by (with_reducible repeat (first | apply Kd.R_alloc | apply Kd.R_drewN | apply Kd.R_drew)); exact Kd.R_mono (Kd.R_far (p := ⟨gb200, 3, none⟩) (Kd.R_far (p := ⟨gb200, 2, none⟩) (Kd.R_far (p := ⟨gb200, 1, none⟩) (Kd.R_far (p := ⟨gb200, 0, none⟩) (Kd.R_mono HO_5.out (fun k_ hk => (⟨hk, hk.2⟩ : _ ∧ k_ ≠ gb200))) (fun _ hk => hk.2) (.string (⟨#[]⟩ : ByteArray))) (fun _ hk => hk.2) (.int .i64 6)) (fun _ hk => hk.2) (.int .i64 1)) (fun _ hk => hk.2) (.string (⟨#[]⟩ : ByteArray))) (fun _ hk => hk.1.2)⟩, ⟨by (with_reducible repeat (first | refine blk_drewN ?_ _ | refine blk_drew ?_ | refine blk_alloc ?_ _)); refine blk_put (cs := #[.string (⟨#[]⟩ : ByteArray), .int .i64 6, .int .i64 1, .string (⟨#[]⟩ : ByteArray)]) ?_ 3 _ rfl; (with_reducible repeat (first | refine blk_drewN ?_ _ | refine blk_drew ?_ | refine blk_alloc ?_ _)); refine blk_put (cs := #[.string (⟨#[]⟩ : ByteArray), .int .i64 6, .int .i64 0, .string (⟨#[]⟩ : ByteArray)]) ?_ 2 _ rfl; (with_reducible repeat (first | refine blk_drewN ?_ _ | refine blk_drew ?_ | refine blk_alloc ?_ _)); refine blk_put (cs := #[.string (⟨#[]⟩ : ByteArray), .int .i64 0, .int .i64 0, .string (⟨#[]⟩ : ByteArray)]) ?_ 1 _ rfl; (with_reducible repeat (first | refine blk_drewN ?_ _ | refine blk_drew ?_ | refine blk_alloc ?_ _)); refine blk_put (cs := #[.string (⟨#[]⟩ : ByteArray), .int .i64 0, .int .i64 0, .string (⟨#[]⟩ : ByteArray)]) ?_ 0 _ rfl; (with_reducible repeat (first | refine blk_drewN ?_ _ | refine blk_drew ?_ | refine blk_alloc ?_ _)); exact BK200.out⟩, ⟨by repeat (first | (with_reducible first | exact HB.out | apply below_alloc | apply pw_below_drewN | apply below_drew1 | refine below_set ?_ GE200.out) | exact HB.out)⟩⟩
                case rest =>
                  clear HC11
                  try clear c1
                  try clear p1
                  try clear q1
                  try clear hx1
                  try clear qi1
                  try clear c2
                  try clear p2
                  try clear c3
                  try clear c3b0
                  try clear c3b1
                  try clear c4
                  try clear c4b0
                  try clear c4b1
                  try clear p5
                  try clear q5
                  try clear hx5
                  try clear qi5
                  try clear c6
                  try clear c7
                  try clear c7b0
                  try clear c7b1
                  try clear c10
                  try clear c10b0
                  try clear c10b1
                  try clear c14
                  try clear c14b0
                  try clear c14b1
                  try clear c15
                  try clear c15b0
                  try clear c15b1
                  try clear p16
                  try clear q16
                  try clear hx16
                  try clear qi16
                  try clear hcz13_0
                  try clear hcz13_1
                  try clear hcz13_2
                  try clear hcz13_3
                  try clear hfz13_0
                  try clear hfz13_1
                  try clear hfz13_2
                  try clear hfz13_3
                  try clear p16
                  try clear p2
                  try clear p5
                  try clear q16
                  try clear q5
                  obtain ⟨kq, x41_10, rfl, HA, HJ10, HO_5, BK200, HB⟩ := hcut
                  cases kq with
                  | zero => exact absurd HA.out (by simp [glacisref05_Params.j2])
                  | succ kj10 =>
                    have H := HA.out
                    clear HA
                    simp only [glacisref05_Params.j2] at H
                    by_cases c17 : x41_10 = true
                    · subst c17
                      have H1 : (if 1 ≤ (t198.size : Int) then ((glacisref05_value.f kj10 (t198.extract 1 t198.size)).bind fun bt201 => (if bt201.2.2.2.2.2 = true then ((glacisref05_With.f kj10 x5_1 t197 bt201.2.1 bt201.2.2.1 bt201.2.2.2.1).bind fun t208 => (glacisref05_Params.l0 kj10 bt201.2.2.2.2.1 t208)) else (some (([] : List (S43)), (⟨#[]⟩ : ByteArray), 50)))) else (none)) = some (r1, r2, r3) := by rw [if_pos rfl] at H; exact H
                      clear H
                      have H := H1
                      clear H1
                      by_cases c18 : 1 ≤ (t198.size : Int)
                      · rw [if_pos c18] at H
                        have c18b0 := eq_true c18
                        have c18b1 : decide (1 ≤ (t198.size : Int)) = true := decide_eq_true c18
                        clear c18
                        replace H := Option.bind_eq_some_iff.mp H
                        obtain ⟨⟨t201, t202, t203, t204, t205, t206⟩, A190, H⟩ := H
                        replace H : (if t206 = true then ((glacisref05_With.f kj10 x5_1 t197 t202 t203 t204).bind fun t208 => (glacisref05_Params.l0 kj10 t205 t208)) else (some (([] : List (S43)), (⟨#[]⟩ : ByteArray), 50))) = some (r1, r2, r3) := H
                        have A19 := Aside0.mk A190
                        clear A190
                        by_cases c20 : t206 = true
                        · subst c20
                          have H1 : ((glacisref05_With.f kj10 x5_1 t197 t202 t203 t204).bind fun t208 => (glacisref05_Params.l0 kj10 t205 t208)) = some (r1, r2, r3) := by rw [if_pos rfl] at H; exact H
                          clear H
                          have H := H1
                          clear H1
                          replace H := Option.bind_eq_some_iff.mp H
                          obtain ⟨t208, A210, H⟩ := H
                          replace H : (glacisref05_Params.l0 kj10 t205 t208) = some (r1, r2, r3) := H
                          have A21 := Aside0.mk A210
                          clear A210
                          have H' := Aside0.mk H
                          clear H
                          go_upto_region 12 with (first | ((with_reducible refine gate_callee (f := 30) rfl ?_); refine goesL_ (some 45) rfl rfl Tryz.func30 (by kernel_rfl) rfl #[.string (t198.extract 1 t198.size)] rfl (by (try simp only [List.map_toArray, List.map_cons, List.map_nil]); first | done | rfl | (simp only [List.length_drop, List.length_take]; rfl)) ?_; (with_reducible refine (glacisref05_value.calls kj10 (t198.extract 1 t198.size) t201 t202 t203 t204 t205 true _ A19.out).mono ?_); rintro e w22 ⟨rfl, hb⟩; refine ⟨_, rfl, ?_⟩; have n0_ := Aside0.mk (Kd.R_below (by (with_reducible repeat (first | apply Kd.R_alloc | apply Kd.R_drewN | apply Kd.R_drew)); exact HO_5.out) hb); have n1_ := Aside0.mk (blk_below (g := gb200) (o := .cells #[.string (⟨#[]⟩ : ByteArray), .int .i64 6, .int .i64 1, .string (⟨#[]⟩ : ByteArray)] 43 (0, 0)) (by (with_reducible repeat (first | refine blk_drewN ?_ _ | refine blk_drew ?_ | refine blk_alloc ?_ _)); exact BK200.out) hb); have n2_ := Aside0.mk (below_step (by repeat (first | (with_reducible first | exact HB.out | apply below_alloc | apply pw_below_drewN | apply below_drew1 | refine below_set ?_ GE200.out) | exact HB.out)) hb); clear HO_5; clear BK200; clear HB; have HO_5 := n0_; have BK200 := n1_; have HB := n2_; clear n0_ n1_ n2_; (try clear hb); (try clear hb2); (try clear hk); (try clear hi)) | ((with_reducible refine gate_dst (N := 10) rfl ?_); refine box_event ?hg (N := 10) ?hd (cs := #[.string (⟨#[]⟩ : ByteArray), .int .i64 0, .int .i64 0, .string (⟨#[]⟩ : ByteArray)]) (t := 43) ?hr ?_; (case hd => rfl); (case hg => rfl); (case hr => first | (go_simp; done) | (go_simp; rfl)); intro gb207 hg w23 hbox hb; have n0_ := Aside0.mk (Kd.R_below (Kd.R_elderB (by (with_reducible repeat (first | apply Kd.R_alloc | apply Kd.R_drewN | apply Kd.R_drew)); exact HO_5.out) gb207 (Nat.le_of_eq hg.symm)) hb); have n1_ := Aside0.mk (blk_below (g := gb200) (o := .cells #[.string (⟨#[]⟩ : ByteArray), .int .i64 6, .int .i64 1, .string (⟨#[]⟩ : ByteArray)] 43 (0, 0)) (by (with_reducible repeat (first | refine blk_drewN ?_ _ | refine blk_drew ?_ | refine blk_alloc ?_ _)); exact BK200.out) hb); have n2_ := Aside0.mk (below_step (by repeat (first | (with_reducible first | exact HB.out | apply below_alloc | apply pw_below_drewN | apply below_drew1 | refine below_set ?_ GE200.out) | exact HB.out)) hb); have n3_ := Aside0.mk (hbox); have n4_ := Aside0.mk ((by rw [hg]; exact (below_size (by repeat (first | (with_reducible first | exact HB.out | apply below_alloc | apply pw_below_drewN | apply below_drew1 | refine below_set ?_ GE200.out) | exact HB.out))) : w.heap.size ≤ gb207)); have n5_ := Aside0.mk ((by rw [hg]; exact (below_size (by repeat (first | (with_reducible first | exact HB.out | apply below_alloc | apply pw_below_drewN | apply below_drew1 | refine below_set ?_ GE200.out) | exact HB.out))) : w.heap.size ≤ gb207)); have n6_ := Aside0.mk ((by rw [hg]; exact Nat.ne_of_lt (blk_lt (g := gb200) (o := .cells #[.string (⟨#[]⟩ : ByteArray), .int .i64 6, .int .i64 1, .string (⟨#[]⟩ : ByteArray)] 43 (0, 0)) (by (with_reducible repeat (first | refine blk_drewN ?_ _ | refine blk_drew ?_ | refine blk_alloc ?_ _)); exact BK200.out)) : gb200 ≠ gb207)); have n7_ := Aside0.mk ((by rw [hg]; exact Nat.ne_of_gt (blk_lt (g := gb200) (o := .cells #[.string (⟨#[]⟩ : ByteArray), .int .i64 6, .int .i64 1, .string (⟨#[]⟩ : ByteArray)] 43 (0, 0)) (by (with_reducible repeat (first | refine blk_drewN ?_ _ | refine blk_drew ?_ | refine blk_alloc ?_ _)); exact BK200.out)) : gb207 ≠ gb200)); clear HO_5; clear BK200; clear HB; have HO_5 := n0_; have BK200 := n1_; have HB := n2_; have BK207 := n3_; have GW207 := n4_; have GE207 := n5_; have NB200_207 := n6_; have NB207_200 := n7_; clear n0_ n1_ n2_ n3_ n4_ n5_ n6_ n7_; clear hb hbox hg; have hnb24 := NB207_200.out; have hnc24 := NB200_207.out; have hcz25_0 : w23.cell? ⟨gb207, 0, none⟩ = some (.string (⟨#[]⟩ : ByteArray)) := (blk_cell BK207.out 0).trans rfl; have hcz25_1 : w23.cell? ⟨gb207, 1, none⟩ = some (.int .i64 0) := (blk_cell BK207.out 1).trans rfl; have hcz25_2 : w23.cell? ⟨gb207, 2, none⟩ = some (.int .i64 0) := (blk_cell BK207.out 2).trans rfl; have hcz25_3 : w23.cell? ⟨gb207, 3, none⟩ = some (.string (⟨#[]⟩ : ByteArray)) := (blk_cell BK207.out 3).trans rfl; have hfz25_0 := blk_frozen BK207.out 0; have hfz25_1 := blk_frozen BK207.out 1; have hfz25_2 := blk_frozen BK207.out 2; have hfz25_3 := blk_frozen BK207.out 3; have hcz26_0 : w23.cell? ⟨gb200, 0, none⟩ = some (.string (⟨#[]⟩ : ByteArray)) := (blk_cell BK200.out 0).trans rfl; have hcz26_1 : w23.cell? ⟨gb200, 1, none⟩ = some (.int .i64 6) := (blk_cell BK200.out 1).trans rfl; have hcz26_2 : w23.cell? ⟨gb200, 2, none⟩ = some (.int .i64 1) := (blk_cell BK200.out 2).trans rfl; have hcz26_3 : w23.cell? ⟨gb200, 3, none⟩ = some (.string (⟨#[]⟩ : ByteArray)) := (blk_cell BK200.out 3).trans rfl; have hfz26_0 := blk_frozen BK200.out 0; have hfz26_1 := blk_frozen BK200.out 1; have hfz26_2 := blk_frozen BK200.out 2; have hfz26_3 := blk_frozen BK200.out 3; obtain ⟨Ao27, co27, eo27⟩ := Kd.R_slice HO_5.out; subst eo27))
                          have n0_ : Aside0 (Kd.R k43 43 ((((w23.setCell ⟨gb207, 0, none⟩ (.string t201)).setCell ⟨gb207, 1, none⟩ (.int .i64 t202)).setCell ⟨gb207, 2, none⟩ (.int .i64 t203)).setCell ⟨gb207, 3, none⟩ (.string t204)) w.heap.size _ _ x5_1) := Aside0.mk (Kd.R_far (p := ⟨gb207, 3, none⟩) (Kd.R_far (p := ⟨gb207, 2, none⟩) (Kd.R_far (p := ⟨gb207, 1, none⟩) (Kd.R_far (p := ⟨gb207, 0, none⟩) HO_5.out (fun _ hk => hk.2) (.string t201)) (fun _ hk => hk.2) (.int .i64 t202)) (fun _ hk => hk.2) (.int .i64 t203)) (fun _ hk => hk.2) (.string t204))
                          have n1_ : Aside0 (((((w23.setCell ⟨gb207, 0, none⟩ (.string t201)).setCell ⟨gb207, 1, none⟩ (.int .i64 t202)).setCell ⟨gb207, 2, none⟩ (.int .i64 t203)).setCell ⟨gb207, 3, none⟩ (.string t204)).heap[gb200]? = some (.cells #[.string (⟨#[]⟩ : ByteArray), .int .i64 6, .int .i64 1, .string (⟨#[]⟩ : ByteArray)] 43 (0, 0))) := Aside0.mk (blk_far (blk_far (blk_far (blk_far (BK200.out) NB200_207.out _) NB200_207.out _) NB200_207.out _) NB200_207.out _)
                          have n2_ : Aside0 (((((w23.setCell ⟨gb207, 0, none⟩ (.string t201)).setCell ⟨gb207, 1, none⟩ (.int .i64 t202)).setCell ⟨gb207, 2, none⟩ (.int .i64 t203)).setCell ⟨gb207, 3, none⟩ (.string t204)).heap[gb207]? = some (.cells #[.string t201, .int .i64 t202, .int .i64 t203, .string t204] 43 (0, 0))) := Aside0.mk (blk_put (cs := #[.string t201, .int .i64 t202, .int .i64 t203, .string (⟨#[]⟩ : ByteArray)]) (blk_put (cs := #[.string t201, .int .i64 t202, .int .i64 0, .string (⟨#[]⟩ : ByteArray)]) (blk_put (cs := #[.string t201, .int .i64 0, .int .i64 0, .string (⟨#[]⟩ : ByteArray)]) (blk_put (cs := #[.string (⟨#[]⟩ : ByteArray), .int .i64 0, .int .i64 0, .string (⟨#[]⟩ : ByteArray)]) (BK207.out) 0 (.string t201) rfl) 1 (.int .i64 t202) rfl) 2 (.int .i64 t203) rfl) 3 (.string t204) rfl)
                          have n3_ : Aside0 (Below w.heap.size w (((((w23.setCell ⟨gb207, 0, none⟩ (.string t201)).setCell ⟨gb207, 1, none⟩ (.int .i64 t202)).setCell ⟨gb207, 2, none⟩ (.int .i64 t203)).setCell ⟨gb207, 3, none⟩ (.string t204)))) := Aside0.mk (below_set (below_set (below_set (below_set HB.out GE207.out) GE207.out) GE207.out) GE207.out)
                          clear HO_5; clear BK200; clear BK207; clear HB; have HO_5 := n0_; have BK200 := n1_; have BK207 := n2_; have HB := n3_; clear n0_ n1_ n2_ n3_
                          generalize ((((w23.setCell ⟨gb207, 0, none⟩ (.string t201)).setCell ⟨gb207, 1, none⟩ (.int .i64 t202)).setCell ⟨gb207, 2, none⟩ (.int .i64 t203)).setCell ⟨gb207, 3, none⟩ (.string t204)) = wq1 at *
                          have hqu0 : wq1.cell? ⟨gb207, 0, none⟩ = some (.string t201) := (blk_cell BK207.out 0).trans rfl
                          have hpu0 := blk_frozen BK207.out 0
                          have hqu1 : wq1.cell? ⟨gb207, 1, none⟩ = some (.int .i64 t202) := (blk_cell BK207.out 1).trans rfl
                          have hpu1 := blk_frozen BK207.out 1
                          have hqu2 : wq1.cell? ⟨gb207, 2, none⟩ = some (.int .i64 t203) := (blk_cell BK207.out 2).trans rfl
                          have hpu2 := blk_frozen BK207.out 2
                          have hqu3 : wq1.cell? ⟨gb207, 3, none⟩ = some (.string t204) := (blk_cell BK207.out 3).trans rfl
                          have hpu3 := blk_frozen BK207.out 3
                          have hqv0 : wq1.cell? ⟨gb200, 0, none⟩ = some (.string (⟨#[]⟩ : ByteArray)) := (blk_cell BK200.out 0).trans rfl
                          have hpv0 := blk_frozen BK200.out 0
                          have hqv1 : wq1.cell? ⟨gb200, 1, none⟩ = some (.int .i64 6) := (blk_cell BK200.out 1).trans rfl
                          have hpv1 := blk_frozen BK200.out 1
                          have hqv2 : wq1.cell? ⟨gb200, 2, none⟩ = some (.int .i64 1) := (blk_cell BK200.out 2).trans rfl
                          have hpv2 := blk_frozen BK200.out 2
                          have hqv3 : wq1.cell? ⟨gb200, 3, none⟩ = some (.string (⟨#[]⟩ : ByteArray)) := (blk_cell BK200.out 3).trans rfl
                          have hpv3 := blk_frozen BK200.out 3
                          go_upto_region 14 with (fail)
                          have n0_ : Aside0 (Kd.R k43 43 ((((wq1.setCell ⟨gb200, 0, none⟩ (.string t201)).setCell ⟨gb200, 1, none⟩ (.int .i64 t202)).setCell ⟨gb200, 2, none⟩ (.int .i64 t203)).setCell ⟨gb200, 3, none⟩ (.string t204)) w.heap.size _ _ x5_1) := Aside0.mk (Kd.R_far (p := ⟨gb200, 3, none⟩) (Kd.R_far (p := ⟨gb200, 2, none⟩) (Kd.R_far (p := ⟨gb200, 1, none⟩) (Kd.R_far (p := ⟨gb200, 0, none⟩) HO_5.out (fun _ hk => hk.1) (.string t201)) (fun _ hk => hk.1) (.int .i64 t202)) (fun _ hk => hk.1) (.int .i64 t203)) (fun _ hk => hk.1) (.string t204))
                          have n1_ : Aside0 (((((wq1.setCell ⟨gb200, 0, none⟩ (.string t201)).setCell ⟨gb200, 1, none⟩ (.int .i64 t202)).setCell ⟨gb200, 2, none⟩ (.int .i64 t203)).setCell ⟨gb200, 3, none⟩ (.string t204)).heap[gb200]? = some (.cells #[.string t201, .int .i64 t202, .int .i64 t203, .string t204] 43 (0, 0))) := Aside0.mk (blk_put (cs := #[.string t201, .int .i64 t202, .int .i64 t203, .string (⟨#[]⟩ : ByteArray)]) (blk_put (cs := #[.string t201, .int .i64 t202, .int .i64 1, .string (⟨#[]⟩ : ByteArray)]) (blk_put (cs := #[.string t201, .int .i64 6, .int .i64 1, .string (⟨#[]⟩ : ByteArray)]) (blk_put (cs := #[.string (⟨#[]⟩ : ByteArray), .int .i64 6, .int .i64 1, .string (⟨#[]⟩ : ByteArray)]) (BK200.out) 0 (.string t201) rfl) 1 (.int .i64 t202) rfl) 2 (.int .i64 t203) rfl) 3 (.string t204) rfl)
                          have n2_ : Aside0 (((((wq1.setCell ⟨gb200, 0, none⟩ (.string t201)).setCell ⟨gb200, 1, none⟩ (.int .i64 t202)).setCell ⟨gb200, 2, none⟩ (.int .i64 t203)).setCell ⟨gb200, 3, none⟩ (.string t204)).heap[gb207]? = some (.cells #[.string t201, .int .i64 t202, .int .i64 t203, .string t204] 43 (0, 0))) := Aside0.mk (blk_far (blk_far (blk_far (blk_far (BK207.out) NB207_200.out _) NB207_200.out _) NB207_200.out _) NB207_200.out _)
                          have n3_ : Aside0 (Below w.heap.size w (((((wq1.setCell ⟨gb200, 0, none⟩ (.string t201)).setCell ⟨gb200, 1, none⟩ (.int .i64 t202)).setCell ⟨gb200, 2, none⟩ (.int .i64 t203)).setCell ⟨gb200, 3, none⟩ (.string t204)))) := Aside0.mk (below_set (below_set (below_set (below_set HB.out GE200.out) GE200.out) GE200.out) GE200.out)
                          clear HO_5; clear BK200; clear BK207; clear HB; have HO_5 := n0_; have BK200 := n1_; have BK207 := n2_; have HB := n3_; clear n0_ n1_ n2_ n3_
                          generalize ((((wq1.setCell ⟨gb200, 0, none⟩ (.string t201)).setCell ⟨gb200, 1, none⟩ (.int .i64 t202)).setCell ⟨gb200, 2, none⟩ (.int .i64 t203)).setCell ⟨gb200, 3, none⟩ (.string t204)) = wq2 at *
                          clear hqu0 hpu0 hqu1 hpu1 hqu2 hpu2 hqu3 hpu3 hqv0 hpv0 hqv1 hpv1 hqv2 hpv2 hqv3 hpv3
                          have hq0 : wq2.cell? ⟨gb200, 0, none⟩ = some (.string t201) := (blk_cell BK200.out 0).trans rfl
                          have hp0 := blk_frozen BK200.out 0
                          go_upto_region 15 with (fail)
                          have n0_ : Aside0 (Kd.R k43 43 (wq2.setCell ⟨gb200, 0, none⟩ (.string t197)) w.heap.size _ _ x5_1) := Aside0.mk (Kd.R_far (p := ⟨gb200, 0, none⟩) HO_5.out (fun _ hk => hk.1) (.string t197))
                          have n1_ : Aside0 ((wq2.setCell ⟨gb200, 0, none⟩ (.string t197)).heap[gb200]? = some (.cells #[.string t197, .int .i64 t202, .int .i64 t203, .string t204] 43 (0, 0))) := Aside0.mk (blk_put (cs := #[.string t201, .int .i64 t202, .int .i64 t203, .string t204]) BK200.out 0 (.string t197) rfl)
                          have n3_ : Aside0 (Below w.heap.size w (wq2.setCell ⟨gb200, 0, none⟩ (.string t197))) := Aside0.mk (below_set HB.out GE200.out)
                          clear HO_5; clear BK200; clear BK207; clear HB; clear hq0 hp0; have HO_5 := n0_; have BK200 := n1_; have HB := n3_; clear n0_ n1_ n3_
                          generalize (wq2.setCell ⟨gb200, 0, none⟩ (.string t197)) = wq3 at *
                          have hq0 : wq3.cell? ⟨gb200, 0, none⟩ = some (.string t197) := (blk_cell BK200.out 0).trans rfl
                          have hq1 : wq3.cell? ⟨gb200, 1, none⟩ = some (.int .i64 t202) := (blk_cell BK200.out 1).trans rfl
                          have hq2 : wq3.cell? ⟨gb200, 2, none⟩ = some (.int .i64 t203) := (blk_cell BK200.out 2).trans rfl
                          have hq3 : wq3.cell? ⟨gb200, 3, none⟩ = some (.string t204) := (blk_cell BK200.out 3).trans rfl
                          go_wp2_with (first | ((with_reducible refine gate_callee (f := 33) rfl ?_); refine goesL_ (some 57) rfl rfl Tryz.func33 (by kernel_rfl) rfl #[.slice Ao27 x5_1.length co27, .agg #[.string t197, .int .i64 t202, .int .i64 t203, .string t204]] rfl (by (try simp only [List.map_toArray, List.map_cons, List.map_nil]); first | done | rfl | (simp only [List.length_drop, List.length_take]; rfl)) ?_; (with_reducible refine (glacisref05_With.calls kj10 _ _ x5_1 t197 t202 t203 t204 t208 _ ?side1 ?side2 A21.out).mono ?_); (case side1 => exact (Kd.R_reads' HO_5.out).2.2); (case side2 => exact (Kd.R_reads' HO_5.out).2.1); rintro e w28 ⟨v209, rfl, ho0, hb⟩; refine ⟨_, rfl, ?_⟩; have HO210 := Aside0.mk (Kd.R_lower ho0 HB.out.size); have n4_ := Aside0.mk (below_step HB.out hb); clear HO_5; clear HB; have HB := n4_; clear n4_; (try clear hb); (try clear hk); (try clear hi); (try clear ho0)))
                          go_roundg kj10
                          case measure => have := HK1.out; have := HJ1.out; have := HJ10.out; omega
                          case rel => exact ⟨(t205), (t208), (by first | rfl | (simp; done) | (simp [*]; done) | (simp [q_ne_nil]; done)), H', ⟨by have := HK1.out; have := HJ1.out; have := HJ10.out; omega⟩, ⟨by (with_reducible repeat (first | apply Kd.R_alloc | apply Kd.R_drewN | apply Kd.R_drew)); exact Kd.R_mono HO210.out (fun _ hk => trivial)⟩, ⟨by repeat (first | (with_reducible first | exact HB.out | apply below_alloc | apply pw_below_drewN | apply below_drew1 | refine below_set ?_ GE200.out | refine below_set ?_ GE207.out) | exact HB.out)⟩⟩
                        · replace c20 := Bool.eq_false_iff.mpr c20
                          subst c20
                          have H1 : (some (([] : List (S43)), (⟨#[]⟩ : ByteArray), 50)) = some (r1, r2, r3) := by rw [if_neg (show ¬ (false = true) by decide)] at H; exact H
                          clear H
                          have H := H1
                          clear H1
                          simp only [Option.some.injEq, Prod.mk.injEq] at H
                          obtain ⟨rfl, rfl, rfl⟩ := H
                          go_wp2_with (first | ((with_reducible refine gate_callee (f := 30) rfl ?_); refine goesL_ (some 45) rfl rfl Tryz.func30 (by kernel_rfl) rfl #[.string (t198.extract 1 t198.size)] rfl (by (try simp only [List.map_toArray, List.map_cons, List.map_nil]); first | done | rfl | (simp only [List.length_drop, List.length_take]; rfl)) ?_; (with_reducible refine (glacisref05_value.calls kj10 (t198.extract 1 t198.size) t201 t202 t203 t204 t205 false _ A19.out).mono ?_); rintro e w29 ⟨rfl, hb⟩; refine ⟨_, rfl, ?_⟩; have n0_ := Aside0.mk (Kd.R_below (by (with_reducible repeat (first | apply Kd.R_alloc | apply Kd.R_drewN | apply Kd.R_drew)); exact HO_5.out) hb); have n1_ := Aside0.mk (blk_below (g := gb200) (o := .cells #[.string (⟨#[]⟩ : ByteArray), .int .i64 6, .int .i64 1, .string (⟨#[]⟩ : ByteArray)] 43 (0, 0)) (by (with_reducible repeat (first | refine blk_drewN ?_ _ | refine blk_drew ?_ | refine blk_alloc ?_ _)); exact BK200.out) hb); have n2_ := Aside0.mk (below_step (by repeat (first | (with_reducible first | exact HB.out | apply below_alloc | apply pw_below_drewN | apply below_drew1 | refine below_set ?_ GE200.out) | exact HB.out)) hb); clear HO_5; clear BK200; clear HB; have HO_5 := n0_; have BK200 := n1_; have HB := n2_; clear n0_ n1_ n2_; (try clear hb); (try clear hb2); (try clear hk); (try clear hi)) | ((with_reducible refine gate_dst (N := 10) rfl ?_); refine box_event ?hg (N := 10) ?hd (cs := #[.string (⟨#[]⟩ : ByteArray), .int .i64 0, .int .i64 0, .string (⟨#[]⟩ : ByteArray)]) (t := 43) ?hr ?_; (case hd => rfl); (case hg => rfl); (case hr => first | (go_simp; done) | (go_simp; rfl)); intro gb207 hg w30 hbox hb; have n0_ := Aside0.mk (Kd.R_below (Kd.R_elderB (by (with_reducible repeat (first | apply Kd.R_alloc | apply Kd.R_drewN | apply Kd.R_drew)); exact HO_5.out) gb207 (Nat.le_of_eq hg.symm)) hb); have n1_ := Aside0.mk (blk_below (g := gb200) (o := .cells #[.string (⟨#[]⟩ : ByteArray), .int .i64 6, .int .i64 1, .string (⟨#[]⟩ : ByteArray)] 43 (0, 0)) (by (with_reducible repeat (first | refine blk_drewN ?_ _ | refine blk_drew ?_ | refine blk_alloc ?_ _)); exact BK200.out) hb); have n2_ := Aside0.mk (below_step (by repeat (first | (with_reducible first | exact HB.out | apply below_alloc | apply pw_below_drewN | apply below_drew1 | refine below_set ?_ GE200.out) | exact HB.out)) hb); have n3_ := Aside0.mk (hbox); have n4_ := Aside0.mk ((by rw [hg]; exact (below_size (by repeat (first | (with_reducible first | exact HB.out | apply below_alloc | apply pw_below_drewN | apply below_drew1 | refine below_set ?_ GE200.out) | exact HB.out))) : w.heap.size ≤ gb207)); have n5_ := Aside0.mk ((by rw [hg]; exact (below_size (by repeat (first | (with_reducible first | exact HB.out | apply below_alloc | apply pw_below_drewN | apply below_drew1 | refine below_set ?_ GE200.out) | exact HB.out))) : w.heap.size ≤ gb207)); have n6_ := Aside0.mk ((by rw [hg]; exact Nat.ne_of_lt (blk_lt (g := gb200) (o := .cells #[.string (⟨#[]⟩ : ByteArray), .int .i64 6, .int .i64 1, .string (⟨#[]⟩ : ByteArray)] 43 (0, 0)) (by (with_reducible repeat (first | refine blk_drewN ?_ _ | refine blk_drew ?_ | refine blk_alloc ?_ _)); exact BK200.out)) : gb200 ≠ gb207)); have n7_ := Aside0.mk ((by rw [hg]; exact Nat.ne_of_gt (blk_lt (g := gb200) (o := .cells #[.string (⟨#[]⟩ : ByteArray), .int .i64 6, .int .i64 1, .string (⟨#[]⟩ : ByteArray)] 43 (0, 0)) (by (with_reducible repeat (first | refine blk_drewN ?_ _ | refine blk_drew ?_ | refine blk_alloc ?_ _)); exact BK200.out)) : gb207 ≠ gb200)); clear HO_5; clear BK200; clear HB; have HO_5 := n0_; have BK200 := n1_; have HB := n2_; have BK207 := n3_; have GW207 := n4_; have GE207 := n5_; have NB200_207 := n6_; have NB207_200 := n7_; clear n0_ n1_ n2_ n3_ n4_ n5_ n6_ n7_; clear hb hbox hg; have hnb31 := NB207_200.out; have hnc31 := NB200_207.out; have hcz32_0 : w30.cell? ⟨gb207, 0, none⟩ = some (.string (⟨#[]⟩ : ByteArray)) := (blk_cell BK207.out 0).trans rfl; have hcz32_1 : w30.cell? ⟨gb207, 1, none⟩ = some (.int .i64 0) := (blk_cell BK207.out 1).trans rfl; have hcz32_2 : w30.cell? ⟨gb207, 2, none⟩ = some (.int .i64 0) := (blk_cell BK207.out 2).trans rfl; have hcz32_3 : w30.cell? ⟨gb207, 3, none⟩ = some (.string (⟨#[]⟩ : ByteArray)) := (blk_cell BK207.out 3).trans rfl; have hfz32_0 := blk_frozen BK207.out 0; have hfz32_1 := blk_frozen BK207.out 1; have hfz32_2 := blk_frozen BK207.out 2; have hfz32_3 := blk_frozen BK207.out 3))
                          go_ret3
                          exact ⟨_, by first | rfl | (simp [errW_none, errW_some] <;> rfl) | (simp [*, errW_none, errW_some] <;> rfl) | (simp [q_ne_nil]; done), by first | exact Kd.R_nil _ _ _ _ _ | exact Kd.N_nil _ _ _ _ _ | exact Kd.V_nil _ _ _ _ _ | exact Kd.Q_nil _ _ _ _ _ | exact Kd.S_nil _ _ _ _ _, by repeat (first | (with_reducible first | exact HB.out | apply below_alloc | apply pw_below_drewN | apply below_drew1 | refine below_set ?_ GE200.out | refine below_set ?_ GE207.out) | exact HB.out)⟩
                      · rw [if_neg c18] at H
                        exact absurd H (by simp)
                    · replace c17 := Bool.eq_false_iff.mpr c17
                      subst c17
                      have H1 : ((glacisref05_With.f kj10 x5_1 t197 6 1 (⟨#[]⟩ : ByteArray)).bind fun t211 => (glacisref05_Params.l0 kj10 t198 t211)) = some (r1, r2, r3) := by rw [if_neg (show ¬ (false = true) by decide)] at H; exact H
                      clear H
                      have H := H1
                      clear H1
                      replace H := Option.bind_eq_some_iff.mp H
                      obtain ⟨t211, A330, H⟩ := H
                      replace H : (glacisref05_Params.l0 kj10 t198 t211) = some (r1, r2, r3) := H
                      have A33 := Aside0.mk A330
                      clear A330
                      have H' := Aside0.mk H
                      clear H
                      have hcz34_0 : wc.cell? ⟨gb200, 0, none⟩ = some (.string (⟨#[]⟩ : ByteArray)) := (blk_cell BK200.out 0).trans rfl
                      have hcz34_1 : wc.cell? ⟨gb200, 1, none⟩ = some (.int .i64 6) := (blk_cell BK200.out 1).trans rfl
                      have hcz34_2 : wc.cell? ⟨gb200, 2, none⟩ = some (.int .i64 1) := (blk_cell BK200.out 2).trans rfl
                      have hcz34_3 : wc.cell? ⟨gb200, 3, none⟩ = some (.string (⟨#[]⟩ : ByteArray)) := (blk_cell BK200.out 3).trans rfl
                      have hfz34_0 := blk_frozen BK200.out 0
                      have hfz34_1 := blk_frozen BK200.out 1
                      have hfz34_2 := blk_frozen BK200.out 2
                      have hfz34_3 := blk_frozen BK200.out 3
                      obtain ⟨Ao35, co35, eo35⟩ := Kd.R_slice HO_5.out
                      subst eo35
                      go_wp2_with (first | ((with_reducible refine gate_callee (f := 33) rfl ?_); refine goesL_ (some 57) rfl rfl Tryz.func33 (by kernel_rfl) rfl #[.slice Ao35 x5_1.length co35, .agg #[.string t197, .int .i64 6, .int .i64 1, .string (⟨#[]⟩ : ByteArray)]] rfl (by (try simp only [List.map_toArray, List.map_cons, List.map_nil]); first | done | rfl | (simp only [List.length_drop, List.length_take]; rfl)) ?_; (with_reducible refine (glacisref05_With.calls kj10 _ _ x5_1 t197 6 1 (⟨#[]⟩ : ByteArray) t211 _ ?side1 ?side2 A33.out).mono ?_); (case side1 => refine (Kd.R_reads' (e := 43) (base := w.heap.size) (ok := fun k_ => k_ ≠ gb200) (n := x5_1.length) (c := co35) ?_).2.2; exact (by (with_reducible repeat (first | apply Kd.R_alloc | apply Kd.R_drewN | apply Kd.R_drew)); exact (Kd.R_mono (Kd.R_far (p := ⟨gb200, 0, none⟩) (Kd.R_mono HO_5.out (fun k_ hk => (⟨hk, hk⟩ : _ ∧ k_ ≠ gb200))) (fun _ hk => hk.2) (.string t197)) (fun _ h_ => h_.1)))); (case side2 => exact (Kd.R_reads' HO_5.out).2.1); rintro e w36 ⟨v212, rfl, ho0, hb⟩; refine ⟨_, rfl, ?_⟩; have n0_ := Aside0.mk (Kd.R_elder' (by (with_reducible repeat (first | apply Kd.R_alloc | apply Kd.R_drewN | apply Kd.R_drew)); exact (Kd.R_mono (Kd.R_far (p := ⟨gb200, 0, none⟩) (Kd.R_mono HO_5.out (fun k_ hk => (⟨hk, hk⟩ : _ ∧ k_ ≠ gb200))) (fun _ hk => hk.2) (.string t197)) (fun _ h_ => h_.1))) (Kd.R_base ho0) hb); have n1_ := Aside0.mk (Kd.R_lower (Kd.R_newB (Kd.R_new' ho0 (Kd.R_lt (by (with_reducible repeat (first | apply Kd.R_alloc | apply Kd.R_drewN | apply Kd.R_drew)); exact (Kd.R_mono (Kd.R_far (p := ⟨gb200, 0, none⟩) (Kd.R_mono HO_5.out (fun k_ hk => (⟨hk, hk⟩ : _ ∧ k_ ≠ gb200))) (fun _ hk => hk.2) (.string t197)) (fun _ h_ => h_.1))))) (g := gb200) (o := .cells #[.string t197, .int .i64 6, .int .i64 1, .string (⟨#[]⟩ : ByteArray)] 43 (0, 0)) (by (with_reducible repeat (first | refine blk_drewN ?_ _ | refine blk_drew ?_ | refine blk_alloc ?_ _)); refine blk_put (cs := #[.string (⟨#[]⟩ : ByteArray), .int .i64 6, .int .i64 1, .string (⟨#[]⟩ : ByteArray)]) ?_ 0 _ rfl; (with_reducible repeat (first | refine blk_drewN ?_ _ | refine blk_drew ?_ | refine blk_alloc ?_ _)); exact BK200.out)) (below_size (by repeat (first | (with_reducible first | exact HB.out | apply below_alloc | apply pw_below_drewN | apply below_drew1 | refine below_set ?_ GE200.out) | exact HB.out)))); have n2_ := Aside0.mk (blk_below (g := gb200) (o := .cells #[.string t197, .int .i64 6, .int .i64 1, .string (⟨#[]⟩ : ByteArray)] 43 (0, 0)) (by (with_reducible repeat (first | refine blk_drewN ?_ _ | refine blk_drew ?_ | refine blk_alloc ?_ _)); refine blk_put (cs := #[.string (⟨#[]⟩ : ByteArray), .int .i64 6, .int .i64 1, .string (⟨#[]⟩ : ByteArray)]) ?_ 0 _ rfl; (with_reducible repeat (first | refine blk_drewN ?_ _ | refine blk_drew ?_ | refine blk_alloc ?_ _)); exact BK200.out) hb); have n3_ := Aside0.mk (below_step (by repeat (first | (with_reducible first | exact HB.out | apply below_alloc | apply pw_below_drewN | apply below_drew1 | refine below_set ?_ GE200.out) | exact HB.out)) hb); clear HO_5; clear BK200; clear HB; have HO_5 := n0_; have HO213 := n1_; have BK200 := n2_; have HB := n3_; clear n0_ n1_ n2_ n3_; (try clear hb); (try clear hb2); (try clear hk); (try clear hi); (try clear ho0)))
                      go_roundg kj10
                      case measure => have := HK1.out; have := HJ1.out; have := HJ10.out; omega
                      case rel => exact ⟨(t198), (t211), (by first | rfl | (simp; done) | (simp [*]; done) | (simp [q_ne_nil]; done)), H', ⟨by have := HK1.out; have := HJ1.out; have := HJ10.out; omega⟩, ⟨by (with_reducible repeat (first | apply Kd.R_alloc | apply Kd.R_drewN | apply Kd.R_drew)); exact Kd.R_mono HO213.out (fun _ hk => trivial)⟩, ⟨by repeat (first | (with_reducible first | exact HB.out | apply below_alloc | apply pw_below_drewN | apply below_drew1 | refine below_set ?_ GE200.out) | exact HB.out)⟩⟩
              · rw [if_neg c10] at H
                have c10b0 : (t199 == 0) = false := beq_eq_false_iff_ne.mpr c10
                have c10b1 : (t199 != 0) = true := bne_iff_ne.mpr c10
                simp only [Option.some.injEq, Prod.mk.injEq] at H
                obtain ⟨rfl, rfl, rfl⟩ := H
                go_wp2_with (first | ((with_reducible refine gate_callee (f := 32) rfl ?_); refine goesL_ (some 24) rfl rfl Tryz.func32 (by kernel_rfl) rfl #[.string (x0_1.extract 1 x0_1.size)] rfl (by (try simp only [List.map_toArray, List.map_cons, List.map_nil]); first | done | rfl | (simp only [List.length_drop, List.length_take]; rfl)) ?_; (with_reducible refine (glacisref05_Blank.calls kj1 (x0_1.extract 1 x0_1.size) t196 _ A8.out).mono ?_); rintro e w' ⟨rfl, ⟨nd, rfl⟩⟩; refine ⟨_, rfl, ?_⟩) | ((with_reducible refine gate_callee (f := 21) rfl ?_); refine goesL_ (some 25) rfl rfl Tryz.func21 (by kernel_rfl) rfl #[.string t196] rfl (by (try simp only [List.map_toArray, List.map_cons, List.map_nil]); first | done | rfl | (simp only [List.length_drop, List.length_take]; rfl)) ?_; (with_reducible refine (glacisref05_Key.calls kj1 t196 t197 t198 t199 _ A9.out).mono ?_); rintro e w' ⟨rfl, ⟨nd, rfl⟩⟩; refine ⟨_, rfl, ?_⟩))
                go_ret3
                exact ⟨_, by first | rfl | (simp [errW_none, errW_some] <;> rfl) | (simp [*, errW_none, errW_some] <;> rfl) | (simp [q_ne_nil]; done), by first | exact Kd.R_nil _ _ _ _ _ | exact Kd.N_nil _ _ _ _ _ | exact Kd.V_nil _ _ _ _ _ | exact Kd.Q_nil _ _ _ _ _ | exact Kd.S_nil _ _ _ _ _, by repeat (first | (with_reducible first | exact HB.out | apply below_alloc | apply pw_below_drewN | apply below_drew1) | exact HB.out)⟩
            · rw [if_neg c7] at H
              exact absurd H (by simp)
          · replace c6 := Bool.eq_false_iff.mpr c6
            subst c6
            have H1 : (some (x5_1, x0_1, 0)) = some (r1, r2, r3) := by rw [if_neg (show ¬ (false = true) by decide)] at H; exact H
            clear H
            have H := H1
            clear H1
            simp only [Option.some.injEq, Prod.mk.injEq] at H
            obtain ⟨rfl, rfl, rfl⟩ := H
            go_wp2
            go_ret3
            exact ⟨_, by first | rfl | (simp [errW_none, errW_some] <;> rfl) | (simp [*, errW_none, errW_some] <;> rfl) | (simp [q_ne_nil]; done), by (with_reducible repeat (first | apply Kd.R_alloc | apply Kd.R_drewN | apply Kd.R_drew)); exact HO_5.out, by repeat (first | (with_reducible first | exact HB.out | apply below_alloc | apply pw_below_drewN | apply below_drew1) | exact HB.out)⟩
def glacisref05_Next.f (k : Nat) (a0 : ByteArray) : Option (Int × Int × ByteArray × (List (S43)) × ByteArray × Int) := (glacisref05_value.f k a0).bind fun bt215 => (if bt215.2.2.2.2.2 = true then ((glacisref05_Params.f k bt215.2.2.2.2.1).bind fun bt222 => (if bt222.2.2 = 0 then (some (bt215.2.1, bt215.2.2.1, bt215.2.2.2.1, bt222.1, bt222.2.1, 0)) else (some (0, 0, (⟨#[]⟩ : ByteArray), ([] : List (S43)), (⟨#[]⟩ : ByteArray), bt222.2.2)))) else (some (0, 0, (⟨#[]⟩ : ByteArray), ([] : List (S43)), (⟨#[]⟩ : ByteArray), 50)))
set_option maxHeartbeats 8000000 in
set_option maxRecDepth 100000 in
theorem glacisref05_Next.calls (k : Nat) (a0 : ByteArray) (r1 : Int) (r2 : Int) (r3 : ByteArray) (r4 : List (S43)) (r5 : ByteArray) (r6 : Int) (w : World) (h : glacisref05_Next.f k a0 = some (r1, r2, r3, r4, r5, r6)) :
    Calls Tryz.prog 16 #[.string a0] w fun e w' => ∃ v3_ : Value, e = .returned (.tuple #[.agg #[.int .i64 r1, .int .i64 r2, .string r3, v3_], .string r5, .int .i64 r6]) ∧ Kd.R k43 43 w' w.heap.size (fun _ => True) v3_ r4 ∧ Below w.heap.size w w' := by
  have hu25 := Tryz.underlying25
  have hu43 := Tryz.underlying43
  have HB := Aside0.mk (Below.refl w.heap.size w)
  have H : ((glacisref05_value.f k a0).bind fun bt215 => (if bt215.2.2.2.2.2 = true then ((glacisref05_Params.f k bt215.2.2.2.2.1).bind fun bt222 => (if bt222.2.2 = 0 then (some (bt215.2.1, bt215.2.2.1, bt215.2.2.2.1, bt222.1, bt222.2.1, 0)) else (some (0, 0, (⟨#[]⟩ : ByteArray), ([] : List (S43)), (⟨#[]⟩ : ByteArray), bt222.2.2)))) else (some (0, 0, (⟨#[]⟩ : ByteArray), ([] : List (S43)), (⟨#[]⟩ : ByteArray), 50)))) = some (r1, r2, r3, r4, r5, r6) := h
  clear h
  replace H := Option.bind_eq_some_iff.mp H
  obtain ⟨⟨t215, t216, t217, t218, t219, t220⟩, A20, H⟩ := H
  replace H : (if t220 = true then ((glacisref05_Params.f k t219).bind fun bt222 => (if bt222.2.2 = 0 then (some (t216, t217, t218, bt222.1, bt222.2.1, 0)) else (some (0, 0, (⟨#[]⟩ : ByteArray), ([] : List (S43)), (⟨#[]⟩ : ByteArray), bt222.2.2)))) else (some (0, 0, (⟨#[]⟩ : ByteArray), ([] : List (S43)), (⟨#[]⟩ : ByteArray), 50))) = some (r1, r2, r3, r4, r5, r6) := H
  have A2 := Aside0.mk A20
  clear A20
  by_cases c3 : t220 = true
  · subst c3
    have H1 : ((glacisref05_Params.f k t219).bind fun bt222 => (if bt222.2.2 = 0 then (some (t216, t217, t218, bt222.1, bt222.2.1, 0)) else (some (0, 0, (⟨#[]⟩ : ByteArray), ([] : List (S43)), (⟨#[]⟩ : ByteArray), bt222.2.2)))) = some (r1, r2, r3, r4, r5, r6) := by rw [if_pos rfl] at H; exact H
    clear H
    have H := H1
    clear H1
    replace H := Option.bind_eq_some_iff.mp H
    obtain ⟨⟨t222, t223, t224⟩, A40, H⟩ := H
    replace H : (if t224 = 0 then (some (t216, t217, t218, t222, t223, 0)) else (some (0, 0, (⟨#[]⟩ : ByteArray), ([] : List (S43)), (⟨#[]⟩ : ByteArray), t224))) = some (r1, r2, r3, r4, r5, r6) := H
    have A4 := Aside0.mk A40
    clear A40
    by_cases c5 : t224 = 0
    · rw [if_pos c5] at H
      have c5b0 : (t224 == 0) = true := beq_iff_eq.mpr c5
      have c5b1 : (t224 != 0) = false := bne_eq_false_iff_eq.mpr c5
      clear c5
      simp only [Option.some.injEq, Prod.mk.injEq] at H
      obtain ⟨rfl, rfl, rfl, rfl, rfl, rfl⟩ := H
      go_enter Tryz.func16, Tryz.ntmps16
      go_wp2_with (first | ((with_reducible refine gate_dst (N := 2) rfl ?_); refine box_event ?hg (N := 2) ?hd (cs := #[.int .i64 0, .int .i64 0, .string (⟨#[]⟩ : ByteArray), .slice none 0 0]) (t := 25) ?hr ?_; (case hd => rfl); (case hg => rfl); (case hr => first | (go_simp; done) | (go_simp; rfl)); intro gb214 hg w6 hbox hb; have n0_ := Aside0.mk (below_step (by repeat (first | (with_reducible first | exact HB.out | apply below_alloc | apply pw_below_drewN | apply below_drew1) | exact HB.out)) hb); have n1_ := Aside0.mk (hbox); have n2_ := Aside0.mk ((by rw [hg]; exact (below_size (by repeat (first | (with_reducible first | exact HB.out | apply below_alloc | apply pw_below_drewN | apply below_drew1) | exact HB.out))) : w.heap.size ≤ gb214)); have n3_ := Aside0.mk ((by rw [hg]; exact (below_size (by repeat (first | (with_reducible first | exact HB.out | apply below_alloc | apply pw_below_drewN | apply below_drew1) | exact HB.out))) : w.heap.size ≤ gb214)); clear HB; have HB := n0_; have BK214 := n1_; have GW214 := n2_; have GE214 := n3_; clear n0_ n1_ n2_ n3_; clear hb hbox hg) | ((with_reducible refine gate_callee (f := 30) rfl ?_); refine goesL_ (some 12) rfl rfl Tryz.func30 (by kernel_rfl) rfl #[.string a0] rfl (by (try simp only [List.map_toArray, List.map_cons, List.map_nil]); first | done | rfl | (simp only [List.length_drop, List.length_take]; rfl)) ?_; (with_reducible refine (glacisref05_value.calls k a0 t215 t216 t217 t218 t219 true _ A2.out).mono ?_); rintro e w7 ⟨rfl, hb⟩; refine ⟨_, rfl, ?_⟩; have n0_ := Aside0.mk (blk_below (g := gb214) (o := .cells #[.int .i64 0, .int .i64 0, .string (⟨#[]⟩ : ByteArray), .slice none 0 0] 25 (0, 0)) (by (with_reducible repeat (first | refine blk_drewN ?_ _ | refine blk_drew ?_ | refine blk_alloc ?_ _)); exact BK214.out) hb); have n1_ := Aside0.mk (below_step (by repeat (first | (with_reducible first | exact HB.out | apply below_alloc | apply pw_below_drewN | apply below_drew1 | refine below_set ?_ GE214.out) | exact HB.out)) hb); clear BK214; clear HB; have BK214 := n0_; have HB := n1_; clear n0_ n1_; (try clear hb); (try clear hb2); (try clear hk); (try clear hi)) | ((with_reducible refine gate_dst (N := 5) rfl ?_); refine box_event ?hg (N := 5) ?hd (cs := #[.string (⟨#[]⟩ : ByteArray), .int .i64 0, .int .i64 0, .string (⟨#[]⟩ : ByteArray)]) (t := 43) ?hr ?_; (case hd => rfl); (case hg => rfl); (case hr => first | (go_simp; done) | (go_simp; rfl)); intro gb221 hg w8 hbox hb; have n0_ := Aside0.mk (blk_below (g := gb214) (o := .cells #[.int .i64 0, .int .i64 0, .string (⟨#[]⟩ : ByteArray), .slice none 0 0] 25 (0, 0)) (by (with_reducible repeat (first | refine blk_drewN ?_ _ | refine blk_drew ?_ | refine blk_alloc ?_ _)); exact BK214.out) hb); have n1_ := Aside0.mk (below_step (by repeat (first | (with_reducible first | exact HB.out | apply below_alloc | apply pw_below_drewN | apply below_drew1 | refine below_set ?_ GE214.out) | exact HB.out)) hb); have n2_ := Aside0.mk (hbox); have n3_ := Aside0.mk ((by rw [hg]; exact (below_size (by repeat (first | (with_reducible first | exact HB.out | apply below_alloc | apply pw_below_drewN | apply below_drew1 | refine below_set ?_ GE214.out) | exact HB.out))) : w.heap.size ≤ gb221)); have n4_ := Aside0.mk ((by rw [hg]; exact (below_size (by repeat (first | (with_reducible first | exact HB.out | apply below_alloc | apply pw_below_drewN | apply below_drew1 | refine below_set ?_ GE214.out) | exact HB.out))) : w.heap.size ≤ gb221)); have n5_ := Aside0.mk ((by rw [hg]; exact Nat.ne_of_lt (blk_lt (g := gb214) (o := .cells #[.int .i64 0, .int .i64 0, .string (⟨#[]⟩ : ByteArray), .slice none 0 0] 25 (0, 0)) (by (with_reducible repeat (first | refine blk_drewN ?_ _ | refine blk_drew ?_ | refine blk_alloc ?_ _)); exact BK214.out)) : gb214 ≠ gb221)); have n6_ := Aside0.mk ((by rw [hg]; exact Nat.ne_of_gt (blk_lt (g := gb214) (o := .cells #[.int .i64 0, .int .i64 0, .string (⟨#[]⟩ : ByteArray), .slice none 0 0] 25 (0, 0)) (by (with_reducible repeat (first | refine blk_drewN ?_ _ | refine blk_drew ?_ | refine blk_alloc ?_ _)); exact BK214.out)) : gb221 ≠ gb214)); clear BK214; clear HB; have BK214 := n0_; have HB := n1_; have BK221 := n2_; have GW221 := n3_; have GE221 := n4_; have NB214_221 := n5_; have NB221_214 := n6_; clear n0_ n1_ n2_ n3_ n4_ n5_ n6_; clear hb hbox hg; have hnb9 := NB221_214.out; have hnc9 := NB214_221.out; have hcz10_0 : w8.cell? ⟨gb221, 0, none⟩ = some (.string (⟨#[]⟩ : ByteArray)) := (blk_cell BK221.out 0).trans rfl; have hcz10_1 : w8.cell? ⟨gb221, 1, none⟩ = some (.int .i64 0) := (blk_cell BK221.out 1).trans rfl; have hcz10_2 : w8.cell? ⟨gb221, 2, none⟩ = some (.int .i64 0) := (blk_cell BK221.out 2).trans rfl; have hcz10_3 : w8.cell? ⟨gb221, 3, none⟩ = some (.string (⟨#[]⟩ : ByteArray)) := (blk_cell BK221.out 3).trans rfl; have hfz10_0 := blk_frozen BK221.out 0; have hfz10_1 := blk_frozen BK221.out 1; have hfz10_2 := blk_frozen BK221.out 2; have hfz10_3 := blk_frozen BK221.out 3) | ((with_reducible refine gate_callee (f := 18) rfl ?_); refine goesL_ (some 21) rfl rfl Tryz.func18 (by kernel_rfl) rfl #[.string t219] rfl (by (try simp only [List.map_toArray, List.map_cons, List.map_nil]); first | done | rfl | (simp only [List.length_drop, List.length_take]; rfl)) ?_; (with_reducible refine (glacisref05_Params.calls k t219 t222 t223 t224 _ A4.out).mono ?_); rintro e w11 ⟨v225, rfl, ho0, hb⟩; refine ⟨_, rfl, ?_⟩; have n0_ := Aside0.mk (Kd.R_lower (Kd.R_newB ho0 (g := gb221) (o := .cells #[.string t215, .int .i64 t216, .int .i64 t217, .string t218] 43 (0, 0)) (by (with_reducible repeat (first | refine blk_drewN ?_ _ | refine blk_drew ?_ | refine blk_alloc ?_ _)); refine blk_put (cs := #[.string t215, .int .i64 t216, .int .i64 t217, .string (⟨#[]⟩ : ByteArray)]) ?_ 3 _ rfl; (with_reducible repeat (first | refine blk_drewN ?_ _ | refine blk_drew ?_ | refine blk_alloc ?_ _)); refine blk_put (cs := #[.string t215, .int .i64 t216, .int .i64 0, .string (⟨#[]⟩ : ByteArray)]) ?_ 2 _ rfl; (with_reducible repeat (first | refine blk_drewN ?_ _ | refine blk_drew ?_ | refine blk_alloc ?_ _)); refine blk_put (cs := #[.string t215, .int .i64 0, .int .i64 0, .string (⟨#[]⟩ : ByteArray)]) ?_ 1 _ rfl; (with_reducible repeat (first | refine blk_drewN ?_ _ | refine blk_drew ?_ | refine blk_alloc ?_ _)); refine blk_put (cs := #[.string (⟨#[]⟩ : ByteArray), .int .i64 0, .int .i64 0, .string (⟨#[]⟩ : ByteArray)]) ?_ 0 _ rfl; (with_reducible repeat (first | refine blk_drewN ?_ _ | refine blk_drew ?_ | refine blk_alloc ?_ _)); exact BK221.out)) (below_size (by repeat (first | (with_reducible first | exact HB.out | apply below_alloc | apply pw_below_drewN | apply below_drew1 | refine below_set ?_ GE214.out | refine below_set ?_ GE221.out) | exact HB.out)))); have n1_ := Aside0.mk (blk_below (g := gb214) (o := .cells #[.int .i64 0, .int .i64 0, .string (⟨#[]⟩ : ByteArray), .slice none 0 0] 25 (0, 0)) (by (with_reducible repeat (first | refine blk_drewN ?_ _ | refine blk_drew ?_ | refine blk_alloc ?_ _)); refine blk_far ?_ NB214_221.out _; (with_reducible repeat (first | refine blk_drewN ?_ _ | refine blk_drew ?_ | refine blk_alloc ?_ _)); refine blk_far ?_ NB214_221.out _; (with_reducible repeat (first | refine blk_drewN ?_ _ | refine blk_drew ?_ | refine blk_alloc ?_ _)); refine blk_far ?_ NB214_221.out _; (with_reducible repeat (first | refine blk_drewN ?_ _ | refine blk_drew ?_ | refine blk_alloc ?_ _)); refine blk_far ?_ NB214_221.out _; (with_reducible repeat (first | refine blk_drewN ?_ _ | refine blk_drew ?_ | refine blk_alloc ?_ _)); exact BK214.out) hb); have n2_ := Aside0.mk (blk_below (g := gb221) (o := .cells #[.string t215, .int .i64 t216, .int .i64 t217, .string t218] 43 (0, 0)) (by (with_reducible repeat (first | refine blk_drewN ?_ _ | refine blk_drew ?_ | refine blk_alloc ?_ _)); refine blk_put (cs := #[.string t215, .int .i64 t216, .int .i64 t217, .string (⟨#[]⟩ : ByteArray)]) ?_ 3 _ rfl; (with_reducible repeat (first | refine blk_drewN ?_ _ | refine blk_drew ?_ | refine blk_alloc ?_ _)); refine blk_put (cs := #[.string t215, .int .i64 t216, .int .i64 0, .string (⟨#[]⟩ : ByteArray)]) ?_ 2 _ rfl; (with_reducible repeat (first | refine blk_drewN ?_ _ | refine blk_drew ?_ | refine blk_alloc ?_ _)); refine blk_put (cs := #[.string t215, .int .i64 0, .int .i64 0, .string (⟨#[]⟩ : ByteArray)]) ?_ 1 _ rfl; (with_reducible repeat (first | refine blk_drewN ?_ _ | refine blk_drew ?_ | refine blk_alloc ?_ _)); refine blk_put (cs := #[.string (⟨#[]⟩ : ByteArray), .int .i64 0, .int .i64 0, .string (⟨#[]⟩ : ByteArray)]) ?_ 0 _ rfl; (with_reducible repeat (first | refine blk_drewN ?_ _ | refine blk_drew ?_ | refine blk_alloc ?_ _)); exact BK221.out) hb); have n3_ := Aside0.mk (below_step (by repeat (first | (with_reducible first | exact HB.out | apply below_alloc | apply pw_below_drewN | apply below_drew1 | refine below_set ?_ GE214.out | refine below_set ?_ GE221.out) | exact HB.out)) hb); clear BK214; clear BK221; clear HB; have HO226 := n0_; have BK214 := n1_; have BK221 := n2_; have HB := n3_; clear n0_ n1_ n2_ n3_; (try clear hb); (try clear hb2); (try clear hk); (try clear hi); (try clear ho0); have hcz12_0 : w11.cell? ⟨gb221, 0, none⟩ = some (.string t215) := (blk_cell BK221.out 0).trans rfl; have hcz12_1 : w11.cell? ⟨gb221, 1, none⟩ = some (.int .i64 t216) := (blk_cell BK221.out 1).trans rfl; have hcz12_2 : w11.cell? ⟨gb221, 2, none⟩ = some (.int .i64 t217) := (blk_cell BK221.out 2).trans rfl; have hcz12_3 : w11.cell? ⟨gb221, 3, none⟩ = some (.string t218) := (blk_cell BK221.out 3).trans rfl; have hfz12_0 := blk_frozen BK221.out 0; have hfz12_1 := blk_frozen BK221.out 1; have hfz12_2 := blk_frozen BK221.out 2; have hfz12_3 := blk_frozen BK221.out 3; obtain ⟨Ao13, co13, eo13⟩ := Kd.R_slice HO226.out; subst eo13; have hcz14_0 : w11.cell? ⟨gb214, 0, none⟩ = some (.int .i64 0) := (blk_cell BK214.out 0).trans rfl; have hcz14_1 : w11.cell? ⟨gb214, 1, none⟩ = some (.int .i64 0) := (blk_cell BK214.out 1).trans rfl; have hcz14_2 : w11.cell? ⟨gb214, 2, none⟩ = some (.string (⟨#[]⟩ : ByteArray)) := (blk_cell BK214.out 2).trans rfl; have hcz14_3 : w11.cell? ⟨gb214, 3, none⟩ = some (.slice none 0 0) := (blk_cell BK214.out 3).trans rfl; have hfz14_0 := blk_frozen BK214.out 0; have hfz14_1 := blk_frozen BK214.out 1; have hfz14_2 := blk_frozen BK214.out 2; have hfz14_3 := blk_frozen BK214.out 3))
      refine bodyPost_ret (results_ctt rfl _ _ gb214 25 #[.int .i64 t216, .int .i64 t217, .string t218, .slice Ao13 t222.length co13] (0, 0) _ rfl (by (with_reducible repeat (first | refine blk_drewN ?_ _ | refine blk_drew ?_ | refine blk_alloc ?_ _)); refine blk_put (cs := #[.int .i64 t216, .int .i64 t217, .string t218, .slice none 0 0]) ?_ 3 _ rfl; (with_reducible repeat (first | refine blk_drewN ?_ _ | refine blk_drew ?_ | refine blk_alloc ?_ _)); refine blk_put (cs := #[.int .i64 t216, .int .i64 t217, .string (⟨#[]⟩ : ByteArray), .slice none 0 0]) ?_ 2 _ rfl; (with_reducible repeat (first | refine blk_drewN ?_ _ | refine blk_drew ?_ | refine blk_alloc ?_ _)); refine blk_put (cs := #[.int .i64 t216, .int .i64 0, .string (⟨#[]⟩ : ByteArray), .slice none 0 0]) ?_ 1 _ rfl; (with_reducible repeat (first | refine blk_drewN ?_ _ | refine blk_drew ?_ | refine blk_alloc ?_ _)); refine blk_put (cs := #[.int .i64 0, .int .i64 0, .string (⟨#[]⟩ : ByteArray), .slice none 0 0]) ?_ 0 _ rfl; (with_reducible repeat (first | refine blk_drewN ?_ _ | refine blk_drew ?_ | refine blk_alloc ?_ _)); exact BK214.out) Tryz.underlying25 rfl (by kernel_rfl)) rfl ?_
      exact ⟨_, by first | rfl | (simp [errW_none, errW_some] <;> rfl) | (simp [*, errW_none, errW_some] <;> rfl) | (simp [q_ne_nil]; done), by (with_reducible repeat (first | apply Kd.R_alloc | apply Kd.R_drewN | apply Kd.R_drew)); exact Kd.R_mono (Kd.R_far (p := ⟨gb214, 3, none⟩) (Kd.R_far (p := ⟨gb214, 2, none⟩) (Kd.R_far (p := ⟨gb214, 1, none⟩) (Kd.R_far (p := ⟨gb214, 0, none⟩) (Kd.R_types HO226.out BK214.out (by decide)) (fun _ hk => hk.2) (.int .i64 t216)) (fun _ hk => hk.2) (.int .i64 t217)) (fun _ hk => hk.2) (.string t218)) (fun _ hk => hk.2) (.slice Ao13 t222.length co13)) (fun _ hk => trivial), by repeat (first | (with_reducible first | exact HB.out | apply below_alloc | apply pw_below_drewN | apply below_drew1 | refine below_set ?_ GE214.out | refine below_set ?_ GE221.out) | exact HB.out)⟩
    · rw [if_neg c5] at H
      have c5b0 : (t224 == 0) = false := beq_eq_false_iff_ne.mpr c5
      have c5b1 : (t224 != 0) = true := bne_iff_ne.mpr c5
      simp only [Option.some.injEq, Prod.mk.injEq] at H
      obtain ⟨rfl, rfl, rfl, rfl, rfl, rfl⟩ := H
      go_enter Tryz.func16, Tryz.ntmps16
      go_wp2_with (first | ((with_reducible refine gate_dst (N := 2) rfl ?_); refine box_event ?hg (N := 2) ?hd (cs := #[.int .i64 0, .int .i64 0, .string (⟨#[]⟩ : ByteArray), .slice none 0 0]) (t := 25) ?hr ?_; (case hd => rfl); (case hg => rfl); (case hr => first | (go_simp; done) | (go_simp; rfl)); intro gb214 hg w15 hbox hb; have n0_ := Aside0.mk (below_step (by repeat (first | (with_reducible first | exact HB.out | apply below_alloc | apply pw_below_drewN | apply below_drew1) | exact HB.out)) hb); have n1_ := Aside0.mk (hbox); have n2_ := Aside0.mk ((by rw [hg]; exact (below_size (by repeat (first | (with_reducible first | exact HB.out | apply below_alloc | apply pw_below_drewN | apply below_drew1) | exact HB.out))) : w.heap.size ≤ gb214)); have n3_ := Aside0.mk ((by rw [hg]; exact (below_size (by repeat (first | (with_reducible first | exact HB.out | apply below_alloc | apply pw_below_drewN | apply below_drew1) | exact HB.out))) : w.heap.size ≤ gb214)); clear HB; have HB := n0_; have BK214 := n1_; have GW214 := n2_; have GE214 := n3_; clear n0_ n1_ n2_ n3_; clear hb hbox hg) | ((with_reducible refine gate_callee (f := 30) rfl ?_); refine goesL_ (some 12) rfl rfl Tryz.func30 (by kernel_rfl) rfl #[.string a0] rfl (by (try simp only [List.map_toArray, List.map_cons, List.map_nil]); first | done | rfl | (simp only [List.length_drop, List.length_take]; rfl)) ?_; (with_reducible refine (glacisref05_value.calls k a0 t215 t216 t217 t218 t219 true _ A2.out).mono ?_); rintro e w16 ⟨rfl, hb⟩; refine ⟨_, rfl, ?_⟩; have n0_ := Aside0.mk (blk_below (g := gb214) (o := .cells #[.int .i64 0, .int .i64 0, .string (⟨#[]⟩ : ByteArray), .slice none 0 0] 25 (0, 0)) (by (with_reducible repeat (first | refine blk_drewN ?_ _ | refine blk_drew ?_ | refine blk_alloc ?_ _)); exact BK214.out) hb); have n1_ := Aside0.mk (below_step (by repeat (first | (with_reducible first | exact HB.out | apply below_alloc | apply pw_below_drewN | apply below_drew1 | refine below_set ?_ GE214.out) | exact HB.out)) hb); clear BK214; clear HB; have BK214 := n0_; have HB := n1_; clear n0_ n1_; (try clear hb); (try clear hb2); (try clear hk); (try clear hi)) | ((with_reducible refine gate_dst (N := 5) rfl ?_); refine box_event ?hg (N := 5) ?hd (cs := #[.string (⟨#[]⟩ : ByteArray), .int .i64 0, .int .i64 0, .string (⟨#[]⟩ : ByteArray)]) (t := 43) ?hr ?_; (case hd => rfl); (case hg => rfl); (case hr => first | (go_simp; done) | (go_simp; rfl)); intro gb221 hg w17 hbox hb; have n0_ := Aside0.mk (blk_below (g := gb214) (o := .cells #[.int .i64 0, .int .i64 0, .string (⟨#[]⟩ : ByteArray), .slice none 0 0] 25 (0, 0)) (by (with_reducible repeat (first | refine blk_drewN ?_ _ | refine blk_drew ?_ | refine blk_alloc ?_ _)); exact BK214.out) hb); have n1_ := Aside0.mk (below_step (by repeat (first | (with_reducible first | exact HB.out | apply below_alloc | apply pw_below_drewN | apply below_drew1 | refine below_set ?_ GE214.out) | exact HB.out)) hb); have n2_ := Aside0.mk (hbox); have n3_ := Aside0.mk ((by rw [hg]; exact (below_size (by repeat (first | (with_reducible first | exact HB.out | apply below_alloc | apply pw_below_drewN | apply below_drew1 | refine below_set ?_ GE214.out) | exact HB.out))) : w.heap.size ≤ gb221)); have n4_ := Aside0.mk ((by rw [hg]; exact (below_size (by repeat (first | (with_reducible first | exact HB.out | apply below_alloc | apply pw_below_drewN | apply below_drew1 | refine below_set ?_ GE214.out) | exact HB.out))) : w.heap.size ≤ gb221)); have n5_ := Aside0.mk ((by rw [hg]; exact Nat.ne_of_lt (blk_lt (g := gb214) (o := .cells #[.int .i64 0, .int .i64 0, .string (⟨#[]⟩ : ByteArray), .slice none 0 0] 25 (0, 0)) (by (with_reducible repeat (first | refine blk_drewN ?_ _ | refine blk_drew ?_ | refine blk_alloc ?_ _)); exact BK214.out)) : gb214 ≠ gb221)); have n6_ := Aside0.mk ((by rw [hg]; exact Nat.ne_of_gt (blk_lt (g := gb214) (o := .cells #[.int .i64 0, .int .i64 0, .string (⟨#[]⟩ : ByteArray), .slice none 0 0] 25 (0, 0)) (by (with_reducible repeat (first | refine blk_drewN ?_ _ | refine blk_drew ?_ | refine blk_alloc ?_ _)); exact BK214.out)) : gb221 ≠ gb214)); clear BK214; clear HB; have BK214 := n0_; have HB := n1_; have BK221 := n2_; have GW221 := n3_; have GE221 := n4_; have NB214_221 := n5_; have NB221_214 := n6_; clear n0_ n1_ n2_ n3_ n4_ n5_ n6_; clear hb hbox hg; have hnb18 := NB221_214.out; have hnc18 := NB214_221.out; have hcz19_0 : w17.cell? ⟨gb221, 0, none⟩ = some (.string (⟨#[]⟩ : ByteArray)) := (blk_cell BK221.out 0).trans rfl; have hcz19_1 : w17.cell? ⟨gb221, 1, none⟩ = some (.int .i64 0) := (blk_cell BK221.out 1).trans rfl; have hcz19_2 : w17.cell? ⟨gb221, 2, none⟩ = some (.int .i64 0) := (blk_cell BK221.out 2).trans rfl; have hcz19_3 : w17.cell? ⟨gb221, 3, none⟩ = some (.string (⟨#[]⟩ : ByteArray)) := (blk_cell BK221.out 3).trans rfl; have hfz19_0 := blk_frozen BK221.out 0; have hfz19_1 := blk_frozen BK221.out 1; have hfz19_2 := blk_frozen BK221.out 2; have hfz19_3 := blk_frozen BK221.out 3) | ((with_reducible refine gate_callee (f := 18) rfl ?_); refine goesL_ (some 21) rfl rfl Tryz.func18 (by kernel_rfl) rfl #[.string t219] rfl (by (try simp only [List.map_toArray, List.map_cons, List.map_nil]); first | done | rfl | (simp only [List.length_drop, List.length_take]; rfl)) ?_; (with_reducible refine (glacisref05_Params.calls k t219 t222 t223 t224 _ A4.out).mono ?_); rintro e w20 ⟨v225, rfl, ho0, hb⟩; refine ⟨_, rfl, ?_⟩; have n0_ := Aside0.mk (Kd.R_lower (Kd.R_newB ho0 (g := gb221) (o := .cells #[.string t215, .int .i64 t216, .int .i64 t217, .string t218] 43 (0, 0)) (by (with_reducible repeat (first | refine blk_drewN ?_ _ | refine blk_drew ?_ | refine blk_alloc ?_ _)); refine blk_put (cs := #[.string t215, .int .i64 t216, .int .i64 t217, .string (⟨#[]⟩ : ByteArray)]) ?_ 3 _ rfl; (with_reducible repeat (first | refine blk_drewN ?_ _ | refine blk_drew ?_ | refine blk_alloc ?_ _)); refine blk_put (cs := #[.string t215, .int .i64 t216, .int .i64 0, .string (⟨#[]⟩ : ByteArray)]) ?_ 2 _ rfl; (with_reducible repeat (first | refine blk_drewN ?_ _ | refine blk_drew ?_ | refine blk_alloc ?_ _)); refine blk_put (cs := #[.string t215, .int .i64 0, .int .i64 0, .string (⟨#[]⟩ : ByteArray)]) ?_ 1 _ rfl; (with_reducible repeat (first | refine blk_drewN ?_ _ | refine blk_drew ?_ | refine blk_alloc ?_ _)); refine blk_put (cs := #[.string (⟨#[]⟩ : ByteArray), .int .i64 0, .int .i64 0, .string (⟨#[]⟩ : ByteArray)]) ?_ 0 _ rfl; (with_reducible repeat (first | refine blk_drewN ?_ _ | refine blk_drew ?_ | refine blk_alloc ?_ _)); exact BK221.out)) (below_size (by repeat (first | (with_reducible first | exact HB.out | apply below_alloc | apply pw_below_drewN | apply below_drew1 | refine below_set ?_ GE214.out | refine below_set ?_ GE221.out) | exact HB.out)))); have n1_ := Aside0.mk (blk_below (g := gb214) (o := .cells #[.int .i64 0, .int .i64 0, .string (⟨#[]⟩ : ByteArray), .slice none 0 0] 25 (0, 0)) (by (with_reducible repeat (first | refine blk_drewN ?_ _ | refine blk_drew ?_ | refine blk_alloc ?_ _)); refine blk_far ?_ NB214_221.out _; (with_reducible repeat (first | refine blk_drewN ?_ _ | refine blk_drew ?_ | refine blk_alloc ?_ _)); refine blk_far ?_ NB214_221.out _; (with_reducible repeat (first | refine blk_drewN ?_ _ | refine blk_drew ?_ | refine blk_alloc ?_ _)); refine blk_far ?_ NB214_221.out _; (with_reducible repeat (first | refine blk_drewN ?_ _ | refine blk_drew ?_ | refine blk_alloc ?_ _)); refine blk_far ?_ NB214_221.out _; (with_reducible repeat (first | refine blk_drewN ?_ _ | refine blk_drew ?_ | refine blk_alloc ?_ _)); exact BK214.out) hb); have n2_ := Aside0.mk (blk_below (g := gb221) (o := .cells #[.string t215, .int .i64 t216, .int .i64 t217, .string t218] 43 (0, 0)) (by (with_reducible repeat (first | refine blk_drewN ?_ _ | refine blk_drew ?_ | refine blk_alloc ?_ _)); refine blk_put (cs := #[.string t215, .int .i64 t216, .int .i64 t217, .string (⟨#[]⟩ : ByteArray)]) ?_ 3 _ rfl; (with_reducible repeat (first | refine blk_drewN ?_ _ | refine blk_drew ?_ | refine blk_alloc ?_ _)); refine blk_put (cs := #[.string t215, .int .i64 t216, .int .i64 0, .string (⟨#[]⟩ : ByteArray)]) ?_ 2 _ rfl; (with_reducible repeat (first | refine blk_drewN ?_ _ | refine blk_drew ?_ | refine blk_alloc ?_ _)); refine blk_put (cs := #[.string t215, .int .i64 0, .int .i64 0, .string (⟨#[]⟩ : ByteArray)]) ?_ 1 _ rfl; (with_reducible repeat (first | refine blk_drewN ?_ _ | refine blk_drew ?_ | refine blk_alloc ?_ _)); refine blk_put (cs := #[.string (⟨#[]⟩ : ByteArray), .int .i64 0, .int .i64 0, .string (⟨#[]⟩ : ByteArray)]) ?_ 0 _ rfl; (with_reducible repeat (first | refine blk_drewN ?_ _ | refine blk_drew ?_ | refine blk_alloc ?_ _)); exact BK221.out) hb); have n3_ := Aside0.mk (below_step (by repeat (first | (with_reducible first | exact HB.out | apply below_alloc | apply pw_below_drewN | apply below_drew1 | refine below_set ?_ GE214.out | refine below_set ?_ GE221.out) | exact HB.out)) hb); clear BK214; clear BK221; clear HB; have HO226 := n0_; have BK214 := n1_; have BK221 := n2_; have HB := n3_; clear n0_ n1_ n2_ n3_; (try clear hb); (try clear hb2); (try clear hk); (try clear hi); (try clear ho0); have hcz21_0 : w20.cell? ⟨gb214, 0, none⟩ = some (.int .i64 0) := (blk_cell BK214.out 0).trans rfl; have hcz21_1 : w20.cell? ⟨gb214, 1, none⟩ = some (.int .i64 0) := (blk_cell BK214.out 1).trans rfl; have hcz21_2 : w20.cell? ⟨gb214, 2, none⟩ = some (.string (⟨#[]⟩ : ByteArray)) := (blk_cell BK214.out 2).trans rfl; have hcz21_3 : w20.cell? ⟨gb214, 3, none⟩ = some (.slice none 0 0) := (blk_cell BK214.out 3).trans rfl; have hfz21_0 := blk_frozen BK214.out 0; have hfz21_1 := blk_frozen BK214.out 1; have hfz21_2 := blk_frozen BK214.out 2; have hfz21_3 := blk_frozen BK214.out 3))
      refine bodyPost_ret (results_ctt rfl _ _ gb214 25 #[.int .i64 0, .int .i64 0, .string (⟨#[]⟩ : ByteArray), .slice none 0 0] (0, 0) _ rfl (by (with_reducible repeat (first | refine blk_drewN ?_ _ | refine blk_drew ?_ | refine blk_alloc ?_ _)); refine blk_put (cs := #[.int .i64 0, .int .i64 0, .string (⟨#[]⟩ : ByteArray), .slice none 0 0]) ?_ 3 _ rfl; (with_reducible repeat (first | refine blk_drewN ?_ _ | refine blk_drew ?_ | refine blk_alloc ?_ _)); refine blk_put (cs := #[.int .i64 0, .int .i64 0, .string (⟨#[]⟩ : ByteArray), .slice none 0 0]) ?_ 2 _ rfl; (with_reducible repeat (first | refine blk_drewN ?_ _ | refine blk_drew ?_ | refine blk_alloc ?_ _)); refine blk_put (cs := #[.int .i64 0, .int .i64 0, .string (⟨#[]⟩ : ByteArray), .slice none 0 0]) ?_ 1 _ rfl; (with_reducible repeat (first | refine blk_drewN ?_ _ | refine blk_drew ?_ | refine blk_alloc ?_ _)); refine blk_put (cs := #[.int .i64 0, .int .i64 0, .string (⟨#[]⟩ : ByteArray), .slice none 0 0]) ?_ 0 _ rfl; (with_reducible repeat (first | refine blk_drewN ?_ _ | refine blk_drew ?_ | refine blk_alloc ?_ _)); exact BK214.out) Tryz.underlying25 rfl (by kernel_rfl)) rfl ?_
      exact ⟨_, by first | rfl | (simp [errW_none, errW_some] <;> rfl) | (simp [*, errW_none, errW_some] <;> rfl) | (simp [q_ne_nil]; done), by first | exact Kd.R_nil _ _ _ _ _ | exact Kd.N_nil _ _ _ _ _ | exact Kd.V_nil _ _ _ _ _ | exact Kd.Q_nil _ _ _ _ _ | exact Kd.S_nil _ _ _ _ _, by repeat (first | (with_reducible first | exact HB.out | apply below_alloc | apply pw_below_drewN | apply below_drew1 | refine below_set ?_ GE214.out | refine below_set ?_ GE221.out) | exact HB.out)⟩
  · replace c3 := Bool.eq_false_iff.mpr c3
    subst c3
    have H1 : (some (0, 0, (⟨#[]⟩ : ByteArray), ([] : List (S43)), (⟨#[]⟩ : ByteArray), 50)) = some (r1, r2, r3, r4, r5, r6) := by rw [if_neg (show ¬ (false = true) by decide)] at H; exact H
    clear H
    have H := H1
    clear H1
    simp only [Option.some.injEq, Prod.mk.injEq] at H
    obtain ⟨rfl, rfl, rfl, rfl, rfl, rfl⟩ := H
    go_enter Tryz.func16, Tryz.ntmps16
    go_wp2_with (first | ((with_reducible refine gate_dst (N := 2) rfl ?_); refine box_event ?hg (N := 2) ?hd (cs := #[.int .i64 0, .int .i64 0, .string (⟨#[]⟩ : ByteArray), .slice none 0 0]) (t := 25) ?hr ?_; (case hd => rfl); (case hg => rfl); (case hr => first | (go_simp; done) | (go_simp; rfl)); intro gb214 hg w22 hbox hb; have n0_ := Aside0.mk (below_step (by repeat (first | (with_reducible first | exact HB.out | apply below_alloc | apply pw_below_drewN | apply below_drew1) | exact HB.out)) hb); have n1_ := Aside0.mk (hbox); have n2_ := Aside0.mk ((by rw [hg]; exact (below_size (by repeat (first | (with_reducible first | exact HB.out | apply below_alloc | apply pw_below_drewN | apply below_drew1) | exact HB.out))) : w.heap.size ≤ gb214)); have n3_ := Aside0.mk ((by rw [hg]; exact (below_size (by repeat (first | (with_reducible first | exact HB.out | apply below_alloc | apply pw_below_drewN | apply below_drew1) | exact HB.out))) : w.heap.size ≤ gb214)); clear HB; have HB := n0_; have BK214 := n1_; have GW214 := n2_; have GE214 := n3_; clear n0_ n1_ n2_ n3_; clear hb hbox hg) | ((with_reducible refine gate_callee (f := 30) rfl ?_); refine goesL_ (some 12) rfl rfl Tryz.func30 (by kernel_rfl) rfl #[.string a0] rfl (by (try simp only [List.map_toArray, List.map_cons, List.map_nil]); first | done | rfl | (simp only [List.length_drop, List.length_take]; rfl)) ?_; (with_reducible refine (glacisref05_value.calls k a0 t215 t216 t217 t218 t219 false _ A2.out).mono ?_); rintro e w23 ⟨rfl, hb⟩; refine ⟨_, rfl, ?_⟩; have n0_ := Aside0.mk (blk_below (g := gb214) (o := .cells #[.int .i64 0, .int .i64 0, .string (⟨#[]⟩ : ByteArray), .slice none 0 0] 25 (0, 0)) (by (with_reducible repeat (first | refine blk_drewN ?_ _ | refine blk_drew ?_ | refine blk_alloc ?_ _)); exact BK214.out) hb); have n1_ := Aside0.mk (below_step (by repeat (first | (with_reducible first | exact HB.out | apply below_alloc | apply pw_below_drewN | apply below_drew1 | refine below_set ?_ GE214.out) | exact HB.out)) hb); clear BK214; clear HB; have BK214 := n0_; have HB := n1_; clear n0_ n1_; (try clear hb); (try clear hb2); (try clear hk); (try clear hi)) | ((with_reducible refine gate_dst (N := 5) rfl ?_); refine box_event ?hg (N := 5) ?hd (cs := #[.string (⟨#[]⟩ : ByteArray), .int .i64 0, .int .i64 0, .string (⟨#[]⟩ : ByteArray)]) (t := 43) ?hr ?_; (case hd => rfl); (case hg => rfl); (case hr => first | (go_simp; done) | (go_simp; rfl)); intro gb221 hg w24 hbox hb; have n0_ := Aside0.mk (blk_below (g := gb214) (o := .cells #[.int .i64 0, .int .i64 0, .string (⟨#[]⟩ : ByteArray), .slice none 0 0] 25 (0, 0)) (by (with_reducible repeat (first | refine blk_drewN ?_ _ | refine blk_drew ?_ | refine blk_alloc ?_ _)); exact BK214.out) hb); have n1_ := Aside0.mk (below_step (by repeat (first | (with_reducible first | exact HB.out | apply below_alloc | apply pw_below_drewN | apply below_drew1 | refine below_set ?_ GE214.out) | exact HB.out)) hb); have n2_ := Aside0.mk (hbox); have n3_ := Aside0.mk ((by rw [hg]; exact (below_size (by repeat (first | (with_reducible first | exact HB.out | apply below_alloc | apply pw_below_drewN | apply below_drew1 | refine below_set ?_ GE214.out) | exact HB.out))) : w.heap.size ≤ gb221)); have n4_ := Aside0.mk ((by rw [hg]; exact (below_size (by repeat (first | (with_reducible first | exact HB.out | apply below_alloc | apply pw_below_drewN | apply below_drew1 | refine below_set ?_ GE214.out) | exact HB.out))) : w.heap.size ≤ gb221)); have n5_ := Aside0.mk ((by rw [hg]; exact Nat.ne_of_lt (blk_lt (g := gb214) (o := .cells #[.int .i64 0, .int .i64 0, .string (⟨#[]⟩ : ByteArray), .slice none 0 0] 25 (0, 0)) (by (with_reducible repeat (first | refine blk_drewN ?_ _ | refine blk_drew ?_ | refine blk_alloc ?_ _)); exact BK214.out)) : gb214 ≠ gb221)); have n6_ := Aside0.mk ((by rw [hg]; exact Nat.ne_of_gt (blk_lt (g := gb214) (o := .cells #[.int .i64 0, .int .i64 0, .string (⟨#[]⟩ : ByteArray), .slice none 0 0] 25 (0, 0)) (by (with_reducible repeat (first | refine blk_drewN ?_ _ | refine blk_drew ?_ | refine blk_alloc ?_ _)); exact BK214.out)) : gb221 ≠ gb214)); clear BK214; clear HB; have BK214 := n0_; have HB := n1_; have BK221 := n2_; have GW221 := n3_; have GE221 := n4_; have NB214_221 := n5_; have NB221_214 := n6_; clear n0_ n1_ n2_ n3_ n4_ n5_ n6_; clear hb hbox hg; have hnb25 := NB221_214.out; have hnc25 := NB214_221.out; have hcz26_0 : w24.cell? ⟨gb221, 0, none⟩ = some (.string (⟨#[]⟩ : ByteArray)) := (blk_cell BK221.out 0).trans rfl; have hcz26_1 : w24.cell? ⟨gb221, 1, none⟩ = some (.int .i64 0) := (blk_cell BK221.out 1).trans rfl; have hcz26_2 : w24.cell? ⟨gb221, 2, none⟩ = some (.int .i64 0) := (blk_cell BK221.out 2).trans rfl; have hcz26_3 : w24.cell? ⟨gb221, 3, none⟩ = some (.string (⟨#[]⟩ : ByteArray)) := (blk_cell BK221.out 3).trans rfl; have hfz26_0 := blk_frozen BK221.out 0; have hfz26_1 := blk_frozen BK221.out 1; have hfz26_2 := blk_frozen BK221.out 2; have hfz26_3 := blk_frozen BK221.out 3; have hcz27_0 : w24.cell? ⟨gb214, 0, none⟩ = some (.int .i64 0) := (blk_cell BK214.out 0).trans rfl; have hcz27_1 : w24.cell? ⟨gb214, 1, none⟩ = some (.int .i64 0) := (blk_cell BK214.out 1).trans rfl; have hcz27_2 : w24.cell? ⟨gb214, 2, none⟩ = some (.string (⟨#[]⟩ : ByteArray)) := (blk_cell BK214.out 2).trans rfl; have hcz27_3 : w24.cell? ⟨gb214, 3, none⟩ = some (.slice none 0 0) := (blk_cell BK214.out 3).trans rfl; have hfz27_0 := blk_frozen BK214.out 0; have hfz27_1 := blk_frozen BK214.out 1; have hfz27_2 := blk_frozen BK214.out 2; have hfz27_3 := blk_frozen BK214.out 3))
    refine bodyPost_ret (results_ctt rfl _ _ gb214 25 #[.int .i64 0, .int .i64 0, .string (⟨#[]⟩ : ByteArray), .slice none 0 0] (0, 0) _ rfl (by (with_reducible repeat (first | refine blk_drewN ?_ _ | refine blk_drew ?_ | refine blk_alloc ?_ _)); refine blk_put (cs := #[.int .i64 0, .int .i64 0, .string (⟨#[]⟩ : ByteArray), .slice none 0 0]) ?_ 3 _ rfl; (with_reducible repeat (first | refine blk_drewN ?_ _ | refine blk_drew ?_ | refine blk_alloc ?_ _)); refine blk_put (cs := #[.int .i64 0, .int .i64 0, .string (⟨#[]⟩ : ByteArray), .slice none 0 0]) ?_ 2 _ rfl; (with_reducible repeat (first | refine blk_drewN ?_ _ | refine blk_drew ?_ | refine blk_alloc ?_ _)); refine blk_put (cs := #[.int .i64 0, .int .i64 0, .string (⟨#[]⟩ : ByteArray), .slice none 0 0]) ?_ 1 _ rfl; (with_reducible repeat (first | refine blk_drewN ?_ _ | refine blk_drew ?_ | refine blk_alloc ?_ _)); refine blk_put (cs := #[.int .i64 0, .int .i64 0, .string (⟨#[]⟩ : ByteArray), .slice none 0 0]) ?_ 0 _ rfl; (with_reducible repeat (first | refine blk_drewN ?_ _ | refine blk_drew ?_ | refine blk_alloc ?_ _)); refine blk_far ?_ NB214_221.out _; (with_reducible repeat (first | refine blk_drewN ?_ _ | refine blk_drew ?_ | refine blk_alloc ?_ _)); refine blk_far ?_ NB214_221.out _; (with_reducible repeat (first | refine blk_drewN ?_ _ | refine blk_drew ?_ | refine blk_alloc ?_ _)); refine blk_far ?_ NB214_221.out _; (with_reducible repeat (first | refine blk_drewN ?_ _ | refine blk_drew ?_ | refine blk_alloc ?_ _)); refine blk_far ?_ NB214_221.out _; (with_reducible repeat (first | refine blk_drewN ?_ _ | refine blk_drew ?_ | refine blk_alloc ?_ _)); exact BK214.out) Tryz.underlying25 rfl (by kernel_rfl)) rfl ?_
    exact ⟨_, by first | rfl | (simp [errW_none, errW_some] <;> rfl) | (simp [*, errW_none, errW_some] <;> rfl) | (simp [q_ne_nil]; done), by first | exact Kd.R_nil _ _ _ _ _ | exact Kd.N_nil _ _ _ _ _ | exact Kd.V_nil _ _ _ _ _ | exact Kd.Q_nil _ _ _ _ _ | exact Kd.S_nil _ _ _ _ _, by repeat (first | (with_reducible first | exact HB.out | apply below_alloc | apply pw_below_drewN | apply below_drew1 | refine below_set ?_ GE214.out | refine below_set ?_ GE221.out) | exact HB.out)⟩
end Go.Proofs.YtbbaokjkmcfceaaGreatDoor.Q
namespace Go.Proofs.YtbbaokjkmcfceaaGreatDoor.Q
open Go.RowKit Go.Proofs.YtbbaokjkmcfceaaGreatDoorW.PrintWords Go.Proofs.YtbbaokjkmcfceaaGreatDoorW.PrintLast Go.Proofs.YtbbaokjkmcfceaaGreatDoorW.PrintMore
set_option linter.unusedVariables false
set_option linter.unusedSimpArgs false
attribute [local go_sem high] eqA43
def glacisref05_SameParams.l0 : Nat → List (S43) → List (S43) → Int → Option (Bool)
  | 0, _, _, _ => none
  | k + 1, x0, x1, x5 => if x5 < (x0.length : Int) then (if 0 ≤ x5 then (if x5 < (x1.length : Int) then (if (!((((rd_T43 x0 x5).f0).toList) == (((rd_T43 x1 x5).f0).toList)) || (!(((rd_T43 x0 x5).f1) == ((rd_T43 x1 x5).f1)) || (!(((rd_T43 x0 x5).f2) == ((rd_T43 x1 x5).f2)) || (!((((rd_T43 x0 x5).f3).toList) == (((rd_T43 x1 x5).f3).toList)))))) = true then (some false) else (glacisref05_SameParams.l0 k x0 x1 (wrap64 (x5 + 1)))) else (none)) else (none)) else (some true)
def glacisref05_SameParams.f (k : Nat) (l0 : List (S43)) (l1 : List (S43)) : Option (Bool) := if (l0.length : Int) = (l1.length : Int) then (glacisref05_SameParams.l0 k l0 l1 0) else (some false)
set_option maxHeartbeats 8000000 in
set_option maxRecDepth 100000 in
theorem glacisref05_SameParams.calls (k : Nat) (A0 : Option Addr) (c0 : Nat) (l0 : List (S43)) (A1 : Option Addr) (c1 : Nat) (l1 : List (S43)) (r : Bool) (w : World) (hr0 : Kd.C k43 w A0 l0.length l0) (hc0 : l0.length ≤ c0) (hr1 : Kd.C k43 w A1 l1.length l1) (hc1 : l1.length ≤ c1) (h : glacisref05_SameParams.f k l0 l1 = some r) :
    Calls Tryz.prog 19 #[.slice A0 l0.length c0, .slice A1 l1.length c1] w fun e w' => e = .returned (.bool r) ∧ Drawn0 w w' := by
  have hu43 := Tryz.underlying43
  have HR0 := Aside0.mk hr0
  have HC0 := Aside0.mk hc0
  clear hr0 hc0
  have HR1 := Aside0.mk hr1
  have HC1 := Aside0.mk hc1
  clear hr1 hc1
  have H : (if (l0.length : Int) = (l1.length : Int) then (glacisref05_SameParams.l0 k l0 l1 0) else (some false)) = some r := h
  clear h
  by_cases c3 : (l0.length : Int) = (l1.length : Int)
  · rw [if_pos c3] at H
    have c3b0 : ((l0.length : Int) == (l1.length : Int)) = true := beq_iff_eq.mpr c3
    have c3b1 : ((l0.length : Int) != (l1.length : Int)) = false := bne_eq_false_iff_eq.mpr c3
    have c3b2 : (l0.length == l1.length) = true := by first | simpa using c3 | (simp at c3 ⊢; omega)
    clear c3
    have H' := Aside0.mk H
    clear H
    go_enter Tryz.func19, Tryz.ntmps19
    go_wp2
    repeat (go_quiet (fail); try go_wp2)
    go_loopg [5] k (fun kq v5 w' => ∃ (x5_1 : Int), v5 = .int .i64 x5_1 ∧ Aside0 (glacisref05_SameParams.l0 kq l0 l1 x5_1 = some r) ∧ Aside0 (kq ≤ k) ∧ Drawn0 w w')
    case atStart => exact ⟨(0), (by first | rfl | (simp; done) | (simp [*]; done) | (simp [q_ne_nil]; done)), H', ⟨Nat.le_refl _⟩, by repeat (first | exact Drawn0.refl _ | apply Drawn0.step)⟩
    case round =>
      clear H'
      try clear c1
      try clear p2
      try clear c3
      try clear c3b0
      try clear c3b1
      try clear c3b2
      obtain ⟨x5_1, rfl, HA, HK1, ⟨m1, rfl⟩⟩ := hrel
      cases gk with
      | zero => exact absurd HA.out (by simp [glacisref05_SameParams.l0])
      | succ k1 =>
        have H := HA.out
        clear HA
        simp only [glacisref05_SameParams.l0] at H
        by_cases c4 : x5_1 < (l0.length : Int)
        · rw [if_pos c4] at H
          have c4b0 : decide (x5_1 < (l0.length : Int)) = true := decide_eq_true c4
          clear c4
          by_cases c5 : 0 ≤ x5_1
          · rw [if_pos c5] at H
            have c5b0 : decide (0 ≤ x5_1) = true := decide_eq_true c5
            clear c5
            by_cases c6 : x5_1 < (l1.length : Int)
            · rw [if_pos c6] at H
              have c6b0 : decide (x5_1 < (l1.length : Int)) = true := decide_eq_true c6
              clear c6
              by_cases c7 : (!((((rd_T43 l0 x5_1).f0).toList) == (((rd_T43 l1 x5_1).f0).toList)) || (!(((rd_T43 l0 x5_1).f1) == ((rd_T43 l1 x5_1).f1)) || (!(((rd_T43 l0 x5_1).f2) == ((rd_T43 l1 x5_1).f2)) || (!((((rd_T43 l0 x5_1).f3).toList) == (((rd_T43 l1 x5_1).f3).toList)))))) = true
              · rw [if_pos c7] at H
                have c7b0 : (!((((rd_T43 l0 x5_1).f0).toList) == (((rd_T43 l1 x5_1).f0).toList)) || (!(((rd_T43 l0 x5_1).f1) == ((rd_T43 l1 x5_1).f1)) || (!(((rd_T43 l0 x5_1).f2) == ((rd_T43 l1 x5_1).f2)) || (!((((rd_T43 l0 x5_1).f3).toList) == (((rd_T43 l1 x5_1).f3).toList)))))) = true := c7
                clear c7
                obtain rfl := Option.some.inj H
                have p239 : 0 ≤ (x5_1 : Int) := of_decide_eq_true (by first | (with_reducible assumption) | assumption)
                have q239 : x5_1 < (l0.length : Int) := of_decide_eq_true (by first | (with_reducible assumption) | assumption)
                obtain ⟨ad239, e239, hx239_0, hx239_1, hx239_2, hx239_3⟩ := at_T43 HR0.out x5_1 p239 q239
                cases e239
                replace p239 := eq_true p239
                replace q239 := eq_true q239
                have p240 : 0 ≤ (x5_1 : Int) := of_decide_eq_true (by first | (with_reducible assumption) | assumption)
                have q240 : x5_1 < (l1.length : Int) := of_decide_eq_true (by first | (with_reducible assumption) | assumption)
                obtain ⟨ad240, e240, hx240_0, hx240_1, hx240_2, hx240_3⟩ := at_T43 HR1.out x5_1 p240 q240
                cases e240
                replace p240 := eq_true p240
                replace q240 := eq_true q240
                go_wp2
                repeat (go_quiet (fail); try go_wp2)
                go_ret
                exact ⟨by first | rfl | (simp; done) | (simp [*]; done) | (simp [q_ne_nil]; done), by repeat (first | exact Drawn0.refl _ | apply Drawn0.step)⟩
              · rw [if_neg c7] at H
                have c7b0 : (!((((rd_T43 l0 x5_1).f0).toList) == (((rd_T43 l1 x5_1).f0).toList)) || (!(((rd_T43 l0 x5_1).f1) == ((rd_T43 l1 x5_1).f1)) || (!(((rd_T43 l0 x5_1).f2) == ((rd_T43 l1 x5_1).f2)) || (!((((rd_T43 l0 x5_1).f3).toList) == (((rd_T43 l1 x5_1).f3).toList)))))) = false := by simpa using c7
                clear c7
                have H' := Aside0.mk H
                clear H
                have p239 : 0 ≤ (x5_1 : Int) := of_decide_eq_true (by first | (with_reducible assumption) | assumption)
                have q239 : x5_1 < (l0.length : Int) := of_decide_eq_true (by first | (with_reducible assumption) | assumption)
                obtain ⟨ad239, e239, hx239_0, hx239_1, hx239_2, hx239_3⟩ := at_T43 HR0.out x5_1 p239 q239
                cases e239
                replace p239 := eq_true p239
                replace q239 := eq_true q239
                have p240 : 0 ≤ (x5_1 : Int) := of_decide_eq_true (by first | (with_reducible assumption) | assumption)
                have q240 : x5_1 < (l1.length : Int) := of_decide_eq_true (by first | (with_reducible assumption) | assumption)
                obtain ⟨ad240, e240, hx240_0, hx240_1, hx240_2, hx240_3⟩ := at_T43 HR1.out x5_1 p240 q240
                cases e240
                replace p240 := eq_true p240
                replace q240 := eq_true q240
                go_wp2
                repeat (go_quiet (fail); try go_wp2)
                go_roundg k1
                case measure => have := HK1.out; omega
                case rel => exact ⟨(wrap64 (x5_1 + 1)), (by first | rfl | (simp; done) | (simp [*]; done) | (simp [q_ne_nil]; done)), H', ⟨by have := HK1.out; omega⟩, by repeat (first | exact Drawn0.refl _ | apply Drawn0.step)⟩
            · rw [if_neg c6] at H
              exact absurd H (by simp)
          · rw [if_neg c5] at H
            exact absurd H (by simp)
        · rw [if_neg c4] at H
          have c4b0 : decide (x5_1 < (l0.length : Int)) = false := decide_eq_false c4
          clear c4
          obtain rfl := Option.some.inj H
          go_wp2
          repeat (go_quiet (fail); try go_wp2)
          go_ret
          exact ⟨by first | rfl | (simp; done) | (simp [*]; done) | (simp [q_ne_nil]; done), by repeat (first | exact Drawn0.refl _ | apply Drawn0.step)⟩
  · rw [if_neg c3] at H
    have c3b0 : ((l0.length : Int) == (l1.length : Int)) = false := beq_eq_false_iff_ne.mpr c3
    have c3b1 : ((l0.length : Int) != (l1.length : Int)) = true := bne_iff_ne.mpr c3
    have c3b2 : (l0.length == l1.length) = false := by first | simpa using c3 | (simp at c3 ⊢; omega)
    obtain rfl := Option.some.inj H
    go_enter Tryz.func19, Tryz.ntmps19
    go_wp2
    repeat (go_quiet (fail); try go_wp2)
    go_ret
    exact ⟨by first | rfl | (simp; done) | (simp [*]; done) | (simp [q_ne_nil]; done), by repeat (first | exact Drawn0.refl _ | apply Drawn0.step)⟩
def glacisref05_Same.f (k : Nat) (a0_0 : Int) (a0_1 : Int) (a0_2 : ByteArray) (l0_3 : List (S43)) (a1_0 : Int) (a1_1 : Int) (a1_2 : ByteArray) (l1_3 : List (S43)) : Option (Bool) := (glacisref05_SameParams.f k l0_3 l1_3).bind fun t243 => (if t243 = true then (if a0_0 = a1_0 then (if a0_1 = a1_1 then (some (a0_2.toList == a1_2.toList)) else (some false)) else (some false)) else (some false))
set_option maxHeartbeats 8000000 in
set_option maxRecDepth 100000 in
theorem glacisref05_Same.calls (k : Nat) (a0_0 : Int) (a0_1 : Int) (a0_2 : ByteArray) (A0_3 : Option Addr) (c0_3 : Nat) (l0_3 : List (S43)) (a1_0 : Int) (a1_1 : Int) (a1_2 : ByteArray) (A1_3 : Option Addr) (c1_3 : Nat) (l1_3 : List (S43)) (r : Bool) (w : World) (hr0_3 : Kd.C k43 w A0_3 l0_3.length l0_3) (hc0_3 : l0_3.length ≤ c0_3) (hr1_3 : Kd.C k43 w A1_3 l1_3.length l1_3) (hc1_3 : l1_3.length ≤ c1_3) (h : glacisref05_Same.f k a0_0 a0_1 a0_2 l0_3 a1_0 a1_1 a1_2 l1_3 = some r) :
    Calls Tryz.prog 9 #[.agg #[.int .i64 a0_0, .int .i64 a0_1, .string a0_2, .slice A0_3 l0_3.length c0_3], .agg #[.int .i64 a1_0, .int .i64 a1_1, .string a1_2, .slice A1_3 l1_3.length c1_3]] w fun e w' => e = .returned (.bool r) ∧ Below w.heap.size w w' := by
  have hu25 := Tryz.underlying25
  have HR0_3 := Aside0.mk hr0_3
  have HC0_3 := Aside0.mk hc0_3
  clear hr0_3 hc0_3
  have HR1_3 := Aside0.mk hr1_3
  have HC1_3 := Aside0.mk hc1_3
  clear hr1_3 hc1_3
  have HB := Aside0.mk (Below.refl w.heap.size w)
  have H : ((glacisref05_SameParams.f k l0_3 l1_3).bind fun t243 => (if t243 = true then (if a0_0 = a1_0 then (if a0_1 = a1_1 then (some (a0_2.toList == a1_2.toList)) else (some false)) else (some false)) else (some false))) = some r := h
  clear h
  replace H := Option.bind_eq_some_iff.mp H
  obtain ⟨t243, A30, H⟩ := H
  replace H : (if t243 = true then (if a0_0 = a1_0 then (if a0_1 = a1_1 then (some (a0_2.toList == a1_2.toList)) else (some false)) else (some false)) else (some false)) = some r := H
  have A3 := Aside0.mk A30
  clear A30
  by_cases c4 : t243 = true
  · subst c4
    have H1 : (if a0_0 = a1_0 then (if a0_1 = a1_1 then (some (a0_2.toList == a1_2.toList)) else (some false)) else (some false)) = some r := by rw [if_pos rfl] at H; exact H
    clear H
    have H := H1
    clear H1
    by_cases c5 : a0_0 = a1_0
    · rw [if_pos c5] at H
      have c5b0 : (a0_0 == a1_0) = true := beq_iff_eq.mpr c5
      have c5b1 : (a0_0 != a1_0) = false := bne_eq_false_iff_eq.mpr c5
      clear c5
      by_cases c6 : a0_1 = a1_1
      · rw [if_pos c6] at H
        have c6b0 : (a0_1 == a1_1) = true := beq_iff_eq.mpr c6
        have c6b1 : (a0_1 != a1_1) = false := bne_eq_false_iff_eq.mpr c6
        clear c6
        obtain rfl := Option.some.inj H
        go_enter Tryz.func9, Tryz.ntmps9
        go_wp2_with (first | ((with_reducible refine gate_dst (N := 2) rfl ?_); refine box_event ?hg (N := 2) ?hd (cs := #[.int .i64 a0_0, .int .i64 a0_1, .string a0_2, .slice A0_3 l0_3.length c0_3]) (t := 25) ?hr ?_; (case hd => rfl); (case hg => rfl); (case hr => first | (go_simp; done) | (go_simp; rfl)); intro gb241 hg w7 hbox hb; have n0_ := Aside0.mk (below_step (by repeat (first | (with_reducible first | exact HB.out | apply below_alloc | apply pw_below_drewN | apply below_drew1) | exact HB.out)) hb); have n1_ := Aside0.mk (hbox); have n2_ := Aside0.mk ((by rw [hg]; exact (below_size (by repeat (first | (with_reducible first | exact HB.out | apply below_alloc | apply pw_below_drewN | apply below_drew1) | exact HB.out))) : w.heap.size ≤ gb241)); have n3_ := Aside0.mk ((by rw [hg]; exact (below_size (by repeat (first | (with_reducible first | exact HB.out | apply below_alloc | apply pw_below_drewN | apply below_drew1) | exact HB.out))) : w.heap.size ≤ gb241)); clear HB; have HB := n0_; have BK241 := n1_; have GW241 := n2_; have GE241 := n3_; clear n0_ n1_ n2_ n3_; clear hb hbox hg) | ((with_reducible refine gate_dst (N := 3) rfl ?_); refine box_event ?hg (N := 3) ?hd (cs := #[.int .i64 a1_0, .int .i64 a1_1, .string a1_2, .slice A1_3 l1_3.length c1_3]) (t := 25) ?hr ?_; (case hd => rfl); (case hg => rfl); (case hr => first | (go_simp; done) | (go_simp; rfl)); intro gb242 hg w8 hbox hb; have n0_ := Aside0.mk (blk_below (g := gb241) (o := .cells #[.int .i64 a0_0, .int .i64 a0_1, .string a0_2, .slice A0_3 l0_3.length c0_3] 25 (0, 0)) (by (with_reducible repeat (first | refine blk_drewN ?_ _ | refine blk_drew ?_ | refine blk_alloc ?_ _)); exact BK241.out) hb); have n1_ := Aside0.mk (below_step (by repeat (first | (with_reducible first | exact HB.out | apply below_alloc | apply pw_below_drewN | apply below_drew1 | refine below_set ?_ GE241.out) | exact HB.out)) hb); have n2_ := Aside0.mk (hbox); have n3_ := Aside0.mk ((by rw [hg]; exact (below_size (by repeat (first | (with_reducible first | exact HB.out | apply below_alloc | apply pw_below_drewN | apply below_drew1 | refine below_set ?_ GE241.out) | exact HB.out))) : w.heap.size ≤ gb242)); have n4_ := Aside0.mk ((by rw [hg]; exact (below_size (by repeat (first | (with_reducible first | exact HB.out | apply below_alloc | apply pw_below_drewN | apply below_drew1 | refine below_set ?_ GE241.out) | exact HB.out))) : w.heap.size ≤ gb242)); have n5_ := Aside0.mk ((by rw [hg]; exact Nat.ne_of_lt (blk_lt (g := gb241) (o := .cells #[.int .i64 a0_0, .int .i64 a0_1, .string a0_2, .slice A0_3 l0_3.length c0_3] 25 (0, 0)) (by (with_reducible repeat (first | refine blk_drewN ?_ _ | refine blk_drew ?_ | refine blk_alloc ?_ _)); exact BK241.out)) : gb241 ≠ gb242)); have n6_ := Aside0.mk ((by rw [hg]; exact Nat.ne_of_gt (blk_lt (g := gb241) (o := .cells #[.int .i64 a0_0, .int .i64 a0_1, .string a0_2, .slice A0_3 l0_3.length c0_3] 25 (0, 0)) (by (with_reducible repeat (first | refine blk_drewN ?_ _ | refine blk_drew ?_ | refine blk_alloc ?_ _)); exact BK241.out)) : gb242 ≠ gb241)); clear BK241; clear HB; have BK241 := n0_; have HB := n1_; have BK242 := n2_; have GW242 := n3_; have GE242 := n4_; have NB241_242 := n5_; have NB242_241 := n6_; clear n0_ n1_ n2_ n3_ n4_ n5_ n6_; clear hb hbox hg; have hnb9 := NB241_242.out; have hnc9 := NB242_241.out; have hcz10_0 : w8.cell? ⟨gb241, 0, none⟩ = some (.int .i64 a0_0) := (blk_cell BK241.out 0).trans rfl; have hcz10_1 : w8.cell? ⟨gb241, 1, none⟩ = some (.int .i64 a0_1) := (blk_cell BK241.out 1).trans rfl; have hcz10_2 : w8.cell? ⟨gb241, 2, none⟩ = some (.string a0_2) := (blk_cell BK241.out 2).trans rfl; have hcz10_3 : w8.cell? ⟨gb241, 3, none⟩ = some (.slice A0_3 l0_3.length c0_3) := (blk_cell BK241.out 3).trans rfl; have hfz10_0 := blk_frozen BK241.out 0; have hfz10_1 := blk_frozen BK241.out 1; have hfz10_2 := blk_frozen BK241.out 2; have hfz10_3 := blk_frozen BK241.out 3; have hcz11_0 : w8.cell? ⟨gb242, 0, none⟩ = some (.int .i64 a1_0) := (blk_cell BK242.out 0).trans rfl; have hcz11_1 : w8.cell? ⟨gb242, 1, none⟩ = some (.int .i64 a1_1) := (blk_cell BK242.out 1).trans rfl; have hcz11_2 : w8.cell? ⟨gb242, 2, none⟩ = some (.string a1_2) := (blk_cell BK242.out 2).trans rfl; have hcz11_3 : w8.cell? ⟨gb242, 3, none⟩ = some (.slice A1_3 l1_3.length c1_3) := (blk_cell BK242.out 3).trans rfl; have hfz11_0 := blk_frozen BK242.out 0; have hfz11_1 := blk_frozen BK242.out 1; have hfz11_2 := blk_frozen BK242.out 2; have hfz11_3 := blk_frozen BK242.out 3) | ((with_reducible refine gate_callee (f := 19) rfl ?_); refine goesL_ (some 10) rfl rfl Tryz.func19 (by kernel_rfl) rfl #[.slice A0_3 l0_3.length c0_3, .slice A1_3 l1_3.length c1_3] rfl (by (try simp only [List.map_toArray, List.map_cons, List.map_nil]); first | done | rfl | (simp only [List.length_drop, List.length_take]; rfl)) ?_; (with_reducible refine (glacisref05_SameParams.calls k _ _ l0_3 _ _ l1_3 true _ ?side1 ?side2 ?side3 ?side4 A3.out).mono ?_); (case side1 => repeat (first | exact (Kd.C_below HR0_3.out HB.out) | (with_reducible refine Kd.C_alloc ?_ _) | (with_reducible refine Kd.C_drewN ?_ _) | (with_reducible refine Kd.C_drew ?_))); (case side2 => exact HC0_3.out); (case side3 => repeat (first | exact (Kd.C_below HR1_3.out HB.out) | (with_reducible refine Kd.C_alloc ?_ _) | (with_reducible refine Kd.C_drewN ?_ _) | (with_reducible refine Kd.C_drew ?_))); (case side4 => exact HC1_3.out); rintro e w' ⟨rfl, ⟨nd, rfl⟩⟩; refine ⟨_, rfl, ?_⟩))
        go_ret
        exact ⟨by first | rfl | (simp [errW_none, errW_some] <;> rfl) | (simp [*, errW_none, errW_some] <;> rfl) | (simp [q_ne_nil]; done), by repeat (first | (with_reducible first | exact HB.out | apply below_alloc | apply pw_below_drewN | apply below_drew1 | refine below_set ?_ GE241.out | refine below_set ?_ GE242.out) | exact HB.out)⟩
      · rw [if_neg c6] at H
        have c6b0 : (a0_1 == a1_1) = false := beq_eq_false_iff_ne.mpr c6
        have c6b1 : (a0_1 != a1_1) = true := bne_iff_ne.mpr c6
        obtain rfl := Option.some.inj H
        go_enter Tryz.func9, Tryz.ntmps9
        go_wp2_with (first | ((with_reducible refine gate_dst (N := 2) rfl ?_); refine box_event ?hg (N := 2) ?hd (cs := #[.int .i64 a0_0, .int .i64 a0_1, .string a0_2, .slice A0_3 l0_3.length c0_3]) (t := 25) ?hr ?_; (case hd => rfl); (case hg => rfl); (case hr => first | (go_simp; done) | (go_simp; rfl)); intro gb241 hg w12 hbox hb; have n0_ := Aside0.mk (below_step (by repeat (first | (with_reducible first | exact HB.out | apply below_alloc | apply pw_below_drewN | apply below_drew1) | exact HB.out)) hb); have n1_ := Aside0.mk (hbox); have n2_ := Aside0.mk ((by rw [hg]; exact (below_size (by repeat (first | (with_reducible first | exact HB.out | apply below_alloc | apply pw_below_drewN | apply below_drew1) | exact HB.out))) : w.heap.size ≤ gb241)); have n3_ := Aside0.mk ((by rw [hg]; exact (below_size (by repeat (first | (with_reducible first | exact HB.out | apply below_alloc | apply pw_below_drewN | apply below_drew1) | exact HB.out))) : w.heap.size ≤ gb241)); clear HB; have HB := n0_; have BK241 := n1_; have GW241 := n2_; have GE241 := n3_; clear n0_ n1_ n2_ n3_; clear hb hbox hg) | ((with_reducible refine gate_dst (N := 3) rfl ?_); refine box_event ?hg (N := 3) ?hd (cs := #[.int .i64 a1_0, .int .i64 a1_1, .string a1_2, .slice A1_3 l1_3.length c1_3]) (t := 25) ?hr ?_; (case hd => rfl); (case hg => rfl); (case hr => first | (go_simp; done) | (go_simp; rfl)); intro gb242 hg w13 hbox hb; have n0_ := Aside0.mk (blk_below (g := gb241) (o := .cells #[.int .i64 a0_0, .int .i64 a0_1, .string a0_2, .slice A0_3 l0_3.length c0_3] 25 (0, 0)) (by (with_reducible repeat (first | refine blk_drewN ?_ _ | refine blk_drew ?_ | refine blk_alloc ?_ _)); exact BK241.out) hb); have n1_ := Aside0.mk (below_step (by repeat (first | (with_reducible first | exact HB.out | apply below_alloc | apply pw_below_drewN | apply below_drew1 | refine below_set ?_ GE241.out) | exact HB.out)) hb); have n2_ := Aside0.mk (hbox); have n3_ := Aside0.mk ((by rw [hg]; exact (below_size (by repeat (first | (with_reducible first | exact HB.out | apply below_alloc | apply pw_below_drewN | apply below_drew1 | refine below_set ?_ GE241.out) | exact HB.out))) : w.heap.size ≤ gb242)); have n4_ := Aside0.mk ((by rw [hg]; exact (below_size (by repeat (first | (with_reducible first | exact HB.out | apply below_alloc | apply pw_below_drewN | apply below_drew1 | refine below_set ?_ GE241.out) | exact HB.out))) : w.heap.size ≤ gb242)); have n5_ := Aside0.mk ((by rw [hg]; exact Nat.ne_of_lt (blk_lt (g := gb241) (o := .cells #[.int .i64 a0_0, .int .i64 a0_1, .string a0_2, .slice A0_3 l0_3.length c0_3] 25 (0, 0)) (by (with_reducible repeat (first | refine blk_drewN ?_ _ | refine blk_drew ?_ | refine blk_alloc ?_ _)); exact BK241.out)) : gb241 ≠ gb242)); have n6_ := Aside0.mk ((by rw [hg]; exact Nat.ne_of_gt (blk_lt (g := gb241) (o := .cells #[.int .i64 a0_0, .int .i64 a0_1, .string a0_2, .slice A0_3 l0_3.length c0_3] 25 (0, 0)) (by (with_reducible repeat (first | refine blk_drewN ?_ _ | refine blk_drew ?_ | refine blk_alloc ?_ _)); exact BK241.out)) : gb242 ≠ gb241)); clear BK241; clear HB; have BK241 := n0_; have HB := n1_; have BK242 := n2_; have GW242 := n3_; have GE242 := n4_; have NB241_242 := n5_; have NB242_241 := n6_; clear n0_ n1_ n2_ n3_ n4_ n5_ n6_; clear hb hbox hg; have hnb14 := NB241_242.out; have hnc14 := NB242_241.out; have hcz15_0 : w13.cell? ⟨gb241, 0, none⟩ = some (.int .i64 a0_0) := (blk_cell BK241.out 0).trans rfl; have hcz15_1 : w13.cell? ⟨gb241, 1, none⟩ = some (.int .i64 a0_1) := (blk_cell BK241.out 1).trans rfl; have hcz15_2 : w13.cell? ⟨gb241, 2, none⟩ = some (.string a0_2) := (blk_cell BK241.out 2).trans rfl; have hcz15_3 : w13.cell? ⟨gb241, 3, none⟩ = some (.slice A0_3 l0_3.length c0_3) := (blk_cell BK241.out 3).trans rfl; have hfz15_0 := blk_frozen BK241.out 0; have hfz15_1 := blk_frozen BK241.out 1; have hfz15_2 := blk_frozen BK241.out 2; have hfz15_3 := blk_frozen BK241.out 3; have hcz16_0 : w13.cell? ⟨gb242, 0, none⟩ = some (.int .i64 a1_0) := (blk_cell BK242.out 0).trans rfl; have hcz16_1 : w13.cell? ⟨gb242, 1, none⟩ = some (.int .i64 a1_1) := (blk_cell BK242.out 1).trans rfl; have hcz16_2 : w13.cell? ⟨gb242, 2, none⟩ = some (.string a1_2) := (blk_cell BK242.out 2).trans rfl; have hcz16_3 : w13.cell? ⟨gb242, 3, none⟩ = some (.slice A1_3 l1_3.length c1_3) := (blk_cell BK242.out 3).trans rfl; have hfz16_0 := blk_frozen BK242.out 0; have hfz16_1 := blk_frozen BK242.out 1; have hfz16_2 := blk_frozen BK242.out 2; have hfz16_3 := blk_frozen BK242.out 3) | ((with_reducible refine gate_callee (f := 19) rfl ?_); refine goesL_ (some 10) rfl rfl Tryz.func19 (by kernel_rfl) rfl #[.slice A0_3 l0_3.length c0_3, .slice A1_3 l1_3.length c1_3] rfl (by (try simp only [List.map_toArray, List.map_cons, List.map_nil]); first | done | rfl | (simp only [List.length_drop, List.length_take]; rfl)) ?_; (with_reducible refine (glacisref05_SameParams.calls k _ _ l0_3 _ _ l1_3 true _ ?side1 ?side2 ?side3 ?side4 A3.out).mono ?_); (case side1 => repeat (first | exact (Kd.C_below HR0_3.out HB.out) | (with_reducible refine Kd.C_alloc ?_ _) | (with_reducible refine Kd.C_drewN ?_ _) | (with_reducible refine Kd.C_drew ?_))); (case side2 => exact HC0_3.out); (case side3 => repeat (first | exact (Kd.C_below HR1_3.out HB.out) | (with_reducible refine Kd.C_alloc ?_ _) | (with_reducible refine Kd.C_drewN ?_ _) | (with_reducible refine Kd.C_drew ?_))); (case side4 => exact HC1_3.out); rintro e w' ⟨rfl, ⟨nd, rfl⟩⟩; refine ⟨_, rfl, ?_⟩))
        go_ret
        exact ⟨by first | rfl | (simp [errW_none, errW_some] <;> rfl) | (simp [*, errW_none, errW_some] <;> rfl) | (simp [q_ne_nil]; done), by repeat (first | (with_reducible first | exact HB.out | apply below_alloc | apply pw_below_drewN | apply below_drew1 | refine below_set ?_ GE241.out | refine below_set ?_ GE242.out) | exact HB.out)⟩
    · rw [if_neg c5] at H
      have c5b0 : (a0_0 == a1_0) = false := beq_eq_false_iff_ne.mpr c5
      have c5b1 : (a0_0 != a1_0) = true := bne_iff_ne.mpr c5
      obtain rfl := Option.some.inj H
      go_enter Tryz.func9, Tryz.ntmps9
      go_wp2_with (first | ((with_reducible refine gate_dst (N := 2) rfl ?_); refine box_event ?hg (N := 2) ?hd (cs := #[.int .i64 a0_0, .int .i64 a0_1, .string a0_2, .slice A0_3 l0_3.length c0_3]) (t := 25) ?hr ?_; (case hd => rfl); (case hg => rfl); (case hr => first | (go_simp; done) | (go_simp; rfl)); intro gb241 hg w17 hbox hb; have n0_ := Aside0.mk (below_step (by repeat (first | (with_reducible first | exact HB.out | apply below_alloc | apply pw_below_drewN | apply below_drew1) | exact HB.out)) hb); have n1_ := Aside0.mk (hbox); have n2_ := Aside0.mk ((by rw [hg]; exact (below_size (by repeat (first | (with_reducible first | exact HB.out | apply below_alloc | apply pw_below_drewN | apply below_drew1) | exact HB.out))) : w.heap.size ≤ gb241)); have n3_ := Aside0.mk ((by rw [hg]; exact (below_size (by repeat (first | (with_reducible first | exact HB.out | apply below_alloc | apply pw_below_drewN | apply below_drew1) | exact HB.out))) : w.heap.size ≤ gb241)); clear HB; have HB := n0_; have BK241 := n1_; have GW241 := n2_; have GE241 := n3_; clear n0_ n1_ n2_ n3_; clear hb hbox hg) | ((with_reducible refine gate_dst (N := 3) rfl ?_); refine box_event ?hg (N := 3) ?hd (cs := #[.int .i64 a1_0, .int .i64 a1_1, .string a1_2, .slice A1_3 l1_3.length c1_3]) (t := 25) ?hr ?_; (case hd => rfl); (case hg => rfl); (case hr => first | (go_simp; done) | (go_simp; rfl)); intro gb242 hg w18 hbox hb; have n0_ := Aside0.mk (blk_below (g := gb241) (o := .cells #[.int .i64 a0_0, .int .i64 a0_1, .string a0_2, .slice A0_3 l0_3.length c0_3] 25 (0, 0)) (by (with_reducible repeat (first | refine blk_drewN ?_ _ | refine blk_drew ?_ | refine blk_alloc ?_ _)); exact BK241.out) hb); have n1_ := Aside0.mk (below_step (by repeat (first | (with_reducible first | exact HB.out | apply below_alloc | apply pw_below_drewN | apply below_drew1 | refine below_set ?_ GE241.out) | exact HB.out)) hb); have n2_ := Aside0.mk (hbox); have n3_ := Aside0.mk ((by rw [hg]; exact (below_size (by repeat (first | (with_reducible first | exact HB.out | apply below_alloc | apply pw_below_drewN | apply below_drew1 | refine below_set ?_ GE241.out) | exact HB.out))) : w.heap.size ≤ gb242)); have n4_ := Aside0.mk ((by rw [hg]; exact (below_size (by repeat (first | (with_reducible first | exact HB.out | apply below_alloc | apply pw_below_drewN | apply below_drew1 | refine below_set ?_ GE241.out) | exact HB.out))) : w.heap.size ≤ gb242)); have n5_ := Aside0.mk ((by rw [hg]; exact Nat.ne_of_lt (blk_lt (g := gb241) (o := .cells #[.int .i64 a0_0, .int .i64 a0_1, .string a0_2, .slice A0_3 l0_3.length c0_3] 25 (0, 0)) (by (with_reducible repeat (first | refine blk_drewN ?_ _ | refine blk_drew ?_ | refine blk_alloc ?_ _)); exact BK241.out)) : gb241 ≠ gb242)); have n6_ := Aside0.mk ((by rw [hg]; exact Nat.ne_of_gt (blk_lt (g := gb241) (o := .cells #[.int .i64 a0_0, .int .i64 a0_1, .string a0_2, .slice A0_3 l0_3.length c0_3] 25 (0, 0)) (by (with_reducible repeat (first | refine blk_drewN ?_ _ | refine blk_drew ?_ | refine blk_alloc ?_ _)); exact BK241.out)) : gb242 ≠ gb241)); clear BK241; clear HB; have BK241 := n0_; have HB := n1_; have BK242 := n2_; have GW242 := n3_; have GE242 := n4_; have NB241_242 := n5_; have NB242_241 := n6_; clear n0_ n1_ n2_ n3_ n4_ n5_ n6_; clear hb hbox hg; have hnb19 := NB241_242.out; have hnc19 := NB242_241.out; have hcz20_0 : w18.cell? ⟨gb241, 0, none⟩ = some (.int .i64 a0_0) := (blk_cell BK241.out 0).trans rfl; have hcz20_1 : w18.cell? ⟨gb241, 1, none⟩ = some (.int .i64 a0_1) := (blk_cell BK241.out 1).trans rfl; have hcz20_2 : w18.cell? ⟨gb241, 2, none⟩ = some (.string a0_2) := (blk_cell BK241.out 2).trans rfl; have hcz20_3 : w18.cell? ⟨gb241, 3, none⟩ = some (.slice A0_3 l0_3.length c0_3) := (blk_cell BK241.out 3).trans rfl; have hfz20_0 := blk_frozen BK241.out 0; have hfz20_1 := blk_frozen BK241.out 1; have hfz20_2 := blk_frozen BK241.out 2; have hfz20_3 := blk_frozen BK241.out 3; have hcz21_0 : w18.cell? ⟨gb242, 0, none⟩ = some (.int .i64 a1_0) := (blk_cell BK242.out 0).trans rfl; have hcz21_1 : w18.cell? ⟨gb242, 1, none⟩ = some (.int .i64 a1_1) := (blk_cell BK242.out 1).trans rfl; have hcz21_2 : w18.cell? ⟨gb242, 2, none⟩ = some (.string a1_2) := (blk_cell BK242.out 2).trans rfl; have hcz21_3 : w18.cell? ⟨gb242, 3, none⟩ = some (.slice A1_3 l1_3.length c1_3) := (blk_cell BK242.out 3).trans rfl; have hfz21_0 := blk_frozen BK242.out 0; have hfz21_1 := blk_frozen BK242.out 1; have hfz21_2 := blk_frozen BK242.out 2; have hfz21_3 := blk_frozen BK242.out 3) | ((with_reducible refine gate_callee (f := 19) rfl ?_); refine goesL_ (some 10) rfl rfl Tryz.func19 (by kernel_rfl) rfl #[.slice A0_3 l0_3.length c0_3, .slice A1_3 l1_3.length c1_3] rfl (by (try simp only [List.map_toArray, List.map_cons, List.map_nil]); first | done | rfl | (simp only [List.length_drop, List.length_take]; rfl)) ?_; (with_reducible refine (glacisref05_SameParams.calls k _ _ l0_3 _ _ l1_3 true _ ?side1 ?side2 ?side3 ?side4 A3.out).mono ?_); (case side1 => repeat (first | exact (Kd.C_below HR0_3.out HB.out) | (with_reducible refine Kd.C_alloc ?_ _) | (with_reducible refine Kd.C_drewN ?_ _) | (with_reducible refine Kd.C_drew ?_))); (case side2 => exact HC0_3.out); (case side3 => repeat (first | exact (Kd.C_below HR1_3.out HB.out) | (with_reducible refine Kd.C_alloc ?_ _) | (with_reducible refine Kd.C_drewN ?_ _) | (with_reducible refine Kd.C_drew ?_))); (case side4 => exact HC1_3.out); rintro e w' ⟨rfl, ⟨nd, rfl⟩⟩; refine ⟨_, rfl, ?_⟩))
      go_ret
      exact ⟨by first | rfl | (simp [errW_none, errW_some] <;> rfl) | (simp [*, errW_none, errW_some] <;> rfl) | (simp [q_ne_nil]; done), by repeat (first | (with_reducible first | exact HB.out | apply below_alloc | apply pw_below_drewN | apply below_drew1 | refine below_set ?_ GE241.out | refine below_set ?_ GE242.out) | exact HB.out)⟩
  · replace c4 := Bool.eq_false_iff.mpr c4
    subst c4
    have H1 : (some false) = some r := by rw [if_neg (show ¬ (false = true) by decide)] at H; exact H
    clear H
    have H := H1
    clear H1
    obtain rfl := Option.some.inj H
    go_enter Tryz.func9, Tryz.ntmps9
    go_wp2_with (first | ((with_reducible refine gate_dst (N := 2) rfl ?_); refine box_event ?hg (N := 2) ?hd (cs := #[.int .i64 a0_0, .int .i64 a0_1, .string a0_2, .slice A0_3 l0_3.length c0_3]) (t := 25) ?hr ?_; (case hd => rfl); (case hg => rfl); (case hr => first | (go_simp; done) | (go_simp; rfl)); intro gb241 hg w22 hbox hb; have n0_ := Aside0.mk (below_step (by repeat (first | (with_reducible first | exact HB.out | apply below_alloc | apply pw_below_drewN | apply below_drew1) | exact HB.out)) hb); have n1_ := Aside0.mk (hbox); have n2_ := Aside0.mk ((by rw [hg]; exact (below_size (by repeat (first | (with_reducible first | exact HB.out | apply below_alloc | apply pw_below_drewN | apply below_drew1) | exact HB.out))) : w.heap.size ≤ gb241)); have n3_ := Aside0.mk ((by rw [hg]; exact (below_size (by repeat (first | (with_reducible first | exact HB.out | apply below_alloc | apply pw_below_drewN | apply below_drew1) | exact HB.out))) : w.heap.size ≤ gb241)); clear HB; have HB := n0_; have BK241 := n1_; have GW241 := n2_; have GE241 := n3_; clear n0_ n1_ n2_ n3_; clear hb hbox hg) | ((with_reducible refine gate_dst (N := 3) rfl ?_); refine box_event ?hg (N := 3) ?hd (cs := #[.int .i64 a1_0, .int .i64 a1_1, .string a1_2, .slice A1_3 l1_3.length c1_3]) (t := 25) ?hr ?_; (case hd => rfl); (case hg => rfl); (case hr => first | (go_simp; done) | (go_simp; rfl)); intro gb242 hg w23 hbox hb; have n0_ := Aside0.mk (blk_below (g := gb241) (o := .cells #[.int .i64 a0_0, .int .i64 a0_1, .string a0_2, .slice A0_3 l0_3.length c0_3] 25 (0, 0)) (by (with_reducible repeat (first | refine blk_drewN ?_ _ | refine blk_drew ?_ | refine blk_alloc ?_ _)); exact BK241.out) hb); have n1_ := Aside0.mk (below_step (by repeat (first | (with_reducible first | exact HB.out | apply below_alloc | apply pw_below_drewN | apply below_drew1 | refine below_set ?_ GE241.out) | exact HB.out)) hb); have n2_ := Aside0.mk (hbox); have n3_ := Aside0.mk ((by rw [hg]; exact (below_size (by repeat (first | (with_reducible first | exact HB.out | apply below_alloc | apply pw_below_drewN | apply below_drew1 | refine below_set ?_ GE241.out) | exact HB.out))) : w.heap.size ≤ gb242)); have n4_ := Aside0.mk ((by rw [hg]; exact (below_size (by repeat (first | (with_reducible first | exact HB.out | apply below_alloc | apply pw_below_drewN | apply below_drew1 | refine below_set ?_ GE241.out) | exact HB.out))) : w.heap.size ≤ gb242)); have n5_ := Aside0.mk ((by rw [hg]; exact Nat.ne_of_lt (blk_lt (g := gb241) (o := .cells #[.int .i64 a0_0, .int .i64 a0_1, .string a0_2, .slice A0_3 l0_3.length c0_3] 25 (0, 0)) (by (with_reducible repeat (first | refine blk_drewN ?_ _ | refine blk_drew ?_ | refine blk_alloc ?_ _)); exact BK241.out)) : gb241 ≠ gb242)); have n6_ := Aside0.mk ((by rw [hg]; exact Nat.ne_of_gt (blk_lt (g := gb241) (o := .cells #[.int .i64 a0_0, .int .i64 a0_1, .string a0_2, .slice A0_3 l0_3.length c0_3] 25 (0, 0)) (by (with_reducible repeat (first | refine blk_drewN ?_ _ | refine blk_drew ?_ | refine blk_alloc ?_ _)); exact BK241.out)) : gb242 ≠ gb241)); clear BK241; clear HB; have BK241 := n0_; have HB := n1_; have BK242 := n2_; have GW242 := n3_; have GE242 := n4_; have NB241_242 := n5_; have NB242_241 := n6_; clear n0_ n1_ n2_ n3_ n4_ n5_ n6_; clear hb hbox hg; have hnb24 := NB241_242.out; have hnc24 := NB242_241.out; have hcz25_0 : w23.cell? ⟨gb241, 0, none⟩ = some (.int .i64 a0_0) := (blk_cell BK241.out 0).trans rfl; have hcz25_1 : w23.cell? ⟨gb241, 1, none⟩ = some (.int .i64 a0_1) := (blk_cell BK241.out 1).trans rfl; have hcz25_2 : w23.cell? ⟨gb241, 2, none⟩ = some (.string a0_2) := (blk_cell BK241.out 2).trans rfl; have hcz25_3 : w23.cell? ⟨gb241, 3, none⟩ = some (.slice A0_3 l0_3.length c0_3) := (blk_cell BK241.out 3).trans rfl; have hfz25_0 := blk_frozen BK241.out 0; have hfz25_1 := blk_frozen BK241.out 1; have hfz25_2 := blk_frozen BK241.out 2; have hfz25_3 := blk_frozen BK241.out 3; have hcz26_0 : w23.cell? ⟨gb242, 0, none⟩ = some (.int .i64 a1_0) := (blk_cell BK242.out 0).trans rfl; have hcz26_1 : w23.cell? ⟨gb242, 1, none⟩ = some (.int .i64 a1_1) := (blk_cell BK242.out 1).trans rfl; have hcz26_2 : w23.cell? ⟨gb242, 2, none⟩ = some (.string a1_2) := (blk_cell BK242.out 2).trans rfl; have hcz26_3 : w23.cell? ⟨gb242, 3, none⟩ = some (.slice A1_3 l1_3.length c1_3) := (blk_cell BK242.out 3).trans rfl; have hfz26_0 := blk_frozen BK242.out 0; have hfz26_1 := blk_frozen BK242.out 1; have hfz26_2 := blk_frozen BK242.out 2; have hfz26_3 := blk_frozen BK242.out 3) | ((with_reducible refine gate_callee (f := 19) rfl ?_); refine goesL_ (some 10) rfl rfl Tryz.func19 (by kernel_rfl) rfl #[.slice A0_3 l0_3.length c0_3, .slice A1_3 l1_3.length c1_3] rfl (by (try simp only [List.map_toArray, List.map_cons, List.map_nil]); first | done | rfl | (simp only [List.length_drop, List.length_take]; rfl)) ?_; (with_reducible refine (glacisref05_SameParams.calls k _ _ l0_3 _ _ l1_3 false _ ?side1 ?side2 ?side3 ?side4 A3.out).mono ?_); (case side1 => repeat (first | exact (Kd.C_below HR0_3.out HB.out) | (with_reducible refine Kd.C_alloc ?_ _) | (with_reducible refine Kd.C_drewN ?_ _) | (with_reducible refine Kd.C_drew ?_))); (case side2 => exact HC0_3.out); (case side3 => repeat (first | exact (Kd.C_below HR1_3.out HB.out) | (with_reducible refine Kd.C_alloc ?_ _) | (with_reducible refine Kd.C_drewN ?_ _) | (with_reducible refine Kd.C_drew ?_))); (case side4 => exact HC1_3.out); rintro e w' ⟨rfl, ⟨nd, rfl⟩⟩; refine ⟨_, rfl, ?_⟩))
    go_ret
    exact ⟨by first | rfl | (simp [errW_none, errW_some] <;> rfl) | (simp [*, errW_none, errW_some] <;> rfl) | (simp [q_ne_nil]; done), by repeat (first | (with_reducible first | exact HB.out | apply below_alloc | apply pw_below_drewN | apply below_drew1 | refine below_set ?_ GE241.out | refine below_set ?_ GE242.out) | exact HB.out)⟩
open Go.Proofs.YtbbaokjkmcfceaaGreatDoor.Sf
/-- A block of a row of parameters. -/
def LB (W : World) (b : Nat) (v : Value) : Prop := W.heap[b]? = some (.cells #[v] 23 (0, 0))
theorem LB.cell {W : World} {b : Nat} {v : Value} (h : LB W b v) : W.cell? ⟨b, 0, none⟩ = some v := (blk_cell h 0).trans rfl
theorem LB.set {W : World} {b : Nat} {v : Value} (h : LB W b v) (u : Value) : LB (W.setCell ⟨b, 0, none⟩ u) b u := by have := blk_set h 0 u; simpa [LB] using this
theorem LB.far {W : World} {b : Nat} {v : Value} (h : LB W b v) {p : Addr} (hp : b ≠ p.block) (u : Value) : LB (W.setCell p u) b v := blk_far h hp u
set_option maxRecDepth 100000 in
set_option maxHeartbeats 2000000 in
theorem params_catch_panicking (pe pk pr : Nat) (v1 : Value) (s2 : ByteArray) (n : Int) (w : World) (he : w.heap[pe]? = some (.cells #[.int .i64 n] 26 (0, 0))) (hk : LB w pk v1) (hr : SB w pr s2) :
    CallsD Tryz.prog 31 #[.pointer (some ⟨pe, 0, none⟩), .pointer (some ⟨pk, 0, none⟩), .pointer (some ⟨pr, 0, none⟩)] (.panicking [thrown false]) w fun e u' w' =>
      e = .returned (.tuple #[]) ∧ u' = .panicking [thrown true] ∧ w' = ((w.setCell ⟨pe, 0, none⟩ (.int .i64 50)).setCell ⟨pk, 0, none⟩ (.slice none 0 0)).setCell ⟨pr, 0, none⟩ (.string ⟨#[]⟩) := by
  have hne1 : pe ≠ pk := blk_ne he hk (by decide)
  have hne2 : pe ≠ pr := blk_ne he hr (by decide)
  have hne3 : pk ≠ pr := blk_ne hk hr (by decide)
  have hc0 : w.cell? ⟨pe, 0, none⟩ = some (.int .i64 n) := (blk_cell he 0).trans rfl
  have hf0 := blk_frozen he 0
  have hc1 := hk.cell
  have hf1 := blk_frozen hk 0
  have hc2 := hr.cell
  have hf2 := blk_frozen hr 0
  refine callsD_of_wpS Tryz.func31 rfl fun c₀ cs hu => ?_
  apply wpS_seq
  apply wpS_region
  simp [wpOpsS, go_sem, recoverD, hu, Tryz.ntmps31, Exit.thenS]
  refine (caught_some _).mono ?_
  rintro e w' ⟨rfl, rfl⟩
  simp [go_sem, hc0, hf0]
  refine wpS_of_wp ?_
  go_wp2
  simp [bodyPostS, results, Tryz.results31]
set_option maxRecDepth 100000 in
set_option maxHeartbeats 2000000 in
theorem params_catch_idle (pe pk pr : Nat) (n : Int) (w : World) (he : w.heap[pe]? = some (.cells #[.int .i64 n] 26 (0, 0))) :
    CallsD Tryz.prog 31 #[.pointer (some ⟨pe, 0, none⟩), .pointer (some ⟨pk, 0, none⟩), .pointer (some ⟨pr, 0, none⟩)] .returning w fun e u' w' =>
      e = .returned (.tuple #[]) ∧ u' = .returning ∧ w' = w.setCell ⟨pe, 0, none⟩ (.int .i64 0) := by
  have hc0 : w.cell? ⟨pe, 0, none⟩ = some (.int .i64 n) := (blk_cell he 0).trans rfl
  have hf0 := blk_frozen he 0
  refine callsD_of_wpS Tryz.func31 rfl fun c₀ cs hu => ?_
  apply wpS_seq
  apply wpS_region
  simp [wpOpsS, go_sem, recoverD, hu, Tryz.ntmps31, Exit.thenS]
  refine (caught_none _).mono ?_
  rintro e w' ⟨rfl, rfl⟩
  simp [go_sem, hc0, hf0]
  refine wpS_of_wp ?_
  go_wp2
  cases c₀
  simp_all [bodyPostS, results, Tryz.results31]
/-- Params' four blocks. -/
structure P4 (w W : World) (s : ByteArray) : Prop where
  row : LB W w.heap.size (.slice none 0 0)
  rest : SB W (w.heap.size + 1) ⟨#[]⟩
  err : EB W (w.heap.size + 1 + 1) 0
  rd : Rd W (w.heap.size + 1 + 1 + 1) s
  below : Below w.heap.size w W
theorem P4.new (w : World) (s : ByteArray) : P4 w ((((w.alloc (.cells #[.slice none 0 0] 23)).alloc (.cells #[.string ⟨#[]⟩] 9)).alloc (.cells #[.int .i64 0] 26)).alloc (.cells #[.string s] 53)) s where
  row := blk_alloc (blk_alloc (blk_alloc (by have := blk_new w (.cells #[.slice none 0 0] 23); simpa using this) _) _) _
  rest := blk_alloc (blk_alloc (by have := blk_new (w.alloc (.cells #[.slice none 0 0] 23)) (.cells #[.string ⟨#[]⟩] 9); simpa using this) _) _
  err := blk_alloc (by have := blk_new ((w.alloc (.cells #[.slice none 0 0] 23)).alloc (.cells #[.string ⟨#[]⟩] 9)) (.cells #[.int .i64 0] 26); simpa using this) _
  rd := by have := blk_new (((w.alloc (.cells #[.slice none 0 0] 23)).alloc (.cells #[.string ⟨#[]⟩] 9)).alloc (.cells #[.int .i64 0] 26)) (.cells #[.string s] 53); simpa [Rd] using this
  below := ((((Below.refl _ _).alloc (Nat.le_refl _) _).alloc (by simp) _).alloc (by simp; omega) _).alloc (by simp; omega) _
/-- What Params' results read as. -/
theorem params_results (w : World) (tmps : Array Value) (W : World) (u : ByteArray) (v : Value) (c : Int) (h2 : tmps.getD 2 undef = .pointer (some ⟨w.heap.size, 0, none⟩)) (h3 : tmps.getD 3 undef = .pointer (some ⟨w.heap.size + 1, 0, none⟩)) (h4 : tmps.getD 4 undef = .pointer (some ⟨w.heap.size + 1 + 1, 0, none⟩))
    (hI : LB W w.heap.size v) (hS : SB W (w.heap.size + 1) u) (hE : EB W (w.heap.size + 1 + 1) c) :
    (results Tryz.f17 tmps).run Tryz.prog W = .ok (.tuple #[v, .string u, .int .i64 c]) W := by
  have c3 := hI.cell
  have c4 := hS.cell
  have c5 := hE.cell
  have h2' : tmps[2]?.getD undef = .pointer (some ⟨w.heap.size, 0, none⟩) := by simpa using h2
  have h3' : tmps[3]?.getD undef = .pointer (some ⟨w.heap.size + 1, 0, none⟩) := by simpa using h3
  have h4' : tmps[4]?.getD undef = .pointer (some ⟨w.heap.size + 1 + 1, 0, none⟩) := by simpa using h4
  simp [results, Tryz.results17, go_sem, h2', h3', h4', c3, c4, c5]
def ParamsPost (s : ByteArray) (w : World) (e : Ending) (w' : World) : Prop :=
  (match rdParams s with
    | some (l, t) => ∃ u : Value, e = .returned (.tuple #[u, .string t, .int .i64 0]) ∧ Kd.R k43 43 w' w.heap.size (fun _ => True) u l
    | none => e = .returned (.tuple #[.slice none 0 0, .string ⟨#[]⟩, .int .i64 50])) ∧ Below w.heap.size w w'
theorem ParamsPost.dead {s : ByteArray} {w w' : World} (h : rdParams s = none) (hb : Below w.heap.size w w') : ParamsPost s w (.returned (.tuple #[.slice none 0 0, .string ⟨#[]⟩, .int .i64 50])) w' := by
  refine ⟨?_, hb⟩
  rw [h]
theorem ParamsPost.ok {s : ByteArray} {w w' : World} {l : List S43} {t : ByteArray} {u : Value} (h : rdParams s = some (l, t)) (hR : Kd.R k43 43 w' w.heap.size (fun _ => True) u l) (hb : Below w.heap.size w w') : ParamsPost s w (.returned (.tuple #[u, .string t, .int .i64 0])) w' := by
  refine ⟨?_, hb⟩
  rw [h]
  exact ⟨u, rfl, hR⟩
set_option maxRecDepth 100000 in
set_option maxHeartbeats 8000000 in
theorem Params_calls (s : ByteArray) (w : World) (hs : s.size ≤ 2199023255552) :
    Calls Tryz.prog 17 #[.string s] w fun e w' => ParamsPost s w e w' := by
  have hmf : ∀ (fn : Fn) (first cap : Array Value) (w : World), (Instr.makeFunc fn first cap).run Tryz.prog w = .ok (.func fn first cap) w := fun _ _ _ _ => rfl
  have h4 := Aside0.mk (P4.new w s)
  go_enter_defers Tryz.func17, Tryz.ntmps17
  go_upto_region 3 with (fail)
  generalize (((w.alloc (.cells #[.slice none 0 0] 23)).alloc (.cells #[.string ⟨#[]⟩] 9)).alloc (.cells #[.int .i64 0] 26)).alloc (.cells #[.string s] 53) = w3 at *
  have hPc := params_calls _ s w3 (by omega) h4.out.rd
  cases hM : rdParams s with
  | none =>
    have HF := Aside0.mk hM
    rw [hM] at hPc
    have hPa := Aside0.mk hPc
    clear hPc hM
    go_wp2_with (first | (go_at_call 29; refine hPa.out.mono ?_; rintro e w4 ⟨rfl, hB4⟩))
    have hI4 : LB w4 w.heap.size (.slice none 0 0) := hB4.blk h4.out.row (by omega)
    have hS4 : SB w4 (w.heap.size + 1) ⟨#[]⟩ := hB4.blk h4.out.rest (by omega)
    have hE4 : EB w4 (w.heap.size + 1 + 1) 0 := hB4.blk h4.out.err (by omega)
    have hb4 := hB4.toBelow h4.out.below (by omega)
    clear hB4
    refine leaves_cons (f := 31) (args := #[.pointer (some ⟨w.heap.size + 1 + 1, 0, none⟩), .pointer (some ⟨w.heap.size, 0, none⟩), .pointer (some ⟨w.heap.size + 1, 0, none⟩)]) (by simp) (by simp [go_sem]) ?_
    refine (params_catch_panicking _ _ _ _ _ _ _ hE4 hI4 hS4).mono ?_
    rintro e u' w'' ⟨rfl, rfl, rfl⟩
    have hI9 := ((hI4.far (p := ⟨w.heap.size + 1 + 1, 0, none⟩) (by simp only; omega) (.int .i64 50)).set (.slice none 0 0)).far (p := ⟨w.heap.size + 1, 0, none⟩) (by simp only; omega) (.string ⟨#[]⟩)
    have hS9 := ((hS4.far (p := ⟨w.heap.size + 1 + 1, 0, none⟩) (by simp only; omega) (.int .i64 50)).far (p := ⟨w.heap.size, 0, none⟩) (by simp only; omega) (.slice none 0 0)).set ⟨#[]⟩
    have hE9 := ((hE4.set 50).far (p := ⟨w.heap.size, 0, none⟩) (by simp only; omega) (.slice none 0 0)).far (p := ⟨w.heap.size + 1, 0, none⟩) (by simp only; omega) (.string ⟨#[]⟩)
    have hb9 := ((hb4.setCell (p := ⟨w.heap.size + 1 + 1, 0, none⟩) (by simp only; omega) (.int .i64 50)).setCell (p := ⟨w.heap.size, 0, none⟩) (by simp only; omega) (.slice none 0 0)).setCell (p := ⟨w.heap.size + 1, 0, none⟩) (by simp only; omega) (.string ⟨#[]⟩)
    generalize ((w4.setCell ⟨w.heap.size + 1 + 1, 0, none⟩ (.int .i64 50)).setCell ⟨w.heap.size, 0, none⟩ (.slice none 0 0)).setCell ⟨w.heap.size + 1, 0, none⟩ (.string ⟨#[]⟩) = w9 at *
    refine ⟨.tuple #[.slice none 0 0, .string ⟨#[]⟩, .int .i64 50], ?_, ?_⟩
    · exact params_results w _ w9 ⟨#[]⟩ (.slice none 0 0) 50 rfl rfl rfl hI9 hS9 hE9
    · exact ParamsPost.dead HF.out hb9
  | some lr =>
    obtain ⟨l, r⟩ := lr
    have HF := Aside0.mk hM
    rw [hM] at hPc
    have hPa := Aside0.mk hPc
    clear hPc hM
    go_upto_region 4 with (first | (go_at_call 29; refine hPa.out.mono ?_; rintro e w7 ⟨⟨v, rfl, hL7, hR7⟩, hB7⟩; obtain ⟨A7, c7, hv7⟩ := Kd.R_slice hL7; subst hv7; have hI7 : LB w7 w.heap.size (.slice none 0 0) := hB7.blk h4.out.row (by omega); have i3 := hI7.cell; have j3 := blk_frozen hI7 0))
    have hS7 : SB w7 (w.heap.size + 1) ⟨#[]⟩ := hB7.blk h4.out.rest (by omega)
    have hE7 : EB w7 (w.heap.size + 1 + 1) 0 := hB7.blk h4.out.err (by omega)
    have hb7 := hB7.toBelow h4.out.below (by omega)
    have hL8 := Kd.R_set (Kd.R_lower hL7 h4.out.below.size) hI7 (by decide) 0 (.slice A7 l.length c7)
    have hI8 := hI7.set (.slice A7 l.length c7)
    have hS8 := hS7.far (p := ⟨w.heap.size, 0, none⟩) (by simp only; omega) (.slice A7 l.length c7)
    have hE8 := hE7.far (p := ⟨w.heap.size, 0, none⟩) (by simp only; omega) (.slice A7 l.length c7)
    have hR8 := hR7.far (p := ⟨w.heap.size, 0, none⟩) (by simp only; omega) (.slice A7 l.length c7)
    have hb8 := hb7.setCell (p := ⟨w.heap.size, 0, none⟩) (by simp only; omega) (.slice A7 l.length c7)
    clear hL7 hI7 hS7 hE7 hR7 hb7 hB7 i3 j3 hPa
    generalize w7.setCell ⟨w.heap.size, 0, none⟩ (.slice A7 l.length c7) = w8 at *
    have i3 := hI8.cell
    have j3 := blk_frozen hI8 0
    have c1 := hS8.cell
    have f1 := blk_frozen hS8 0
    have c2 := hE8.cell
    have f2 := blk_frozen hE8 0
    have c3 := hR8.cell
    go_region
    have hL9 := Kd.R_set (Kd.R_set (Kd.R_set hL8 hI8 (by decide) 0 (.slice A7 l.length c7)) (show SB _ (w.heap.size + 1) ⟨#[]⟩ from SB.far hS8 (p := ⟨w.heap.size, 0, none⟩) (by simp only; omega) _) (by decide) 0 (.string r)) (show EB _ (w.heap.size + 1 + 1) 0 from EB.far (EB.far hE8 (p := ⟨w.heap.size, 0, none⟩) (by simp only; omega) (.slice A7 l.length c7)) (p := ⟨w.heap.size + 1, 0, none⟩) (by simp only; omega) (.string r)) (by decide) 0 (.int .i64 0)
    have hI9 := ((hI8.set (.slice A7 l.length c7)).far (p := ⟨w.heap.size + 1, 0, none⟩) (by simp only; omega) (.string r)).far (p := ⟨w.heap.size + 1 + 1, 0, none⟩) (by simp only; omega) (.int .i64 0)
    have hS9 := ((hS8.far (p := ⟨w.heap.size, 0, none⟩) (by simp only; omega) (.slice A7 l.length c7)).set r).far (p := ⟨w.heap.size + 1 + 1, 0, none⟩) (by simp only; omega) (.int .i64 0)
    have hE9 := ((hE8.far (p := ⟨w.heap.size, 0, none⟩) (by simp only; omega) (.slice A7 l.length c7)).far (p := ⟨w.heap.size + 1, 0, none⟩) (by simp only; omega) (.string r)).set 0
    have hb9 := ((hb8.setCell (p := ⟨w.heap.size, 0, none⟩) (by simp only; omega) (.slice A7 l.length c7)).setCell (p := ⟨w.heap.size + 1, 0, none⟩) (by simp only; omega) (.string r)).setCell (p := ⟨w.heap.size + 1 + 1, 0, none⟩) (by simp only; omega) (.int .i64 0)
    clear hL8 hI8 hS8 hE8 hR8 hb8 i3 j3 c1 f1 c2 f2 c3
    generalize ((w8.setCell ⟨w.heap.size, 0, none⟩ (.slice A7 l.length c7)).setCell ⟨w.heap.size + 1, 0, none⟩ (.string r)).setCell ⟨w.heap.size + 1 + 1, 0, none⟩ (.int .i64 0) = w9 at *
    have hLa := Kd.R_drew hL9
    have hIa : LB w9.drew w.heap.size (.slice A7 l.length c7) := hI9
    have hSa : SB w9.drew (w.heap.size + 1) r := hS9
    have hEa : EB w9.drew (w.heap.size + 1 + 1) 0 := hE9
    have hba : Below w.heap.size w w9.drew := below_drew1 hb9
    clear hL9 hI9 hS9 hE9 hb9
    generalize w9.drew = wa at *
    go_wp2
    refine leaves_cons (f := 31) (args := #[.pointer (some ⟨w.heap.size + 1 + 1, 0, none⟩), .pointer (some ⟨w.heap.size, 0, none⟩), .pointer (some ⟨w.heap.size + 1, 0, none⟩)]) (by simp) (by simp [go_sem]) ?_
    refine (params_catch_idle _ _ _ _ _ hEa).mono ?_
    rintro e u' w'' ⟨rfl, rfl, rfl⟩
    have hLb := Kd.R_mono (ok' := fun _ => True) (Kd.R_set hLa hEa (by decide) 0 (.int .i64 0)) (fun _ _ => trivial)
    have hIb := hIa.far (p := ⟨w.heap.size + 1 + 1, 0, none⟩) (by simp only; omega) (.int .i64 0)
    have hSb := hSa.far (p := ⟨w.heap.size + 1 + 1, 0, none⟩) (by simp only; omega) (.int .i64 0)
    have hEb := hEa.set 0
    have hbb := hba.setCell (p := ⟨w.heap.size + 1 + 1, 0, none⟩) (by simp only; omega) (.int .i64 0)
    clear hLa hIa hSa hEa hba
    generalize wa.setCell ⟨w.heap.size + 1 + 1, 0, none⟩ (.int .i64 0) = wb at *
    refine ⟨.tuple #[.slice A7 l.length c7, .string r, .int .i64 0], ?_, ?_⟩
    · exact params_results w _ wb r (.slice A7 l.length c7) 0 rfl rfl rfl hIb hSb hEb
    · exact ParamsPost.ok HF.out hLb hbb
def sfitem_Params.f (a0 : ByteArray) : Option (List S43 × ByteArray × Int) :=
  if a0.size ≤ 2199023255552 then (match rdParams a0 with | some (l, t) => some (l, t, 0) | none => some ([], ⟨#[]⟩, 50)) else none
theorem sfitem_Params.calls (a0 : ByteArray) (r1 : List S43) (r2 : ByteArray) (r3 : Int) (w : World) (h : sfitem_Params.f a0 = some (r1, r2, r3)) :
    Calls Tryz.prog 17 #[.string a0] w fun e w' => ∃ v1_ : Value, e = .returned (.tuple #[v1_, .string r2, .int .i64 r3]) ∧ Kd.R k43 43 w' w.heap.size (fun _ => True) v1_ r1 ∧ Below w.heap.size w w' := by
  unfold sfitem_Params.f at h
  by_cases hs : a0.size ≤ 2199023255552
  · rw [if_pos hs] at h
    refine (Params_calls a0 w hs).mono ?_
    intro e w' hp
    unfold ParamsPost at hp
    cases hN : rdParams a0 with
    | none =>
      rw [hN] at h hp
      simp only [Option.some.injEq, Prod.mk.injEq] at h
      obtain ⟨rfl, rfl, rfl⟩ := h
      exact ⟨.slice none 0 0, hp.1, Kd.R_nil _ _ _ _ _, hp.2⟩
    | some y =>
      obtain ⟨l, t⟩ := y
      rw [hN] at h hp
      simp only [Option.some.injEq, Prod.mk.injEq] at h
      obtain ⟨rfl, rfl, rfl⟩ := h
      obtain ⟨⟨u, he, hR⟩, hb⟩ := hp
      exact ⟨u, he, hR, hb⟩
  · rw [if_neg hs] at h; cases h
end Go.Proofs.YtbbaokjkmcfceaaGreatDoor.Q
namespace Go.Proofs.YtbbaokjkmcfceaaGreatDoor.Q
open Go.RowKit Go.Proofs.YtbbaokjkmcfceaaGreatDoorW.PrintWords Go.Proofs.YtbbaokjkmcfceaaGreatDoorW.PrintLast Go.Proofs.YtbbaokjkmcfceaaGreatDoorW.PrintMore
set_option linter.unusedVariables false
set_option linter.unusedSimpArgs false
def glacislaw05_SfitemBegins.f (k : Nat) (a0 : ByteArray) : Option (Bool) := (glacislaw05_awake.f).bind fun t262 => (if (a0.size : Int) > 4000 then (some t262) else ((sfitem_Next.f a0).bind fun bt263 => ((glacisref05_Next.f k a0).bind fun bt272 => ((glacisref05_Same.f k bt263.1 bt263.2.1 bt263.2.2.1 bt263.2.2.2.1 bt272.1 bt272.2.1 bt272.2.2.1 bt272.2.2.2.1).bind fun t281 => ((sfitem_Params.f a0).bind fun bt282 => ((glacisref05_Params.f k a0).bind fun bt287 => ((glacisref05_SameParams.f k bt282.1 bt287.1).bind fun t292 => ((sfitem_Key.f a0).bind fun bt293 => ((glacisref05_Key.f k a0).bind fun bt296 => (if t262 = true then (if t281 = true then (if bt263.2.2.2.2.1.toList = bt272.2.2.2.2.1.toList then (if bt263.2.2.2.2.2 = bt272.2.2.2.2.2 then (if t292 = true then (if bt282.2.1.toList = bt287.2.1.toList then (if bt282.2.2 = bt287.2.2 then (if bt293.1.toList = bt296.1.toList then (if bt293.2.1.toList = bt296.2.1.toList then (some (bt293.2.2 == bt296.2.2)) else (none)) else (none)) else (none)) else (none)) else (none)) else (none)) else (none)) else (none)) else (none)))))))))))
set_option maxHeartbeats 8000000 in
set_option maxRecDepth 100000 in
theorem glacislaw05_SfitemBegins.calls (k : Nat) (a0 : ByteArray) (r : Bool) (w : World) (hT_ : Aside0 (TabW w)) (h : glacislaw05_SfitemBegins.f k a0 = some r) :
    Calls Tryz.prog 5 #[.string a0] w fun e w' => e = .returned (.bool r) ∧ Below w.heap.size w w' := by
  have hu25 := Tryz.underlying25
  have HB := Aside0.mk (Below.refl w.heap.size w)
  have H : ((glacislaw05_awake.f).bind fun t262 => (if (a0.size : Int) > 4000 then (some t262) else ((sfitem_Next.f a0).bind fun bt263 => ((glacisref05_Next.f k a0).bind fun bt272 => ((glacisref05_Same.f k bt263.1 bt263.2.1 bt263.2.2.1 bt263.2.2.2.1 bt272.1 bt272.2.1 bt272.2.2.1 bt272.2.2.2.1).bind fun t281 => ((sfitem_Params.f a0).bind fun bt282 => ((glacisref05_Params.f k a0).bind fun bt287 => ((glacisref05_SameParams.f k bt282.1 bt287.1).bind fun t292 => ((sfitem_Key.f a0).bind fun bt293 => ((glacisref05_Key.f k a0).bind fun bt296 => (if t262 = true then (if t281 = true then (if bt263.2.2.2.2.1.toList = bt272.2.2.2.2.1.toList then (if bt263.2.2.2.2.2 = bt272.2.2.2.2.2 then (if t292 = true then (if bt282.2.1.toList = bt287.2.1.toList then (if bt282.2.2 = bt287.2.2 then (if bt293.1.toList = bt296.1.toList then (if bt293.2.1.toList = bt296.2.1.toList then (some (bt293.2.2 == bt296.2.2)) else (none)) else (none)) else (none)) else (none)) else (none)) else (none)) else (none)) else (none)) else (none)))))))))))) = some r := h
  clear h
  replace H := Option.bind_eq_some_iff.mp H
  obtain ⟨t262, A20, H⟩ := H
  replace H : (if (a0.size : Int) > 4000 then (some t262) else ((sfitem_Next.f a0).bind fun bt263 => ((glacisref05_Next.f k a0).bind fun bt272 => ((glacisref05_Same.f k bt263.1 bt263.2.1 bt263.2.2.1 bt263.2.2.2.1 bt272.1 bt272.2.1 bt272.2.2.1 bt272.2.2.2.1).bind fun t281 => ((sfitem_Params.f a0).bind fun bt282 => ((glacisref05_Params.f k a0).bind fun bt287 => ((glacisref05_SameParams.f k bt282.1 bt287.1).bind fun t292 => ((sfitem_Key.f a0).bind fun bt293 => ((glacisref05_Key.f k a0).bind fun bt296 => (if t262 = true then (if t281 = true then (if bt263.2.2.2.2.1.toList = bt272.2.2.2.2.1.toList then (if bt263.2.2.2.2.2 = bt272.2.2.2.2.2 then (if t292 = true then (if bt282.2.1.toList = bt287.2.1.toList then (if bt282.2.2 = bt287.2.2 then (if bt293.1.toList = bt296.1.toList then (if bt293.2.1.toList = bt296.2.1.toList then (some (bt293.2.2 == bt296.2.2)) else (none)) else (none)) else (none)) else (none)) else (none)) else (none)) else (none)) else (none)) else (none))))))))))) = some r := H
  have A2 := Aside0.mk A20
  clear A20
  by_cases c3 : (a0.size : Int) > 4000
  · rw [if_pos c3] at H
    have c3b0 : decide (4000 < (a0.size : Int)) = true := decide_eq_true c3
    have c3b1 : decide (4000 < a0.size) = true := decide_eq_true (by omega)
    clear c3
    obtain rfl := Option.some.inj H
    go_enter Tryz.func5, Tryz.ntmps5
    go_wp2_with (first | ((with_reducible refine gate_callee (f := 6) rfl ?_); refine goesL_ (some 24) rfl rfl Tryz.func6 (by kernel_rfl) rfl #[] rfl (by (try simp only [List.map_toArray, List.map_cons, List.map_nil]); first | done | rfl | (simp only [List.length_drop, List.length_take]; rfl)) ?_; (with_reducible refine (glacislaw05_awake.calls  t262 _ (tab_ hT_ ?hTab) A2.out).mono ?_); (case hTab => exact (by repeat (first | (with_reducible first | exact HB.out | apply below_alloc | apply pw_below_drewN | apply below_drew1) | exact HB.out))); rintro e w4 ⟨rfl, hb⟩; refine ⟨_, rfl, ?_⟩; have n0_ := Aside0.mk (below_step (by repeat (first | (with_reducible first | exact HB.out | apply below_alloc | apply pw_below_drewN | apply below_drew1) | exact HB.out)) hb); clear HB; have HB := n0_; clear n0_; (try clear hb); (try clear hb2); (try clear hk); (try clear hi)))
    go_ret
    exact ⟨by first | rfl | (simp [errW_none, errW_some] <;> rfl) | (simp [*, errW_none, errW_some] <;> rfl) | (simp [q_ne_nil]; done), by repeat (first | (with_reducible first | exact HB.out | apply below_alloc | apply pw_below_drewN | apply below_drew1) | exact HB.out)⟩
  · rw [if_neg c3] at H
    have c3b0 : decide (4000 < (a0.size : Int)) = false := decide_eq_false c3
    have c3b1 : decide (4000 < a0.size) = false := decide_eq_false (by omega)
    clear c3
    replace H := Option.bind_eq_some_iff.mp H
    obtain ⟨⟨t263, t264, t265, t266, t269, t270⟩, A50, H⟩ := H
    replace H : ((glacisref05_Next.f k a0).bind fun bt272 => ((glacisref05_Same.f k t263 t264 t265 t266 bt272.1 bt272.2.1 bt272.2.2.1 bt272.2.2.2.1).bind fun t281 => ((sfitem_Params.f a0).bind fun bt282 => ((glacisref05_Params.f k a0).bind fun bt287 => ((glacisref05_SameParams.f k bt282.1 bt287.1).bind fun t292 => ((sfitem_Key.f a0).bind fun bt293 => ((glacisref05_Key.f k a0).bind fun bt296 => (if t262 = true then (if t281 = true then (if t269.toList = bt272.2.2.2.2.1.toList then (if t270 = bt272.2.2.2.2.2 then (if t292 = true then (if bt282.2.1.toList = bt287.2.1.toList then (if bt282.2.2 = bt287.2.2 then (if bt293.1.toList = bt296.1.toList then (if bt293.2.1.toList = bt296.2.1.toList then (some (bt293.2.2 == bt296.2.2)) else (none)) else (none)) else (none)) else (none)) else (none)) else (none)) else (none)) else (none)) else (none))))))))) = some r := H
    have A5 := Aside0.mk A50
    clear A50
    replace H := Option.bind_eq_some_iff.mp H
    obtain ⟨⟨t272, t273, t274, t275, t278, t279⟩, A60, H⟩ := H
    replace H : ((glacisref05_Same.f k t263 t264 t265 t266 t272 t273 t274 t275).bind fun t281 => ((sfitem_Params.f a0).bind fun bt282 => ((glacisref05_Params.f k a0).bind fun bt287 => ((glacisref05_SameParams.f k bt282.1 bt287.1).bind fun t292 => ((sfitem_Key.f a0).bind fun bt293 => ((glacisref05_Key.f k a0).bind fun bt296 => (if t262 = true then (if t281 = true then (if t269.toList = t278.toList then (if t270 = t279 then (if t292 = true then (if bt282.2.1.toList = bt287.2.1.toList then (if bt282.2.2 = bt287.2.2 then (if bt293.1.toList = bt296.1.toList then (if bt293.2.1.toList = bt296.2.1.toList then (some (bt293.2.2 == bt296.2.2)) else (none)) else (none)) else (none)) else (none)) else (none)) else (none)) else (none)) else (none)) else (none)))))))) = some r := H
    have A6 := Aside0.mk A60
    clear A60
    replace H := Option.bind_eq_some_iff.mp H
    obtain ⟨t281, A70, H⟩ := H
    replace H : ((sfitem_Params.f a0).bind fun bt282 => ((glacisref05_Params.f k a0).bind fun bt287 => ((glacisref05_SameParams.f k bt282.1 bt287.1).bind fun t292 => ((sfitem_Key.f a0).bind fun bt293 => ((glacisref05_Key.f k a0).bind fun bt296 => (if t262 = true then (if t281 = true then (if t269.toList = t278.toList then (if t270 = t279 then (if t292 = true then (if bt282.2.1.toList = bt287.2.1.toList then (if bt282.2.2 = bt287.2.2 then (if bt293.1.toList = bt296.1.toList then (if bt293.2.1.toList = bt296.2.1.toList then (some (bt293.2.2 == bt296.2.2)) else (none)) else (none)) else (none)) else (none)) else (none)) else (none)) else (none)) else (none)) else (none))))))) = some r := H
    have A7 := Aside0.mk A70
    clear A70
    replace H := Option.bind_eq_some_iff.mp H
    obtain ⟨⟨t282, t283, t284⟩, A80, H⟩ := H
    replace H : ((glacisref05_Params.f k a0).bind fun bt287 => ((glacisref05_SameParams.f k t282 bt287.1).bind fun t292 => ((sfitem_Key.f a0).bind fun bt293 => ((glacisref05_Key.f k a0).bind fun bt296 => (if t262 = true then (if t281 = true then (if t269.toList = t278.toList then (if t270 = t279 then (if t292 = true then (if t283.toList = bt287.2.1.toList then (if t284 = bt287.2.2 then (if bt293.1.toList = bt296.1.toList then (if bt293.2.1.toList = bt296.2.1.toList then (some (bt293.2.2 == bt296.2.2)) else (none)) else (none)) else (none)) else (none)) else (none)) else (none)) else (none)) else (none)) else (none)))))) = some r := H
    have A8 := Aside0.mk A80
    clear A80
    replace H := Option.bind_eq_some_iff.mp H
    obtain ⟨⟨t287, t288, t289⟩, A90, H⟩ := H
    replace H : ((glacisref05_SameParams.f k t282 t287).bind fun t292 => ((sfitem_Key.f a0).bind fun bt293 => ((glacisref05_Key.f k a0).bind fun bt296 => (if t262 = true then (if t281 = true then (if t269.toList = t278.toList then (if t270 = t279 then (if t292 = true then (if t283.toList = t288.toList then (if t284 = t289 then (if bt293.1.toList = bt296.1.toList then (if bt293.2.1.toList = bt296.2.1.toList then (some (bt293.2.2 == bt296.2.2)) else (none)) else (none)) else (none)) else (none)) else (none)) else (none)) else (none)) else (none)) else (none))))) = some r := H
    have A9 := Aside0.mk A90
    clear A90
    replace H := Option.bind_eq_some_iff.mp H
    obtain ⟨t292, A100, H⟩ := H
    replace H : ((sfitem_Key.f a0).bind fun bt293 => ((glacisref05_Key.f k a0).bind fun bt296 => (if t262 = true then (if t281 = true then (if t269.toList = t278.toList then (if t270 = t279 then (if t292 = true then (if t283.toList = t288.toList then (if t284 = t289 then (if bt293.1.toList = bt296.1.toList then (if bt293.2.1.toList = bt296.2.1.toList then (some (bt293.2.2 == bt296.2.2)) else (none)) else (none)) else (none)) else (none)) else (none)) else (none)) else (none)) else (none)) else (none)))) = some r := H
    have A10 := Aside0.mk A100
    clear A100
    replace H := Option.bind_eq_some_iff.mp H
    obtain ⟨⟨t293, t294, t295⟩, A110, H⟩ := H
    replace H : ((glacisref05_Key.f k a0).bind fun bt296 => (if t262 = true then (if t281 = true then (if t269.toList = t278.toList then (if t270 = t279 then (if t292 = true then (if t283.toList = t288.toList then (if t284 = t289 then (if t293.toList = bt296.1.toList then (if t294.toList = bt296.2.1.toList then (some (t295 == bt296.2.2)) else (none)) else (none)) else (none)) else (none)) else (none)) else (none)) else (none)) else (none)) else (none))) = some r := H
    have A11 := Aside0.mk A110
    clear A110
    replace H := Option.bind_eq_some_iff.mp H
    obtain ⟨⟨t296, t297, t298⟩, A120, H⟩ := H
    replace H : (if t262 = true then (if t281 = true then (if t269.toList = t278.toList then (if t270 = t279 then (if t292 = true then (if t283.toList = t288.toList then (if t284 = t289 then (if t293.toList = t296.toList then (if t294.toList = t297.toList then (some (t295 == t298)) else (none)) else (none)) else (none)) else (none)) else (none)) else (none)) else (none)) else (none)) else (none)) = some r := H
    have A12 := Aside0.mk A120
    clear A120
    by_cases c13 : t262 = true
    · subst c13
      have H1 : (if t281 = true then (if t269.toList = t278.toList then (if t270 = t279 then (if t292 = true then (if t283.toList = t288.toList then (if t284 = t289 then (if t293.toList = t296.toList then (if t294.toList = t297.toList then (some (t295 == t298)) else (none)) else (none)) else (none)) else (none)) else (none)) else (none)) else (none)) else (none)) = some r := by rw [if_pos rfl] at H; exact H
      clear H
      have H := H1
      clear H1
      by_cases c14 : t281 = true
      · subst c14
        have H1 : (if t269.toList = t278.toList then (if t270 = t279 then (if t292 = true then (if t283.toList = t288.toList then (if t284 = t289 then (if t293.toList = t296.toList then (if t294.toList = t297.toList then (some (t295 == t298)) else (none)) else (none)) else (none)) else (none)) else (none)) else (none)) else (none)) = some r := by rw [if_pos rfl] at H; exact H
        clear H
        have H := H1
        clear H1
        by_cases c15 : t269.toList = t278.toList
        · rw [if_pos c15] at H
          have c15b0 : (t269.toList == t278.toList) = true := beq_iff_eq.mpr c15
          have c15b1 : (t269.toList != t278.toList) = false := bne_eq_false_iff_eq.mpr c15
          clear c15
          by_cases c16 : t270 = t279
          · rw [if_pos c16] at H
            have c16b0 : (t270 == t279) = true := beq_iff_eq.mpr c16
            have c16b1 : (t270 != t279) = false := bne_eq_false_iff_eq.mpr c16
            clear c16
            by_cases c17 : t292 = true
            · subst c17
              have H1 : (if t283.toList = t288.toList then (if t284 = t289 then (if t293.toList = t296.toList then (if t294.toList = t297.toList then (some (t295 == t298)) else (none)) else (none)) else (none)) else (none)) = some r := by rw [if_pos rfl] at H; exact H
              clear H
              have H := H1
              clear H1
              by_cases c18 : t283.toList = t288.toList
              · rw [if_pos c18] at H
                have c18b0 : (t283.toList == t288.toList) = true := beq_iff_eq.mpr c18
                have c18b1 : (t283.toList != t288.toList) = false := bne_eq_false_iff_eq.mpr c18
                clear c18
                by_cases c19 : t284 = t289
                · rw [if_pos c19] at H
                  have c19b0 : (t284 == t289) = true := beq_iff_eq.mpr c19
                  have c19b1 : (t284 != t289) = false := bne_eq_false_iff_eq.mpr c19
                  clear c19
                  by_cases c20 : t293.toList = t296.toList
                  · rw [if_pos c20] at H
                    have c20b0 : (t293.toList == t296.toList) = true := beq_iff_eq.mpr c20
                    have c20b1 : (t293.toList != t296.toList) = false := bne_eq_false_iff_eq.mpr c20
                    clear c20
                    by_cases c21 : t294.toList = t297.toList
                    · rw [if_pos c21] at H
                      have c21b0 : (t294.toList == t297.toList) = true := beq_iff_eq.mpr c21
                      have c21b1 : (t294.toList != t297.toList) = false := bne_eq_false_iff_eq.mpr c21
                      clear c21
                      obtain rfl := Option.some.inj H
                      go_enter Tryz.func5, Tryz.ntmps5
                      go_wp2_with (first | ((with_reducible refine gate_callee (f := 6) rfl ?_); refine goesL_ (some 24) rfl rfl Tryz.func6 (by kernel_rfl) rfl #[] rfl (by (try simp only [List.map_toArray, List.map_cons, List.map_nil]); first | done | rfl | (simp only [List.length_drop, List.length_take]; rfl)) ?_; (with_reducible refine (glacislaw05_awake.calls  true _ (tab_ hT_ ?hTab) A2.out).mono ?_); (case hTab => exact (by repeat (first | (with_reducible first | exact HB.out | apply below_alloc | apply pw_below_drewN | apply below_drew1) | exact HB.out))); rintro e w22 ⟨rfl, hb⟩; refine ⟨_, rfl, ?_⟩; have n0_ := Aside0.mk (below_step (by repeat (first | (with_reducible first | exact HB.out | apply below_alloc | apply pw_below_drewN | apply below_drew1) | exact HB.out)) hb); clear HB; have HB := n0_; clear n0_; (try clear hb); (try clear hb2); (try clear hk); (try clear hi)) | ((with_reducible refine gate_callee (f := 15) rfl ?_); refine goesL_ (some 31) rfl rfl Tryz.func15 (by kernel_rfl) rfl #[.string a0] rfl (by (try simp only [List.map_toArray, List.map_cons, List.map_nil]); first | done | rfl | (simp only [List.length_drop, List.length_take]; rfl)) ?_; (with_reducible refine (sfitem_Next.calls a0 t263 t264 t265 t266 t269 t270 _ A5.out).mono ?_); rintro e w23 ⟨v267, rfl, ho0, hb⟩; refine ⟨_, rfl, ?_⟩; have n0_ := Aside0.mk (Kd.R_lower ho0 (below_size (by repeat (first | (with_reducible first | exact HB.out | apply below_alloc | apply pw_below_drewN | apply below_drew1) | exact HB.out)))); have n1_ := Aside0.mk (below_step (by repeat (first | (with_reducible first | exact HB.out | apply below_alloc | apply pw_below_drewN | apply below_drew1) | exact HB.out)) hb); clear HB; have HO268 := n0_; have HB := n1_; clear n0_ n1_; (try clear hb); (try clear hb2); (try clear hk); (try clear hi); (try clear ho0)) | ((with_reducible refine gate_dst (N := 4) rfl ?_); refine box_event ?hg (N := 4) ?hd (cs := #[.int .i64 0, .int .i64 0, .string (⟨#[]⟩ : ByteArray), .slice none 0 0]) (t := 25) ?hr ?_; (case hd => rfl); (case hg => rfl); (case hr => first | (go_simp; done) | (go_simp; rfl)); intro gb271 hg w24 hbox hb; have n0_ := Aside0.mk (Kd.R_below (by (with_reducible repeat (first | apply Kd.R_alloc | apply Kd.R_drewN | apply Kd.R_drew)); exact HO268.out) hb); have n1_ := Aside0.mk (below_step (by repeat (first | (with_reducible first | exact HB.out | apply below_alloc | apply pw_below_drewN | apply below_drew1) | exact HB.out)) hb); have n2_ := Aside0.mk (hbox); have n3_ := Aside0.mk ((by rw [hg]; exact (below_size (by repeat (first | (with_reducible first | exact HB.out | apply below_alloc | apply pw_below_drewN | apply below_drew1) | exact HB.out))) : w.heap.size ≤ gb271)); have n4_ := Aside0.mk ((by rw [hg]; exact (below_size (by repeat (first | (with_reducible first | exact HB.out | apply below_alloc | apply pw_below_drewN | apply below_drew1) | exact HB.out))) : w.heap.size ≤ gb271)); clear HO268; clear HB; have HO268 := n0_; have HB := n1_; have BK271 := n2_; have GW271 := n3_; have GE271 := n4_; clear n0_ n1_ n2_ n3_ n4_; clear hb hbox hg; have hcz25_0 : w24.cell? ⟨gb271, 0, none⟩ = some (.int .i64 0) := (blk_cell BK271.out 0).trans rfl; have hcz25_1 : w24.cell? ⟨gb271, 1, none⟩ = some (.int .i64 0) := (blk_cell BK271.out 1).trans rfl; have hcz25_2 : w24.cell? ⟨gb271, 2, none⟩ = some (.string (⟨#[]⟩ : ByteArray)) := (blk_cell BK271.out 2).trans rfl; have hcz25_3 : w24.cell? ⟨gb271, 3, none⟩ = some (.slice none 0 0) := (blk_cell BK271.out 3).trans rfl; have hfz25_0 := blk_frozen BK271.out 0; have hfz25_1 := blk_frozen BK271.out 1; have hfz25_2 := blk_frozen BK271.out 2; have hfz25_3 := blk_frozen BK271.out 3; obtain ⟨Ao26, co26, eo26⟩ := Kd.R_slice HO268.out; subst eo26) | ((with_reducible refine gate_callee (f := 16) rfl ?_); refine goesL_ (some 37) rfl rfl Tryz.func16 (by kernel_rfl) rfl #[.string a0] rfl (by (try simp only [List.map_toArray, List.map_cons, List.map_nil]); first | done | rfl | (simp only [List.length_drop, List.length_take]; rfl)) ?_; (with_reducible refine (glacisref05_Next.calls k a0 t272 t273 t274 t275 t278 t279 _ A6.out).mono ?_); rintro e w27 ⟨v276, rfl, ho0, hb⟩; refine ⟨_, rfl, ?_⟩; have n0_ := Aside0.mk (Kd.R_elder' (by (with_reducible repeat (first | apply Kd.R_alloc | apply Kd.R_drewN | apply Kd.R_drew)); exact (Kd.R_mono (Kd.R_far (p := ⟨gb271, 3, none⟩) (Kd.R_far (p := ⟨gb271, 2, none⟩) (Kd.R_far (p := ⟨gb271, 1, none⟩) (Kd.R_far (p := ⟨gb271, 0, none⟩) (Kd.R_types HO268.out BK271.out (by decide)) (fun _ hk => hk.2) (.int .i64 t263)) (fun _ hk => hk.2) (.int .i64 t264)) (fun _ hk => hk.2) (.string t265)) (fun _ hk => hk.2) (.slice Ao26 t266.length co26)) (fun _ h_ => h_.1))) (Kd.R_base ho0) hb); have n1_ := Aside0.mk (Kd.R_lower (Kd.R_new' ho0 (Kd.R_lt (by (with_reducible repeat (first | apply Kd.R_alloc | apply Kd.R_drewN | apply Kd.R_drew)); exact (Kd.R_mono (Kd.R_far (p := ⟨gb271, 3, none⟩) (Kd.R_far (p := ⟨gb271, 2, none⟩) (Kd.R_far (p := ⟨gb271, 1, none⟩) (Kd.R_far (p := ⟨gb271, 0, none⟩) (Kd.R_types HO268.out BK271.out (by decide)) (fun _ hk => hk.2) (.int .i64 t263)) (fun _ hk => hk.2) (.int .i64 t264)) (fun _ hk => hk.2) (.string t265)) (fun _ hk => hk.2) (.slice Ao26 t266.length co26)) (fun _ h_ => h_.1))))) (below_size (by repeat (first | (with_reducible first | exact HB.out | apply below_alloc | apply pw_below_drewN | apply below_drew1 | refine below_set ?_ GE271.out) | exact HB.out)))); have n2_ := Aside0.mk (blk_below (g := gb271) (o := .cells #[.int .i64 t263, .int .i64 t264, .string t265, .slice Ao26 t266.length co26] 25 (0, 0)) (by (with_reducible repeat (first | refine blk_drewN ?_ _ | refine blk_drew ?_ | refine blk_alloc ?_ _)); refine blk_put (cs := #[.int .i64 t263, .int .i64 t264, .string t265, .slice none 0 0]) ?_ 3 _ rfl; (with_reducible repeat (first | refine blk_drewN ?_ _ | refine blk_drew ?_ | refine blk_alloc ?_ _)); refine blk_put (cs := #[.int .i64 t263, .int .i64 t264, .string (⟨#[]⟩ : ByteArray), .slice none 0 0]) ?_ 2 _ rfl; (with_reducible repeat (first | refine blk_drewN ?_ _ | refine blk_drew ?_ | refine blk_alloc ?_ _)); refine blk_put (cs := #[.int .i64 t263, .int .i64 0, .string (⟨#[]⟩ : ByteArray), .slice none 0 0]) ?_ 1 _ rfl; (with_reducible repeat (first | refine blk_drewN ?_ _ | refine blk_drew ?_ | refine blk_alloc ?_ _)); refine blk_put (cs := #[.int .i64 0, .int .i64 0, .string (⟨#[]⟩ : ByteArray), .slice none 0 0]) ?_ 0 _ rfl; (with_reducible repeat (first | refine blk_drewN ?_ _ | refine blk_drew ?_ | refine blk_alloc ?_ _)); exact BK271.out) hb); have n3_ := Aside0.mk (below_step (by repeat (first | (with_reducible first | exact HB.out | apply below_alloc | apply pw_below_drewN | apply below_drew1 | refine below_set ?_ GE271.out) | exact HB.out)) hb); clear HO268; clear BK271; clear HB; have HO268 := n0_; have HO277 := n1_; have BK271 := n2_; have HB := n3_; clear n0_ n1_ n2_ n3_; (try clear hb); (try clear hb2); (try clear hk); (try clear hi); (try clear ho0)) | ((with_reducible refine gate_dst (N := 7) rfl ?_); refine box_event ?hg (N := 7) ?hd (cs := #[.int .i64 0, .int .i64 0, .string (⟨#[]⟩ : ByteArray), .slice none 0 0]) (t := 25) ?hr ?_; (case hd => rfl); (case hg => rfl); (case hr => first | (go_simp; done) | (go_simp; rfl)); intro gb280 hg w28 hbox hb; have n0_ := Aside0.mk (Kd.R_below (by (with_reducible repeat (first | apply Kd.R_alloc | apply Kd.R_drewN | apply Kd.R_drew)); exact HO268.out) hb); have n1_ := Aside0.mk (Kd.R_below (by (with_reducible repeat (first | apply Kd.R_alloc | apply Kd.R_drewN | apply Kd.R_drew)); exact HO277.out) hb); have n2_ := Aside0.mk (blk_below (g := gb271) (o := .cells #[.int .i64 t263, .int .i64 t264, .string t265, .slice Ao26 t266.length co26] 25 (0, 0)) (by (with_reducible repeat (first | refine blk_drewN ?_ _ | refine blk_drew ?_ | refine blk_alloc ?_ _)); exact BK271.out) hb); have n3_ := Aside0.mk (below_step (by repeat (first | (with_reducible first | exact HB.out | apply below_alloc | apply pw_below_drewN | apply below_drew1 | refine below_set ?_ GE271.out) | exact HB.out)) hb); have n4_ := Aside0.mk (hbox); have n5_ := Aside0.mk ((by rw [hg]; exact (below_size (by repeat (first | (with_reducible first | exact HB.out | apply below_alloc | apply pw_below_drewN | apply below_drew1 | refine below_set ?_ GE271.out) | exact HB.out))) : w.heap.size ≤ gb280)); have n6_ := Aside0.mk ((by rw [hg]; exact (below_size (by repeat (first | (with_reducible first | exact HB.out | apply below_alloc | apply pw_below_drewN | apply below_drew1 | refine below_set ?_ GE271.out) | exact HB.out))) : w.heap.size ≤ gb280)); have n7_ := Aside0.mk ((by rw [hg]; exact Nat.ne_of_lt (blk_lt (g := gb271) (o := .cells #[.int .i64 t263, .int .i64 t264, .string t265, .slice Ao26 t266.length co26] 25 (0, 0)) (by (with_reducible repeat (first | refine blk_drewN ?_ _ | refine blk_drew ?_ | refine blk_alloc ?_ _)); exact BK271.out)) : gb271 ≠ gb280)); have n8_ := Aside0.mk ((by rw [hg]; exact Nat.ne_of_gt (blk_lt (g := gb271) (o := .cells #[.int .i64 t263, .int .i64 t264, .string t265, .slice Ao26 t266.length co26] 25 (0, 0)) (by (with_reducible repeat (first | refine blk_drewN ?_ _ | refine blk_drew ?_ | refine blk_alloc ?_ _)); exact BK271.out)) : gb280 ≠ gb271)); clear HO268; clear HO277; clear BK271; clear HB; have HO268 := n0_; have HO277 := n1_; have BK271 := n2_; have HB := n3_; have BK280 := n4_; have GW280 := n5_; have GE280 := n6_; have NB271_280 := n7_; have NB280_271 := n8_; clear n0_ n1_ n2_ n3_ n4_ n5_ n6_ n7_ n8_; clear hb hbox hg; have hnb29 := NB280_271.out; have hnc29 := NB271_280.out; have hcz30_0 : w28.cell? ⟨gb280, 0, none⟩ = some (.int .i64 0) := (blk_cell BK280.out 0).trans rfl; have hcz30_1 : w28.cell? ⟨gb280, 1, none⟩ = some (.int .i64 0) := (blk_cell BK280.out 1).trans rfl; have hcz30_2 : w28.cell? ⟨gb280, 2, none⟩ = some (.string (⟨#[]⟩ : ByteArray)) := (blk_cell BK280.out 2).trans rfl; have hcz30_3 : w28.cell? ⟨gb280, 3, none⟩ = some (.slice none 0 0) := (blk_cell BK280.out 3).trans rfl; have hfz30_0 := blk_frozen BK280.out 0; have hfz30_1 := blk_frozen BK280.out 1; have hfz30_2 := blk_frozen BK280.out 2; have hfz30_3 := blk_frozen BK280.out 3; obtain ⟨Ao31, co31, eo31⟩ := Kd.R_slice HO277.out; subst eo31; have hcz32_0 : w28.cell? ⟨gb271, 0, none⟩ = some (.int .i64 t263) := (blk_cell BK271.out 0).trans rfl; have hcz32_1 : w28.cell? ⟨gb271, 1, none⟩ = some (.int .i64 t264) := (blk_cell BK271.out 1).trans rfl; have hcz32_2 : w28.cell? ⟨gb271, 2, none⟩ = some (.string t265) := (blk_cell BK271.out 2).trans rfl; have hcz32_3 : w28.cell? ⟨gb271, 3, none⟩ = some (.slice Ao26 t266.length co26) := (blk_cell BK271.out 3).trans rfl; have hfz32_0 := blk_frozen BK271.out 0; have hfz32_1 := blk_frozen BK271.out 1; have hfz32_2 := blk_frozen BK271.out 2; have hfz32_3 := blk_frozen BK271.out 3) | ((with_reducible refine gate_callee (f := 9) rfl ?_); refine goesL_ (some 43) rfl rfl Tryz.func9 (by kernel_rfl) rfl #[.agg #[.int .i64 t263, .int .i64 t264, .string t265, .slice Ao26 t266.length co26], .agg #[.int .i64 t272, .int .i64 t273, .string t274, .slice Ao31 t275.length co31]] rfl (by (try simp only [List.map_toArray, List.map_cons, List.map_nil]); first | done | rfl | (simp only [List.length_drop, List.length_take]; rfl)) ?_; (with_reducible refine (glacisref05_Same.calls k t263 t264 t265 _ _ t266 t272 t273 t274 _ _ t275 true _ ?side1 ?side2 ?side3 ?side4 A7.out).mono ?_); (case side1 => refine (Kd.R_reads' (e := 43) (base := w.heap.size) (ok := fun k_ => (True ∧ some k_ ≠ (.slice Ao31 t275.length co31 : Value).ownBlock)) (n := t266.length) (c := co26) ?_).2.2; exact (by (with_reducible repeat (first | apply Kd.R_alloc | apply Kd.R_drewN | apply Kd.R_drew)); exact (Kd.R_mono (Kd.R_far (p := ⟨gb280, 3, none⟩) (Kd.R_far (p := ⟨gb280, 2, none⟩) (Kd.R_far (p := ⟨gb280, 1, none⟩) (Kd.R_far (p := ⟨gb280, 0, none⟩) (Kd.R_types HO268.out BK280.out (by decide)) (fun _ hk => hk.2) (.int .i64 t272)) (fun _ hk => hk.2) (.int .i64 t273)) (fun _ hk => hk.2) (.string t274)) (fun _ hk => hk.2) (.slice Ao31 t275.length co31)) (fun _ h_ => h_.1)))); (case side2 => exact (Kd.R_reads' HO268.out).2.1); (case side3 => refine (Kd.R_reads' (e := 43) (base := w.heap.size) (ok := fun k_ => (True ∧ some k_ ≠ (.slice Ao26 t266.length co26 : Value).ownBlock)) (n := t275.length) (c := co31) ?_).2.2; exact (by (with_reducible repeat (first | apply Kd.R_alloc | apply Kd.R_drewN | apply Kd.R_drew)); exact (Kd.R_mono (Kd.R_far (p := ⟨gb280, 3, none⟩) (Kd.R_far (p := ⟨gb280, 2, none⟩) (Kd.R_far (p := ⟨gb280, 1, none⟩) (Kd.R_far (p := ⟨gb280, 0, none⟩) (Kd.R_types HO277.out BK280.out (by decide)) (fun _ hk => hk.2) (.int .i64 t272)) (fun _ hk => hk.2) (.int .i64 t273)) (fun _ hk => hk.2) (.string t274)) (fun _ hk => hk.2) (.slice Ao31 t275.length co31)) (fun _ h_ => h_.1)))); (case side4 => exact (Kd.R_reads' HO277.out).2.1); rintro e w33 ⟨rfl, hb⟩; refine ⟨_, rfl, ?_⟩; have n0_ := Aside0.mk (Kd.R_below (by (with_reducible repeat (first | apply Kd.R_alloc | apply Kd.R_drewN | apply Kd.R_drew)); exact (Kd.R_mono (Kd.R_far (p := ⟨gb280, 3, none⟩) (Kd.R_far (p := ⟨gb280, 2, none⟩) (Kd.R_far (p := ⟨gb280, 1, none⟩) (Kd.R_far (p := ⟨gb280, 0, none⟩) (Kd.R_types HO268.out BK280.out (by decide)) (fun _ hk => hk.2) (.int .i64 t272)) (fun _ hk => hk.2) (.int .i64 t273)) (fun _ hk => hk.2) (.string t274)) (fun _ hk => hk.2) (.slice Ao31 t275.length co31)) (fun _ h_ => h_.1))) hb); have n1_ := Aside0.mk (Kd.R_below (by (with_reducible repeat (first | apply Kd.R_alloc | apply Kd.R_drewN | apply Kd.R_drew)); exact (Kd.R_mono (Kd.R_far (p := ⟨gb280, 3, none⟩) (Kd.R_far (p := ⟨gb280, 2, none⟩) (Kd.R_far (p := ⟨gb280, 1, none⟩) (Kd.R_far (p := ⟨gb280, 0, none⟩) (Kd.R_types HO277.out BK280.out (by decide)) (fun _ hk => hk.2) (.int .i64 t272)) (fun _ hk => hk.2) (.int .i64 t273)) (fun _ hk => hk.2) (.string t274)) (fun _ hk => hk.2) (.slice Ao31 t275.length co31)) (fun _ h_ => h_.1))) hb); have n2_ := Aside0.mk (blk_below (g := gb271) (o := .cells #[.int .i64 t263, .int .i64 t264, .string t265, .slice Ao26 t266.length co26] 25 (0, 0)) (by (with_reducible repeat (first | refine blk_drewN ?_ _ | refine blk_drew ?_ | refine blk_alloc ?_ _)); refine blk_far ?_ NB271_280.out _; (with_reducible repeat (first | refine blk_drewN ?_ _ | refine blk_drew ?_ | refine blk_alloc ?_ _)); refine blk_far ?_ NB271_280.out _; (with_reducible repeat (first | refine blk_drewN ?_ _ | refine blk_drew ?_ | refine blk_alloc ?_ _)); refine blk_far ?_ NB271_280.out _; (with_reducible repeat (first | refine blk_drewN ?_ _ | refine blk_drew ?_ | refine blk_alloc ?_ _)); refine blk_far ?_ NB271_280.out _; (with_reducible repeat (first | refine blk_drewN ?_ _ | refine blk_drew ?_ | refine blk_alloc ?_ _)); exact BK271.out) hb); have n3_ := Aside0.mk (blk_below (g := gb280) (o := .cells #[.int .i64 t272, .int .i64 t273, .string t274, .slice Ao31 t275.length co31] 25 (0, 0)) (by (with_reducible repeat (first | refine blk_drewN ?_ _ | refine blk_drew ?_ | refine blk_alloc ?_ _)); refine blk_put (cs := #[.int .i64 t272, .int .i64 t273, .string t274, .slice none 0 0]) ?_ 3 _ rfl; (with_reducible repeat (first | refine blk_drewN ?_ _ | refine blk_drew ?_ | refine blk_alloc ?_ _)); refine blk_put (cs := #[.int .i64 t272, .int .i64 t273, .string (⟨#[]⟩ : ByteArray), .slice none 0 0]) ?_ 2 _ rfl; (with_reducible repeat (first | refine blk_drewN ?_ _ | refine blk_drew ?_ | refine blk_alloc ?_ _)); refine blk_put (cs := #[.int .i64 t272, .int .i64 0, .string (⟨#[]⟩ : ByteArray), .slice none 0 0]) ?_ 1 _ rfl; (with_reducible repeat (first | refine blk_drewN ?_ _ | refine blk_drew ?_ | refine blk_alloc ?_ _)); refine blk_put (cs := #[.int .i64 0, .int .i64 0, .string (⟨#[]⟩ : ByteArray), .slice none 0 0]) ?_ 0 _ rfl; (with_reducible repeat (first | refine blk_drewN ?_ _ | refine blk_drew ?_ | refine blk_alloc ?_ _)); exact BK280.out) hb); have n4_ := Aside0.mk (below_step (by repeat (first | (with_reducible first | exact HB.out | apply below_alloc | apply pw_below_drewN | apply below_drew1 | refine below_set ?_ GE271.out | refine below_set ?_ GE280.out) | exact HB.out)) hb); clear HO268; clear HO277; clear BK271; clear BK280; clear HB; have HO268 := n0_; have HO277 := n1_; have BK271 := n2_; have BK280 := n3_; have HB := n4_; clear n0_ n1_ n2_ n3_ n4_; (try clear hb); (try clear hb2); (try clear hk); (try clear hi)) | ((with_reducible refine gate_callee (f := 17) rfl ?_); refine goesL_ (some 46) rfl rfl Tryz.func17 (by kernel_rfl) rfl #[.string a0] rfl (by (try simp only [List.map_toArray, List.map_cons, List.map_nil]); first | done | rfl | (simp only [List.length_drop, List.length_take]; rfl)) ?_; (with_reducible refine (sfitem_Params.calls a0 t282 t283 t284 _ A8.out).mono ?_); rintro e w34 ⟨v285, rfl, ho0, hb⟩; refine ⟨_, rfl, ?_⟩; have n0_ := Aside0.mk (Kd.R_elder' (by (with_reducible repeat (first | apply Kd.R_alloc | apply Kd.R_drewN | apply Kd.R_drew)); exact HO268.out) (Kd.R_base ho0) hb); have n1_ := Aside0.mk (Kd.R_elder' (by (with_reducible repeat (first | apply Kd.R_alloc | apply Kd.R_drewN | apply Kd.R_drew)); exact HO277.out) (Kd.R_base ho0) hb); have n2_ := Aside0.mk (Kd.R_lower (Kd.R_new' (Kd.R_new' ho0 (Kd.R_lt (by (with_reducible repeat (first | apply Kd.R_alloc | apply Kd.R_drewN | apply Kd.R_drew)); exact HO268.out))) (Kd.R_lt (by (with_reducible repeat (first | apply Kd.R_alloc | apply Kd.R_drewN | apply Kd.R_drew)); exact HO277.out))) (below_size (by repeat (first | (with_reducible first | exact HB.out | apply below_alloc | apply pw_below_drewN | apply below_drew1 | refine below_set ?_ GE271.out | refine below_set ?_ GE280.out) | exact HB.out)))); have n3_ := Aside0.mk (blk_below (g := gb271) (o := .cells #[.int .i64 t263, .int .i64 t264, .string t265, .slice Ao26 t266.length co26] 25 (0, 0)) (by (with_reducible repeat (first | refine blk_drewN ?_ _ | refine blk_drew ?_ | refine blk_alloc ?_ _)); exact BK271.out) hb); have n4_ := Aside0.mk (blk_below (g := gb280) (o := .cells #[.int .i64 t272, .int .i64 t273, .string t274, .slice Ao31 t275.length co31] 25 (0, 0)) (by (with_reducible repeat (first | refine blk_drewN ?_ _ | refine blk_drew ?_ | refine blk_alloc ?_ _)); exact BK280.out) hb); have n5_ := Aside0.mk (below_step (by repeat (first | (with_reducible first | exact HB.out | apply below_alloc | apply pw_below_drewN | apply below_drew1 | refine below_set ?_ GE271.out | refine below_set ?_ GE280.out) | exact HB.out)) hb); clear HO268; clear HO277; clear BK271; clear BK280; clear HB; have HO268 := n0_; have HO277 := n1_; have HO286 := n2_; have BK271 := n3_; have BK280 := n4_; have HB := n5_; clear n0_ n1_ n2_ n3_ n4_ n5_; (try clear hb); (try clear hb2); (try clear hk); (try clear hi); (try clear ho0)) | ((with_reducible refine gate_callee (f := 18) rfl ?_); refine goesL_ (some 52) rfl rfl Tryz.func18 (by kernel_rfl) rfl #[.string a0] rfl (by (try simp only [List.map_toArray, List.map_cons, List.map_nil]); first | done | rfl | (simp only [List.length_drop, List.length_take]; rfl)) ?_; (with_reducible refine (glacisref05_Params.calls k a0 t287 t288 t289 _ A9.out).mono ?_); rintro e w35 ⟨v290, rfl, ho0, hb⟩; refine ⟨_, rfl, ?_⟩; have n0_ := Aside0.mk (Kd.R_elder' (by (with_reducible repeat (first | apply Kd.R_alloc | apply Kd.R_drewN | apply Kd.R_drew)); exact HO268.out) (Kd.R_base ho0) hb); have n1_ := Aside0.mk (Kd.R_elder' (by (with_reducible repeat (first | apply Kd.R_alloc | apply Kd.R_drewN | apply Kd.R_drew)); exact HO277.out) (Kd.R_base ho0) hb); have n2_ := Aside0.mk (Kd.R_elder' (by (with_reducible repeat (first | apply Kd.R_alloc | apply Kd.R_drewN | apply Kd.R_drew)); exact HO286.out) (Kd.R_base ho0) hb); have n3_ := Aside0.mk (Kd.R_lower (Kd.R_new' (Kd.R_new' (Kd.R_new' ho0 (Kd.R_lt (by (with_reducible repeat (first | apply Kd.R_alloc | apply Kd.R_drewN | apply Kd.R_drew)); exact HO268.out))) (Kd.R_lt (by (with_reducible repeat (first | apply Kd.R_alloc | apply Kd.R_drewN | apply Kd.R_drew)); exact HO277.out))) (Kd.R_lt (by (with_reducible repeat (first | apply Kd.R_alloc | apply Kd.R_drewN | apply Kd.R_drew)); exact HO286.out))) (below_size (by repeat (first | (with_reducible first | exact HB.out | apply below_alloc | apply pw_below_drewN | apply below_drew1 | refine below_set ?_ GE271.out | refine below_set ?_ GE280.out) | exact HB.out)))); have n4_ := Aside0.mk (blk_below (g := gb271) (o := .cells #[.int .i64 t263, .int .i64 t264, .string t265, .slice Ao26 t266.length co26] 25 (0, 0)) (by (with_reducible repeat (first | refine blk_drewN ?_ _ | refine blk_drew ?_ | refine blk_alloc ?_ _)); exact BK271.out) hb); have n5_ := Aside0.mk (blk_below (g := gb280) (o := .cells #[.int .i64 t272, .int .i64 t273, .string t274, .slice Ao31 t275.length co31] 25 (0, 0)) (by (with_reducible repeat (first | refine blk_drewN ?_ _ | refine blk_drew ?_ | refine blk_alloc ?_ _)); exact BK280.out) hb); have n6_ := Aside0.mk (below_step (by repeat (first | (with_reducible first | exact HB.out | apply below_alloc | apply pw_below_drewN | apply below_drew1 | refine below_set ?_ GE271.out | refine below_set ?_ GE280.out) | exact HB.out)) hb); clear HO268; clear HO277; clear HO286; clear BK271; clear BK280; clear HB; have HO268 := n0_; have HO277 := n1_; have HO286 := n2_; have HO291 := n3_; have BK271 := n4_; have BK280 := n5_; have HB := n6_; clear n0_ n1_ n2_ n3_ n4_ n5_ n6_; (try clear hb); (try clear hb2); (try clear hk); (try clear hi); (try clear ho0); obtain ⟨Ao36, co36, eo36⟩ := Kd.R_slice HO286.out; subst eo36; obtain ⟨Ao37, co37, eo37⟩ := Kd.R_slice HO291.out; subst eo37) | ((with_reducible refine gate_callee (f := 19) rfl ?_); refine goesL_ (some 58) rfl rfl Tryz.func19 (by kernel_rfl) rfl #[.slice Ao36 t282.length co36, .slice Ao37 t287.length co37] rfl (by (try simp only [List.map_toArray, List.map_cons, List.map_nil]); first | done | rfl | (simp only [List.length_drop, List.length_take]; rfl)) ?_; (with_reducible refine (glacisref05_SameParams.calls k _ _ t282 _ _ t287 true _ ?side1 ?side2 ?side3 ?side4 A10.out).mono ?_); (case side1 => repeat (first | exact (Kd.R_reads' HO286.out).2.2 | (with_reducible refine Kd.C_alloc ?_ _) | (with_reducible refine Kd.C_drewN ?_ _) | (with_reducible refine Kd.C_drew ?_))); (case side2 => exact (Kd.R_reads' HO286.out).2.1); (case side3 => repeat (first | exact (Kd.R_reads' HO291.out).2.2 | (with_reducible refine Kd.C_alloc ?_ _) | (with_reducible refine Kd.C_drewN ?_ _) | (with_reducible refine Kd.C_drew ?_))); (case side4 => exact (Kd.R_reads' HO291.out).2.1); rintro e w' ⟨rfl, ⟨nd, rfl⟩⟩; refine ⟨_, rfl, ?_⟩) | ((with_reducible refine gate_callee (f := 20) rfl ?_); refine goesL_ (some 61) rfl rfl Tryz.func20 (by kernel_rfl) rfl #[.string a0] rfl (by (try simp only [List.map_toArray, List.map_cons, List.map_nil]); first | done | rfl | (simp only [List.length_drop, List.length_take]; rfl)) ?_; (with_reducible refine (sfitem_Key.calls a0 t293 t294 t295 _ A11.out).mono ?_); rintro e w38 ⟨rfl, hb⟩; refine ⟨_, rfl, ?_⟩; have n0_ := Aside0.mk (Kd.R_below (by (with_reducible repeat (first | apply Kd.R_alloc | apply Kd.R_drewN | apply Kd.R_drew)); exact HO268.out) hb); have n1_ := Aside0.mk (Kd.R_below (by (with_reducible repeat (first | apply Kd.R_alloc | apply Kd.R_drewN | apply Kd.R_drew)); exact HO277.out) hb); have n2_ := Aside0.mk (Kd.R_below (by (with_reducible repeat (first | apply Kd.R_alloc | apply Kd.R_drewN | apply Kd.R_drew)); exact HO286.out) hb); have n3_ := Aside0.mk (Kd.R_below (by (with_reducible repeat (first | apply Kd.R_alloc | apply Kd.R_drewN | apply Kd.R_drew)); exact HO291.out) hb); have n4_ := Aside0.mk (blk_below (g := gb271) (o := .cells #[.int .i64 t263, .int .i64 t264, .string t265, .slice Ao26 t266.length co26] 25 (0, 0)) (by (with_reducible repeat (first | refine blk_drewN ?_ _ | refine blk_drew ?_ | refine blk_alloc ?_ _)); exact BK271.out) hb); have n5_ := Aside0.mk (blk_below (g := gb280) (o := .cells #[.int .i64 t272, .int .i64 t273, .string t274, .slice Ao31 t275.length co31] 25 (0, 0)) (by (with_reducible repeat (first | refine blk_drewN ?_ _ | refine blk_drew ?_ | refine blk_alloc ?_ _)); exact BK280.out) hb); have n6_ := Aside0.mk (below_step (by repeat (first | (with_reducible first | exact HB.out | apply below_alloc | apply pw_below_drewN | apply below_drew1 | refine below_set ?_ GE271.out | refine below_set ?_ GE280.out) | exact HB.out)) hb); clear HO268; clear HO277; clear HO286; clear HO291; clear BK271; clear BK280; clear HB; have HO268 := n0_; have HO277 := n1_; have HO286 := n2_; have HO291 := n3_; have BK271 := n4_; have BK280 := n5_; have HB := n6_; clear n0_ n1_ n2_ n3_ n4_ n5_ n6_; (try clear hb); (try clear hb2); (try clear hk); (try clear hi)) | ((with_reducible refine gate_callee (f := 21) rfl ?_); refine goesL_ (some 67) rfl rfl Tryz.func21 (by kernel_rfl) rfl #[.string a0] rfl (by (try simp only [List.map_toArray, List.map_cons, List.map_nil]); first | done | rfl | (simp only [List.length_drop, List.length_take]; rfl)) ?_; (with_reducible refine (glacisref05_Key.calls k a0 t296 t297 t298 _ A12.out).mono ?_); rintro e w' ⟨rfl, ⟨nd, rfl⟩⟩; refine ⟨_, rfl, ?_⟩))
                      go_ret
                      exact ⟨by first | rfl | (simp [errW_none, errW_some] <;> rfl) | (simp [*, errW_none, errW_some] <;> rfl) | (simp [q_ne_nil]; done), by repeat (first | (with_reducible first | exact HB.out | apply below_alloc | apply pw_below_drewN | apply below_drew1 | refine below_set ?_ GE271.out | refine below_set ?_ GE280.out) | exact HB.out)⟩
                    · exact absurd H (by rw [if_neg c21]; simp)
                  · exact absurd H (by rw [if_neg c20]; simp)
                · exact absurd H (by rw [if_neg c19]; simp)
              · exact absurd H (by rw [if_neg c18]; simp)
            · exact absurd H (by rw [if_neg c17]; simp)
          · exact absurd H (by rw [if_neg c16]; simp)
        · exact absurd H (by rw [if_neg c15]; simp)
      · exact absurd H (by rw [if_neg c14]; simp)
    · exact absurd H (by rw [if_neg c13]; simp)
end Go.Proofs.YtbbaokjkmcfceaaGreatDoor.Q
/- Chapter 5: the calls whose answers the document fixes. -/
namespace Go.Proofs.YtbbaokjkmcfceaaGreatDoor.Pl
open Go.RowKit Go.Proofs.YtbbaokjkmcfceaaGreatDoor.Q Go.Proofs.YtbbaokjkmcfceaaGreatDoor.Sf Go.Proofs.YtbbaokjkmcfceaaGreatDoorW.PrintWords Go.Proofs.YtbbaokjkmcfceaaGreatDoorW.PrintLast
set_option linter.unusedVariables false
set_option linter.unusedSimpArgs false
set_option maxRecDepth 100000 in
theorem parse_a : sfitem_Parse.f (⟨#[115, 97, 109, 101, 45, 111, 114, 105, 103, 105, 110, 59, 32, 114, 101, 112, 111, 114, 116, 45, 116, 111, 61, 34, 101, 34]⟩ : ByteArray) = some (4, 0, ⟨#[115, 97, 109, 101, 45, 111, 114, 105, 103, 105, 110]⟩, [⟨⟨#[114, 101, 112, 111, 114, 116, 45, 116, 111]⟩, 3, 0, ⟨#[101]⟩⟩], 0) := by kernel_rfl
set_option maxRecDepth 100000 in
theorem parse_b : sfitem_Parse.f (⟨#[45, 49, 50, 46, 53, 48, 59, 97, 59, 98, 61, 63, 48]⟩ : ByteArray) = some (2, -12500, ⟨#[]⟩, [⟨⟨#[97]⟩, 6, 1, ⟨#[]⟩⟩, ⟨⟨#[98]⟩, 6, 0, ⟨#[]⟩⟩], 0) := by kernel_rfl
set_option maxRecDepth 100000 in
theorem parse_c : sfitem_Parse.f (⟨#[49, 32, 50]⟩ : ByteArray) = some (0, 0, ⟨#[]⟩, [], 50) := by kernel_rfl
theorem itoa_1500 : itoaBA 1500 = ⟨#[49, 53, 48, 48]⟩ := by
  have h : Lib.itoa 1500 = [49, 53, 48, 48] := by
    unfold Lib.itoa
    rw [if_neg (by decide)]
    rw [Lib.decDigits, Lib.decDigits, Lib.decDigits, Lib.decDigits]
    decide
  unfold itoaBA; rw [h]
theorem itoa_12 : itoaBA 12 = ⟨#[49, 50]⟩ := by
  have h : Lib.itoa 12 = [49, 50] := by
    unfold Lib.itoa
    rw [if_neg (by decide)]
    rw [Lib.decDigits, Lib.decDigits]
    decide
  unfold itoaBA; rw [h]
theorem itoa_1 : itoaBA 1 = ⟨#[49]⟩ := by
  have h : Lib.itoa 1 = [49] := by
    unfold Lib.itoa
    rw [if_neg (by decide), Lib.decDigits]
    decide
  unfold itoaBA; rw [h]
theorem itoa_0 : itoaBA 0 = ⟨#[48]⟩ := by
  have h : Lib.itoa 0 = [48] := by
    unfold Lib.itoa
    rw [if_neg (by decide), Lib.decDigits]
    decide
  unfold itoaBA; rw [h]
set_option maxRecDepth 100000 in
theorem dec_b : decB (-12500) = ⟨#[45, 49, 50, 46, 53]⟩ := by
  have e1 : magn (-12500) = 12500 := by decide
  have e2 : signB (-12500) = ⟨#[45]⟩ := by decide
  have e3 : 1000 + Int.tmod 12500 1000 = 1500 := by decide
  have e4 : Int.tdiv 12500 1000 = 12 := by decide
  unfold decB fracB tailZ
  rw [e1, e2, e3, e4, itoa_1500, itoa_12]
  decide +kernel
set_option maxRecDepth 100000 in
theorem text_b : sfitem_Text.f 2 (-12500) ⟨#[]⟩ [⟨⟨#[97]⟩, 6, 1, ⟨#[]⟩⟩, ⟨⟨#[98]⟩, 6, 0, ⟨#[]⟩⟩] = some (⟨#[45, 49, 50, 46, 53, 59, 97, 59, 98, 61, 63, 48]⟩, 0) := by
  have v1 : sfitem_value.f ⟨#[]⟩ 2 (-12500) ⟨#[]⟩ = some (⟨#[45, 49, 50, 46, 53]⟩, true) := by
    unfold sfitem_value.f
    rw [if_neg (by decide), if_neg (by decide), if_neg (by decide), if_pos rfl, dec_b]
    kernel_rfl
  have v2 : sfitem_value.f ⟨#[97]⟩ 6 1 ⟨#[]⟩ = some (⟨#[63, 49]⟩, true) := by
    unfold sfitem_value.f
    rw [if_neg (by decide), if_neg (by decide), if_neg (by decide), if_neg (by decide), if_pos rfl, if_pos (by decide +kernel), itoa_1]
    decide +kernel
  have v3 : sfitem_value.f ⟨#[98]⟩ 6 0 ⟨#[]⟩ = some (⟨#[63, 48]⟩, true) := by
    unfold sfitem_value.f
    rw [if_neg (by decide), if_neg (by decide), if_neg (by decide), if_neg (by decide), if_pos rfl, if_pos (by decide +kernel), itoa_0]
    decide +kernel
  have t : sfitem_Tail.f [⟨⟨#[97]⟩, 6, 1, ⟨#[]⟩⟩, ⟨⟨#[98]⟩, 6, 0, ⟨#[]⟩⟩] = some (⟨#[59, 97, 59, 98, 61, 63, 48]⟩, 0) := by
    unfold sfitem_Tail.f
    rw [if_pos (by decide), tailF]
    simp only []
    rw [v2]
    simp only [Option.bind_some]
    rw [if_neg (by decide), if_neg (by decide +kernel), tailF]
    simp only []
    rw [v3]
    simp only [Option.bind_some]
    rw [if_neg (by decide +kernel), if_neg (by decide +kernel), tailF]
    decide +kernel
  unfold sfitem_Text.f
  rw [v1]
  rw [Option.bind_some]
  rw [t]
  rw [Option.bind_some]
  first | rfl | decide +kernel | trace_state
theorem awake05 : glacislaw05_awake.f = some true := by
  unfold glacislaw05_awake.f
  rw [parse_a]
  rw [Option.bind_some]
  rw [parse_b]
  rw [Option.bind_some]
  rw [text_b]
  rw [Option.bind_some]
  rw [parse_c]
  rw [Option.bind_some]
  first | rfl | decide +kernel
end Go.Proofs.YtbbaokjkmcfceaaGreatDoor.Pl
/- Chapter 5: the reader over lists of bytes: what text tells what value, and how such a text is read. -/
namespace Go.Proofs.YtbbaokjkmcfceaaGreatDoor.Pl
open Go.RowKit Go.Proofs.YtbbaokjkmcfceaaGreatDoor.Q Go.Proofs.YtbbaokjkmcfceaaGreatDoor.Sf Go.Proofs.YtbbaokjkmcfceaaGreatDoorW.PrintWords Go.Proofs.YtbbaokjkmcfceaaGreatDoorW.PrintLast
set_option linter.unusedVariables false
set_option linter.unusedSimpArgs false
def L (s : ByteArray) : List UInt8 := s.data.toList
def B (l : List UInt8) : ByteArray := ⟨l.toArray⟩
theorem B_L (s : ByteArray) : B (L s) = s := by apply ByteArray.ext; simp [L, B]
theorem L_inj {a b : ByteArray} (h : L a = L b) : a = b := by rw [← B_L a, h, B_L]
theorem L_app (a b : ByteArray) : L (a ++ b) = L a ++ L b := by unfold L; simp
theorem size_L (s : ByteArray) : s.size = (L s).length := Lib.size_eq s
theorem L_tl (s : ByteArray) : L (tl s) = (L s).tail := by
  unfold L tl
  rw [Lib.extract_data, Lib.size_eq]
  rw [List.take_of_length_le (by simp), List.drop_one]
theorem bt0 {s : ByteArray} {c : UInt8} {r : List UInt8} (h : L s = c :: r) : bt s 0 = (c.toNat : Int) := by
  have hl : 0 < s.data.toList.length := by show 0 < (L s).length; rw [h]; simp
  have := bt_list s 0 hl
  have e : s.data.toList[0] = c := by
    have h2 : s.data.toList = c :: r := h
    simp [h2]
  rw [e] at this
  exact this
theorem size_pos {s : ByteArray} {c : UInt8} {r : List UInt8} (h : L s = c :: r) : 0 < s.size := by rw [size_L, h]; simp
theorem size_nil {s : ByteArray} (h : L s = []) : ¬ 0 < s.size := by rw [size_L, h]; simp
theorem atF_cons {s : ByteArray} {c : UInt8} {r : List UInt8} (h : L s = c :: r) (n : Int) : atF s n = decide ((c.toNat : Int) = n) := by
  unfold atF; rw [bt0 h]; simp [size_pos h]
theorem atF_nil {s : ByteArray} (h : L s = []) (n : Int) : atF s n = false := by
  unfold atF; simp [size_nil h]
theorem atF_ex {s : ByteArray} {n : Int} (h : atF s n = true) : ∃ c r, L s = c :: r ∧ (c.toNat : Int) = n := by
  cases e : L s with
  | nil => rw [atF_nil e] at h; cases h
  | cons c r => rw [atF_cons e] at h; exact ⟨c, r, rfl, of_decide_eq_true h⟩
theorem L_tak (p : Int → Bool) (s : ByteArray) : L (takB p s) = (L s).takeWhile (fun c => p c.toNat) := tak_data p s
theorem L_drp (p : Int → Bool) (s : ByteArray) : L (drpB p s) = (L s).dropWhile (fun c => p c.toNat) := by
  have h1 : L (drpB p s) = (L s).drop (spanB p s) := by
    unfold L drpB
    rw [Lib.extract_data, Lib.size_eq]
    rw [List.take_of_length_le (by simp)]
  rw [h1]
  have h2 : spanB p s = ((L s).takeWhile (fun c => p c.toNat)).length := rfl
  rw [h2]
  generalize (fun c : UInt8 => p c.toNat) = q
  induction L s with
  | nil => rfl
  | cons x l ih => rw [List.takeWhile_cons, List.dropWhile_cons]; split <;> simp [*]
theorem span_split {α : Type} (q : α → Bool) (l : List α) : l.takeWhile q ++ l.dropWhile q = l := List.takeWhile_append_dropWhile
theorem allU (P : UInt8 → Bool) (h : (List.range 256).all (fun n => P (UInt8.ofNat n)) = true) (c : UInt8) : P c = true := by
  have hc : c.toNat < 256 := c.toNat_lt
  have := List.all_eq_true.1 h c.toNat (List.mem_range.2 hc)
  simpa using this
/-- A row of digits' number. -/
def numL (l : List UInt8) : Nat := l.foldl (fun a c => a * 10 + (c.toNat - 48)) 0
theorem numV_L (s : ByteArray) : numV s = numL (L s) := rfl
def zerL (n : Nat) : List UInt8 := ([48, 48, 48] : List UInt8).drop n
theorem zer_L (n : Nat) : L (zer n) = zerL n := by
  unfold L zer
  rw [Lib.extract_data]
  show List.take (3 - n) (List.drop n [48, 48, 48]) = zerL n
  rw [List.take_of_length_le (by simp)]; rfl
def dgU (c : UInt8) : Bool := dgP c.toNat
def toU (c : UInt8) : Bool := tokP c.toNat
def baU (c : UInt8) : Bool := baP c.toNat
def keU (c : UInt8) : Bool := keP c.toNat
/-- What bytes between quotes tell what text. -/
inductive QT : List UInt8 → List UInt8 → Prop
  | stop : QT [34] []
  | plain (c : UInt8) (q t : List UInt8) (h1 : 32 ≤ c.toNat) (h2 : c.toNat ≤ 126) (h3 : c.toNat ≠ 34) (h4 : c.toNat ≠ 92) (h : QT q t) : QT (c :: q) (c :: t)
  | esc (c : UInt8) (q t : List UInt8) (h1 : c.toNat = 34 ∨ c.toNat = 92) (h : QT q t) : QT (92 :: c :: q) (c :: t)
def sgV (sg : List UInt8) : Int := if sg = [] then 1 else -1
/-- What text tells what value. -/
inductive VT : List UInt8 → Int → Int → List UInt8 → Prop
  | int (sg w : List UInt8) (h0 : sg = [] ∨ sg = [45]) (h1 : w ≠ []) (h2 : ∀ c ∈ w, dgU c = true) (h3 : w.length ≤ 15) : VT (sg ++ w) 1 (sgV sg * (numL w : Int)) []
  | dec (sg w p : List UInt8) (h0 : sg = [] ∨ sg = [45]) (h1 : w ≠ []) (h2 : ∀ c ∈ w, dgU c = true) (h3 : w.length ≤ 12) (h4 : p ≠ []) (h5 : ∀ c ∈ p, dgU c = true) (h6 : p.length ≤ 3) : VT (sg ++ (w ++ 46 :: p)) 2 (sgV sg * (numL (w ++ (p ++ zerL p.length)) : Int)) []
  | tok (c : UInt8) (w : List UInt8) (h0 : leP c.toNat = true ∨ (c.toNat : Int) = 42) (h1 : ∀ x ∈ c :: w, toU x = true) : VT (c :: w) 4 0 (c :: w)
  | quo (q t : List UInt8) (h : QT q t) : VT (34 :: q) 3 0 t
  | byt (w : List UInt8) (h : ∀ c ∈ w, baU c = true) : VT (58 :: (w ++ [58])) 5 0 w
  | one : VT [63, 49] 6 1 []
  | zero : VT [63, 48] 6 0 []
/-- What text tells what key. -/
def KT (k : List UInt8) : Prop := ∃ c w, k = c :: w ∧ (smP c.toNat = true ∨ (c.toNat : Int) = 42) ∧ ∀ x ∈ k, keU x = true
theorem dg_ne {c : UInt8} (h : dgU c = true) : 48 ≤ c.toNat ∧ c.toNat ≤ 57 := by
  unfold dgU dgP at h; have := of_decide_eq_true h; omega
theorem wiQ (c : UInt8) : wiP c.toNat ⟨#[34, 92]⟩ = decide (c.toNat = 34 ∨ c.toNat = 92) := by
  have := allU (fun c : UInt8 => wiP c.toNat ⟨#[34, 92]⟩ == decide (c.toNat = 34 ∨ c.toNat = 92)) (by decide +kernel) c
  exact beq_iff_eq.1 this
theorem num_app (l : List Int) (c : UInt8) (t : List UInt8) (h : L (strOfNums l) = t) : L (strOfNums (l ++ [(c.toNat : Int)])) = t ++ [c] := by
  subst h
  unfold L strOfNums
  simp
end Go.Proofs.YtbbaokjkmcfceaaGreatDoor.Pl
/- Chapter 5: what the reader has read is such a text; parameters; whole items. -/
namespace Go.Proofs.YtbbaokjkmcfceaaGreatDoor.Pl
open Go.RowKit Go.Proofs.YtbbaokjkmcfceaaGreatDoor.Q Go.Proofs.YtbbaokjkmcfceaaGreatDoor.Sf Go.Proofs.YtbbaokjkmcfceaaGreatDoorW.PrintWords Go.Proofs.YtbbaokjkmcfceaaGreatDoorW.PrintLast
set_option linter.unusedVariables false
set_option linter.unusedSimpArgs false
theorem u_eq {c d : UInt8} (h : (c.toNat : Int) = (d.toNat : Int)) : c = d := UInt8.toNat_inj.1 (by omega)
theorem cons_of (s : ByteArray) (h : 0 < s.size) : ∃ c r, L s = c :: r := by
  cases e : L s with
  | nil => exact absurd h (size_nil e)
  | cons c r => exact ⟨c, r, rfl⟩
theorem qt_inv : ∀ (d : Nat) (s : ByteArray) (xs : List Int) (o t : ByteArray), qF d s xs = some (o, t) → ∃ q m, L s = q ++ L t ∧ QT q m ∧ L o = L (strOfNums xs) ++ m
  | 0, s, xs, o, t, h => by rw [qF] at h; cases h
  | d + 1, s, xs, o, t, h => by
    rw [qF] at h
    by_cases h0 : 0 < s.size
    · rw [if_pos h0] at h
      obtain ⟨c, r, e⟩ := cons_of s h0
      have et : L (tl s) = r := by rw [L_tl, e]; rfl
      rw [bt0 e] at h
      by_cases c34 : (c.toNat : Int) = 34
      · rw [if_pos c34] at h
        obtain ⟨rfl, rfl⟩ := Prod.mk.inj (Option.some.inj h)
        have : c = 34 := u_eq c34
        subst this
        exact ⟨[34], [], by rw [et, e]; rfl, QT.stop, by simp⟩
      · rw [if_neg c34] at h
        by_cases bad : (c.toNat : Int) < 32 ∨ 126 < (c.toNat : Int) ∨ ((c.toNat : Int) = 92 ∧ ¬ (0 < (tl s).size ∧ wiP (bt (tl s) 0) ⟨#[34, 92]⟩ = true))
        · rw [if_pos bad] at h; cases h
        · rw [if_neg bad] at h
          by_cases c92 : (c.toNat : Int) = 92
          · rw [if_pos c92] at h
            have ok : 0 < (tl s).size ∧ wiP (bt (tl s) 0) ⟨#[34, 92]⟩ = true := Classical.byContradiction fun k => bad (Or.inr (Or.inr ⟨c92, k⟩))
            obtain ⟨c2, r2, e2⟩ := cons_of (tl s) ok.1
            have ok2 := ok.2
            rw [bt0 e2, wiQ] at ok2
            rw [bt0 e2] at h
            obtain ⟨q, m, a1, a2, a3⟩ := qt_inv d _ _ _ _ h
            have e3 : L (tl (tl s)) = r2 := by rw [L_tl, e2]; rfl
            have : c = 92 := u_eq c92
            subst this
            refine ⟨92 :: c2 :: q, c2 :: m, ?_, QT.esc c2 q m (of_decide_eq_true ok2) a2, ?_⟩
            · rw [e3] at a1; rw [e, ← et, e2, a1]; rfl
            · rw [a3, num_app xs c2 _ rfl]; simp
          · rw [if_neg c92] at h
            obtain ⟨q, m, a1, a2, a3⟩ := qt_inv d _ _ _ _ h
            refine ⟨c :: q, c :: m, ?_, QT.plain c q m (by omega) (by omega) (by omega) (by omega) a2, ?_⟩
            · rw [et] at a1; rw [e, a1]; rfl
            · rw [a3, num_app xs c _ rfl]; simp
    · rw [if_neg h0] at h; cases h
theorem quoted_inv {s t : ByteArray} {v : Int × Int × ByteArray} (h : rdQuoted s = some (v, t)) : ∃ q, L s = q ++ L t ∧ QT q (L v.2.2) ∧ v.1 = 3 ∧ v.2.1 = 0 := by
  unfold rdQuoted at h
  obtain ⟨⟨o, t'⟩, hq, hm⟩ := Option.map_eq_some_iff.1 h
  unfold mkQ at hm
  obtain ⟨rfl, rfl⟩ := Prod.mk.inj hm
  obtain ⟨q, m, a1, a2, a3⟩ := qt_inv _ _ _ _ _ hq
  refine ⟨q, a1, ?_, rfl, rfl⟩
  have : L (strOfNums []) = [] := rfl
  rw [this] at a3
  simpa [a3] using a2
theorem number_inv {s t : ByteArray} {v : Int × Int × ByteArray} (h : rdNumber s = some (v, t)) : ∃ u, L s = u ++ L t ∧ VT u v.1 v.2.1 (L v.2.2) := by
  obtain ⟨sg, h0, hs, hg⟩ : ∃ sg : List UInt8, (sg = [] ∨ sg = [45]) ∧ L s = sg ++ L (atR s 45) ∧ (if atF s 45 = true then (-1 : Int) else 1) = sgV sg := by
    unfold atR
    cases e : atF s 45 with
    | false => exact ⟨[], Or.inl rfl, rfl, rfl⟩
    | true =>
      obtain ⟨c, r, e1, e2⟩ := atF_ex e
      have : c = 45 := u_eq e2
      subst this
      exact ⟨[45], Or.inr rfl, by rw [if_pos rfl, L_tl, e1]; rfl, rfl⟩
  unfold rdNumber at h
  simp only [] at h
  rw [hg] at h
  have hw := L_tak dgP (atR s 45)
  have hd := L_drp dgP (atR s 45)
  have hsp := span_split (fun c : UInt8 => dgP c.toNat) (L (atR s 45))
  have hall := tak_all dgP (atR s 45)
  rw [← hw, ← hd] at hsp
  generalize takB dgP (atR s 45) = w at *
  generalize drpB dgP (atR s 45) = s2 at *
  by_cases hw0 : w.size = 0
  · rw [if_pos hw0] at h; cases h
  · rw [if_neg hw0] at h
    have hwn : L w ≠ [] := by rw [size_L] at hw0; intro e; rw [e] at hw0; exact hw0 rfl
    cases e : atF s2 46 with
    | true =>
      rw [e, if_pos rfl] at h
      obtain ⟨c, r, e1, e2⟩ := atF_ex e
      have : c = 46 := u_eq e2
      subst this
      have hw2 := L_tak dgP (tl s2)
      have hd2 := L_drp dgP (tl s2)
      have hsp2 := span_split (fun c : UInt8 => dgP c.toNat) (L (tl s2))
      have hall2 := tak_all dgP (tl s2)
      rw [← hw2, ← hd2] at hsp2
      have et : L (tl s2) = r := by rw [L_tl, e1]; rfl
      generalize takB dgP (tl s2) = p at *
      generalize drpB dgP (tl s2) = s3 at *
      by_cases hb : w.size > 12 ∨ p.size = 0 ∨ p.size > 3
      · rw [if_pos hb] at h; cases h
      · rw [if_neg hb] at h
        obtain ⟨rfl, rfl⟩ := Prod.mk.inj (Option.some.inj h)
        simp only [size_L] at hb
        refine ⟨sg ++ (L w ++ 46 :: L p), ?_, ?_⟩
        · rw [hs, ← hsp, e1, ← et, ← hsp2]; simp
        · have := VT.dec sg (L w) (L p) h0 hwn hall (by omega) (by intro k; rw [k] at hb; exact hb (Or.inr (Or.inl rfl))) hall2 (by omega)
          rw [numV_L, L_app, L_app, zer_L, size_L]
          exact this
    | false =>
      rw [e, if_neg (by decide)] at h
      by_cases hb : w.size > 15
      · rw [if_pos hb] at h; cases h
      · rw [if_neg hb] at h
        obtain ⟨rfl, rfl⟩ := Prod.mk.inj (Option.some.inj h)
        rw [size_L] at hb
        exact ⟨sg ++ L w, by rw [hs, ← hsp]; simp, VT.int sg (L w) h0 hwn hall (by omega)⟩
theorem le_tok (c : UInt8) (h : leP c.toNat = true ∨ (c.toNat : Int) = 42) : toU c = true := by
  have := allU (fun c : UInt8 => !(leP c.toNat || decide ((c.toNat : Int) = 42)) || toU c) (by decide +kernel) c
  simp only [Bool.or_eq_true, Bool.not_eq_true', Bool.or_eq_false_iff, decide_eq_false_iff_not] at this
  rcases this with ⟨a, b⟩ | a
  · rcases h with h | h
    · rw [h] at a; cases a
    · exact absurd h b
  · exact a
theorem value_inv {s t : ByteArray} {v : Int × Int × ByteArray} (h : rdValue s = some (v, t)) : ∃ u, L s = u ++ L t ∧ VT u v.1 v.2.1 (L v.2.2) := by
  unfold rdValue at h
  by_cases h0 : 0 < s.size
  · rw [if_pos h0] at h
    obtain ⟨c, r, e⟩ := cons_of s h0
    have et : L (tl s) = r := by rw [L_tl, e]; rfl
    rw [bt0 e] at h
    by_cases c1 : (c.toNat : Int) = 45 ∨ dgP c.toNat = true
    · rw [if_pos c1] at h; exact number_inv h
    rw [if_neg c1] at h
    by_cases c2 : leP c.toNat = true ∨ (c.toNat : Int) = 42
    · rw [if_pos c2] at h
      obtain ⟨rfl, rfl⟩ := Prod.mk.inj (Option.some.inj h)
      have hw := L_tak tokP s
      have hd := L_drp tokP s
      have hsp := span_split (fun c : UInt8 => tokP c.toNat) (L s)
      rw [← hw, ← hd] at hsp
      refine ⟨L (takB tokP s), hsp.symm, ?_⟩
      have hc : L (takB tokP s) = c :: r.takeWhile (fun c => tokP c.toNat) := by
        rw [hw, e, List.takeWhile_cons, show tokP c.toNat = true from le_tok c c2]; simp
      have hall : ∀ x ∈ L (takB tokP s), toU x = true := tak_all tokP s
      show VT (L (takB tokP s)) 4 0 (L (takB tokP s))
      rw [hc] at hall ⊢
      exact VT.tok c _ c2 hall
    rw [if_neg c2] at h
    by_cases c3 : (c.toNat : Int) = 34
    · rw [if_pos c3] at h
      have : c = 34 := u_eq c3
      subst this
      obtain ⟨q, a1, a2, a3, a4⟩ := quoted_inv h
      refine ⟨34 :: q, by rw [e, ← et, a1]; rfl, ?_⟩
      rw [a3, a4]; exact VT.quo q _ a2
    rw [if_neg c3] at h
    by_cases c4 : (c.toNat : Int) = 58
    · rw [if_pos c4] at h
      have : c = 58 := u_eq c4
      subst this
      unfold rdBytes at h
      have hw := L_tak baP (tl s)
      have hd := L_drp baP (tl s)
      have hsp := span_split (fun c : UInt8 => baP c.toNat) (L (tl s))
      have hall : ∀ x ∈ L (takB baP (tl s)), baU x = true := tak_all baP (tl s)
      rw [← hw, ← hd] at hsp
      cases e5 : atF (drpB baP (tl s)) 58 with
      | false => rw [e5, if_neg (by decide)] at h; cases h
      | true =>
        rw [e5, if_pos rfl] at h
        obtain ⟨rfl, rfl⟩ := Prod.mk.inj (Option.some.inj h)
        obtain ⟨c', r', f1, f2⟩ := atF_ex e5
        have : c' = 58 := u_eq f2
        subst this
        refine ⟨58 :: (L (takB baP (tl s)) ++ [58]), ?_, VT.byt _ hall⟩
        rw [L_tl, f1, e, ← et, ← hsp, f1]; simp
    rw [if_neg c4] at h
    by_cases c5 : (c.toNat : Int) = 63
    · rw [if_pos c5] at h
      have : c = 63 := u_eq c5
      subst this
      unfold rdBool at h
      cases e5 : atF (tl s) 49 with
      | true =>
        rw [e5, if_pos rfl] at h
        obtain ⟨rfl, rfl⟩ := Prod.mk.inj (Option.some.inj h)
        obtain ⟨c', r', f1, f2⟩ := atF_ex e5
        have : c' = 49 := u_eq f2
        subst this
        exact ⟨[63, 49], by rw [L_tl, f1, e, ← et, f1]; rfl, VT.one⟩
      | false =>
        rw [e5, if_neg (by decide)] at h
        cases e6 : atF (tl s) 48 with
        | true =>
          rw [e6, if_pos rfl] at h
          obtain ⟨rfl, rfl⟩ := Prod.mk.inj (Option.some.inj h)
          obtain ⟨c', r', f1, f2⟩ := atF_ex e6
          have : c' = 48 := u_eq f2
          subst this
          exact ⟨[63, 48], by rw [L_tl, f1, e, ← et, f1]; rfl, VT.zero⟩
        | false => rw [e6, if_neg (by decide)] at h; cases h
    · rw [if_neg c5] at h; cases h
  · rw [if_neg h0] at h; cases h
theorem key_first (c : UInt8) (h : smP c.toNat = true ∨ (c.toNat : Int) = 42) : keU c = true ∧ c ≠ 32 := by
  have := allU (fun c : UInt8 => !(smP c.toNat || decide ((c.toNat : Int) = 42)) || (keU c && !decide (c = 32))) (by decide +kernel) c
  simp only [Bool.or_eq_true, Bool.not_eq_true', Bool.or_eq_false_iff, decide_eq_false_iff_not, Bool.and_eq_true] at this
  rcases this with ⟨a, b⟩ | a
  · rcases h with h | h
    · rw [h] at a; cases a
    · exact absurd h b
  · exact a
theorem key_inv {s k t : ByteArray} (h : rdKey s = some (k, t)) : L s = L k ++ L t ∧ KT (L k) := by
  unfold rdKey at h
  by_cases h0 : 0 < s.size ∧ (smP (bt s 0) = true ∨ bt s 0 = 42)
  · rw [if_pos h0] at h
    obtain ⟨rfl, rfl⟩ := Prod.mk.inj (Option.some.inj h)
    obtain ⟨c, r, e⟩ := cons_of s h0.1
    have h1 := h0.2
    rw [bt0 e] at h1
    have hw := L_tak keP s
    have hd := L_drp keP s
    have hsp := span_split (fun c : UInt8 => keP c.toNat) (L s)
    rw [← hw, ← hd] at hsp
    have hall : ∀ x ∈ L (takB keP s), keU x = true := tak_all keP s
    refine ⟨hsp.symm, c, r.takeWhile (fun c => keP c.toNat), ?_, h1, hall⟩
    rw [hw, e, List.takeWhile_cons, show keP c.toNat = true from (key_first c h1).1]; simp
  · rw [if_neg h0] at h; cases h
/-- What text turns what parameters to what. -/
inductive PT : List UInt8 → List S43 → List S43 → Prop
  | nil (l : List S43) : PT [] l l
  | flag (b k u : List UInt8) (l l1 : List S43) (hb : ∀ c ∈ b, c = 32) (hk : KT k) (h : PT u (withP (B k) l ⟨B k, 6, 1, ⟨#[]⟩⟩) l1) : PT (59 :: (b ++ (k ++ u))) l l1
  | val (b k w u : List UInt8) (n i : Int) (t : List UInt8) (l l1 : List S43) (hb : ∀ c ∈ b, c = 32) (hk : KT k) (hv : VT w n i t) (h : PT u (withP (B k) l ⟨B k, n, i, B t⟩) l1) : PT (59 :: (b ++ (k ++ (61 :: (w ++ u))))) l l1
theorem all_of_take {q : UInt8 → Bool} (l : List UInt8) : ∀ c ∈ l.takeWhile q, q c = true := fun c hc => mem_takeWhile q l c hc
theorem pt_inv : ∀ (d : Nat) (s : ByteArray) (l l1 : List S43) (t : ByteArray), pF d s l = some (l1, t) → ∃ u, L s = u ++ L t ∧ PT u l l1 ∧ atF t 59 = false
  | 0, s, l, l1, t, h => by rw [pF] at h; cases h
  | d + 1, s, l, l1, t, h => by
    rw [pF] at h
    cases e : atF s 59 with
    | false =>
      rw [e, if_neg (by decide)] at h
      obtain ⟨rfl, rfl⟩ := Prod.mk.inj (Option.some.inj h)
      exact ⟨[], rfl, PT.nil _, e⟩
    | true =>
      rw [e, if_pos rfl] at h
      obtain ⟨c, r, e1, e2⟩ := atF_ex e
      have : c = 59 := u_eq e2
      subst this
      have et : L (tl s) = r := by rw [L_tl, e1]; rfl
      obtain ⟨⟨k, t1⟩, hk, h⟩ := Option.bind_eq_some_iff.1 h
      simp only [] at h
      obtain ⟨a1, a2⟩ := key_inv hk
      have hsp := span_split (fun c : UInt8 => spP c.toNat) (L (tl s))
      rw [← L_drp spP (tl s), a1] at hsp
      have hb : ∀ c ∈ (L (tl s)).takeWhile (fun c : UInt8 => spP c.toNat), c = 32 := by
        intro c hc
        have := all_of_take (q := fun c : UInt8 => spP c.toNat) (L (tl s)) c hc
        unfold spP at this
        exact u_eq (beq_iff_eq.1 this)
      generalize List.takeWhile (fun c : UInt8 => spP c.toNat) (L (tl s)) = bl at hsp hb
      cases e3 : atF t1 61 with
      | true =>
        rw [e3, if_pos rfl] at h
        obtain ⟨⟨v, t2⟩, hv, h⟩ := Option.bind_eq_some_iff.1 h
        obtain ⟨c', r', f1, f2⟩ := atF_ex e3
        have : c' = 61 := u_eq f2
        subst this
        have et1 : L (tl t1) = r' := by rw [L_tl, f1]; rfl
        obtain ⟨w, b1, b2⟩ := value_inv hv
        obtain ⟨u, g1, g2, g3⟩ := pt_inv d _ _ _ _ h
        simp only [] at g1 g2
        refine ⟨59 :: (bl ++ (L k ++ (61 :: (w ++ u)))), ?_, PT.val _ _ w u v.1 v.2.1 (L v.2.2) _ _ hb a2 b2 (by rw [B_L, B_L]; exact g2), g3⟩
        rw [e1, ← et, ← hsp, f1, ← et1, b1, g1]
        simp
      | false =>
        rw [e3, if_neg (by decide)] at h
        obtain ⟨u, g1, g2, g3⟩ := pt_inv d _ _ _ _ h
        refine ⟨59 :: (bl ++ (L k ++ u)), ?_, PT.flag _ _ u _ _ hb a2 (by rw [B_L]; exact g2), g3⟩
        rw [e1, ← et, ← hsp, g1]
        simp
/-- What text tells what item. -/
def IT (u : List UInt8) (n i : Int) (t : List UInt8) (l : List S43) : Prop := ∃ a b, u = a ++ b ∧ VT a n i t ∧ PT b [] l
theorem next_inv {s : ByteArray} {v : Int × Int × ByteArray} {l : List S43} {t : ByteArray} (h : rdNext s = some (v, l, t)) : ∃ u, L s = u ++ L t ∧ IT u v.1 v.2.1 (L v.2.2) l ∧ atF t 59 = false := by
  unfold rdNext at h
  obtain ⟨⟨v', t1⟩, h1, h⟩ := Option.bind_eq_some_iff.1 h
  obtain ⟨⟨l', t2⟩, h2, h⟩ := Option.bind_eq_some_iff.1 h
  have h := Option.some.inj h
  simp only [Prod.mk.injEq] at h
  obtain ⟨rfl, rfl, rfl⟩ := h
  obtain ⟨a, a1, a2⟩ := value_inv h1
  obtain ⟨b, b1, b2, b3⟩ := pt_inv _ _ _ _ _ h2
  exact ⟨a ++ b, by rw [a1, b1]; simp, ⟨a, b, rfl, a2, b2⟩, b3⟩
end Go.Proofs.YtbbaokjkmcfceaaGreatDoor.Pl
/- Chapter 5: values' text, there and back. -/
namespace Go.Proofs.YtbbaokjkmcfceaaGreatDoor.Pl
open Go.RowKit Go.Proofs.YtbbaokjkmcfceaaGreatDoor.Q Go.Proofs.YtbbaokjkmcfceaaGreatDoor.Sf Go.Proofs.YtbbaokjkmcfceaaGreatDoorW.PrintWords Go.Proofs.YtbbaokjkmcfceaaGreatDoorW.PrintLast
set_option linter.unusedVariables false
set_option linter.unusedSimpArgs false
theorem numL_fold : ∀ (b : List UInt8) (acc : Nat), b.foldl (fun a c => a * 10 + (c.toNat - 48)) acc = acc * 10 ^ b.length + numL b
  | [], acc => by simp [numL]
  | c :: b, acc => by
    have h1 := numL_fold b (acc * 10 + (c.toNat - 48))
    have h2 := numL_fold b (0 * 10 + (c.toNat - 48))
    have e : numL (c :: b) = b.foldl (fun a c => a * 10 + (c.toNat - 48)) (0 * 10 + (c.toNat - 48)) := rfl
    rw [List.foldl_cons, h1, e, h2, List.length_cons, Nat.pow_succ]
    simp only [Nat.add_mul, Nat.zero_mul, Nat.zero_add, Nat.mul_assoc, Nat.mul_comm 10 (10 ^ b.length), Nat.add_assoc]
theorem numL_app (a b : List UInt8) : numL (a ++ b) = numL a * 10 ^ b.length + numL b := by
  have : numL (a ++ b) = b.foldl (fun a c => a * 10 + (c.toNat - 48)) (numL a) := by unfold numL; rw [List.foldl_append]
  rw [this, numL_fold]
theorem numL_bound (l : List UInt8) (h : ∀ c ∈ l, dgU c = true) : numL l < 10 ^ l.length := by
  have := num_bound l 0 h
  rw [Nat.zero_add, Nat.one_mul] at this
  exact this
theorem L_toList (s : ByteArray) : s.toList = L s := Lib.toList_data s
theorem zer_len (n : Nat) (h : n ≤ 3) : (zerL n).length = 3 - n := by unfold zerL; simp
theorem take_snoc {α : Type} (l : List α) (k : Nat) (h : k < l.length) : l.take (k + 1) = l.take k ++ [l[k]] := by
  rw [List.take_add_one, List.getElem?_eq_getElem h]; rfl
end Go.Proofs.YtbbaokjkmcfceaaGreatDoor.Pl
/- Chapter 5: an item is the same as itself; how many parameters a text has. -/
namespace Go.Proofs.YtbbaokjkmcfceaaGreatDoor.Pl
open Go.RowKit Go.Proofs.YtbbaokjkmcfceaaGreatDoor.Q Go.Proofs.YtbbaokjkmcfceaaGreatDoor.Sf Go.Proofs.YtbbaokjkmcfceaaGreatDoorW.PrintWords Go.Proofs.YtbbaokjkmcfceaaGreatDoorW.PrintLast
set_option linter.unusedVariables false
set_option linter.unusedSimpArgs false
theorem wrap_next (j : Nat) (h : j ≤ 100000) : wrap64 ((j : Int) + 1) = ((j + 1 : Nat) : Int) := by
  unfold wrap64; omega
theorem same_loop (l : List S43) (hl : l.length ≤ 100000) : ∀ (m j k : Nat), j + m = l.length → m < k → glacisref05_SameParams.l0 k l l (j : Int) = some true
  | 0, j, k, hm, hk => by
    obtain ⟨k, rfl⟩ : ∃ k', k = k' + 1 := ⟨k - 1, by omega⟩
    rw [glacisref05_SameParams.l0, if_neg (by omega)]
  | m + 1, j, k, hm, hk => by
    obtain ⟨k, rfl⟩ : ∃ k', k = k' + 1 := ⟨k - 1, by omega⟩
    rw [glacisref05_SameParams.l0, if_pos (by omega), if_pos (by omega), if_pos (by omega), if_neg (by simp), wrap_next j (by omega)]
    exact same_loop l hl m (j + 1) k (by omega) (by omega)
theorem same_refl (l : List S43) (hl : l.length ≤ 100000) (n i : Int) (t : ByteArray) (k : Nat) (hk : l.length < k) : glacisref05_Same.f k n i t l n i t l = some true := by
  unfold glacisref05_Same.f glacisref05_SameParams.f
  rw [if_pos rfl]
  have := same_loop l hl l.length 0 k (by omega) hk
  rw [show ((0 : Nat) : Int) = 0 from rfl] at this
  rw [this]
  simp only [Option.bind_some]
  rw [if_pos trivial, if_pos trivial, if_pos trivial]
  simp
theorem pt_count {u : List UInt8} {l l1 : List S43} (h : PT u l l1) : l1.length ≤ l.length + u.length := by
  induction h with
  | nil => simp
  | flag b k u l l1 hb hk h ih =>
    have := withP_len (B k) l ⟨B k, 6, 1, ⟨#[]⟩⟩
    simp only [List.length_cons, List.length_append]; omega
  | val b k w u n i t l l1 hb hk hv h ih =>
    have := withP_len (B k) l ⟨B k, n, i, B t⟩
    simp only [List.length_cons, List.length_append]; omega
theorem it_count {u : List UInt8} {n i : Int} {t : List UInt8} {l : List S43} (h : IT u n i t l) : l.length ≤ u.length := by
  obtain ⟨a, b, rfl, hv, hp⟩ := h
  have := pt_count hp
  simp at this ⊢; omega
end Go.Proofs.YtbbaokjkmcfceaaGreatDoor.Pl
/- Chapter 5: parameters' text, there and back. -/
namespace Go.Proofs.YtbbaokjkmcfceaaGreatDoor.Pl
open Go.RowKit Go.Proofs.YtbbaokjkmcfceaaGreatDoor.Q Go.Proofs.YtbbaokjkmcfceaaGreatDoor.Sf Go.Proofs.YtbbaokjkmcfceaaGreatDoorW.PrintWords Go.Proofs.YtbbaokjkmcfceaaGreatDoorW.PrintLast
set_option linter.unusedVariables false
set_option linter.unusedSimpArgs false
theorem rd_at5 (l : List S43) (j : Nat) (h : j < l.length) : rd_T43 l (j : Int) = l[j] := by
  unfold rd_T43; simp [List.getD_eq_getElem?_getD, h]
/-- No key twice. -/
def Dist (l : List S43) : Prop := (l.map (·.f0)).Nodup
theorem set_keys (l : List S43) (i : Nat) (p : S43) (hl : i < l.length) (hp : p.f0 = l[i].f0) : (l.set i p).map (·.f0) = l.map (·.f0) := by
  rw [List.map_set, hp]
  apply List.ext_getElem?
  intro j
  rw [List.getElem?_set]
  split
  · rename_i e; subst e; simp [hl]
  · rfl
theorem dist_with (k : ByteArray) (l : List S43) (p : S43) (hp : p.f0 = k) (h : Dist l) : Dist (withP k l p) := by
  unfold withP
  split
  · rename_i i hi
    obtain ⟨hl, h1, _⟩ := List.findIdx?_eq_some_iff_getElem.1 hi
    have hk : l[i].f0 = k := of_decide_eq_true h1
    unfold Dist at h ⊢
    rw [set_keys l i p hl (hp.trans hk.symm)]; exact h
  · rename_i hn
    unfold Dist at h ⊢
    rw [List.map_append, List.nodup_append]
    refine ⟨h, by simp, ?_⟩
    intro a ha b hb e
    obtain ⟨q, hq, rfl⟩ := List.mem_map.1 ha
    have := List.findIdx?_eq_none_iff.1 hn q hq
    have hb' : b = p.f0 := by simpa using hb
    have := of_decide_eq_false this
    exact this (e.trans (hb'.trans hp))
end Go.Proofs.YtbbaokjkmcfceaaGreatDoor.Pl
/- Chapter 5: what the document's own reader gives is what the program's reader gives. -/
namespace Go.Proofs.YtbbaokjkmcfceaaGreatDoor.Pl
open Go.RowKit Go.Proofs.YtbbaokjkmcfceaaGreatDoor.Q Go.Proofs.YtbbaokjkmcfceaaGreatDoor.Sf Go.Proofs.YtbbaokjkmcfceaaGreatDoorW.PrintWords Go.Proofs.YtbbaokjkmcfceaaGreatDoorW.PrintLast
set_option linter.unusedVariables false
set_option linter.unusedSimpArgs false
theorem up {α : Type} {f : Nat → Option α} (hm : ∀ k, LeO (f k) (f (k + 1))) {k0 : Nat} {r : α} (h : f k0 = some r) : ∀ k, k0 ≤ k → f k = some r := by
  intro k hk
  induction k with
  | zero => obtain rfl : k0 = 0 := by omega
            exact h
  | succ k ih =>
    rcases Nat.lt_or_ge k k0 with c | c
    · obtain rfl : k0 = k + 1 := by omega
      exact h
    · exact hm k r (ih c)
theorem bt_u (s : ByteArray) (j : Nat) (h : j < s.size) : ∃ c : UInt8, bt s (j : Int) = (c.toNat : Int) := by
  have hl : j < s.data.toList.length := by rw [← Lib.size_eq]; exact h
  exact ⟨_, bt_list s j hl⟩
theorem letter_u (c : UInt8) : glacisref01_Letter.f c.toNat = some (leP c.toNat) :=
  of_decide_eq_true (allU (fun c : UInt8 => decide (glacisref01_Letter.f c.toNat = some (leP c.toNat))) (by decide +kernel) c)
theorem digit_u (c : UInt8) : glacisref01_Digit.f c.toNat = some (dgP c.toNat) :=
  of_decide_eq_true (allU (fun c : UInt8 => decide (glacisref01_Digit.f c.toNat = some (dgP c.toNat))) (by decide +kernel) c)
theorem base_u (c : UInt8) : glacisref05_base.f c.toNat = some (baP c.toNat) :=
  of_decide_eq_true (allU (fun c : UInt8 => decide (glacisref05_base.f c.toNat = some (baP c.toNat))) (by decide +kernel) c)
theorem tokens_u (c : UInt8) (k : Nat) (hk : 16 ≤ k) : glacisref05_tokens.f k c.toNat = some (tokP c.toNat) := by
  have h := of_decide_eq_true (allU (fun c : UInt8 => decide (glacisref05_tokens.f 16 c.toNat = some (tokP c.toNat))) (by decide +kernel) c)
  exact up (f := fun k => glacisref05_tokens.f k c.toNat) (fun k => glacisref05_tokens.mono _ k) h k hk
theorem small_u (c : UInt8) : glacisref05_small.f c.toNat true = some (smP c.toNat || decide ((c.toNat : Int) = 42)) :=
  of_decide_eq_true (allU (fun c : UInt8 => decide (glacisref05_small.f c.toNat true = some (smP c.toNat || decide ((c.toNat : Int) = 42)))) (by decide +kernel) c)
theorem small_v (c : UInt8) : glacisref05_small.f c.toNat false = some (keP c.toNat) :=
  of_decide_eq_true (allU (fun c : UInt8 => decide (glacisref05_small.f c.toNat false = some (keP c.toNat))) (by decide +kernel) c)
theorem L_ext (s : ByteArray) (a : Nat) : L (s.extract a s.size) = (L s).drop a := by
  unfold L
  rw [Lib.extract_data, Lib.size_eq, List.take_of_length_le (by simp)]
theorem L_ext0 (s : ByteArray) (a : Nat) : L (s.extract 0 a) = (L s).take a := by
  unfold L
  rw [Lib.extract_data]; simp
theorem L_extm (s : ByteArray) (a b : Nat) : L (s.extract a b) = ((L s).drop a).take (b - a) := by
  unfold L
  rw [Lib.extract_data]
theorem bt_L (s : ByteArray) (j : Nat) (h : j < (L s).length) : bt s (j : Int) = ((L s)[j].toNat : Int) := bt_list s j h
theorem drop_cons (l : List UInt8) (n : Nat) (h : n < l.length) : l.drop n = l[n] :: l.drop (n + 1) := List.drop_eq_getElem_cons h
theorem atF_ext (s : ByteArray) (n : Nat) (c : Int) : atF (s.extract n s.size) c = decide (n < s.size ∧ bt s (n : Int) = c) := by
  by_cases h : n < s.size
  · have hl : n < (L s).length := by rw [← size_L]; exact h
    have e : L (s.extract n s.size) = (L s)[n] :: (L s).drop (n + 1) := by rw [L_ext, drop_cons _ _ hl]
    rw [atF_cons e, bt_L s n hl]
    simp [h]
  · have e : L (s.extract n s.size) = [] := by rw [L_ext]; exact List.drop_eq_nil_of_le (by rw [← size_L]; omega)
    rw [atF_nil e]
    simp [h]
theorem tl_ext (s : ByteArray) (n : Nat) : tl (s.extract n s.size) = s.extract (n + 1) s.size := by
  apply L_inj
  rw [L_tl, L_ext, L_ext]; simp
theorem drp_is (p : Int → Bool) (s : ByteArray) : drpB p s = s.extract (spanB p s) s.size := rfl
theorem tl_is (s : ByteArray) : tl s = s.extract 1 s.size := rfl
theorem bt_tl (s : ByteArray) (j : Nat) (h : j + 1 < s.size) : bt (tl s) (j : Int) = bt s ((j + 1 : Nat) : Int) := by
  have h1 : j + 1 < (L s).length := by rw [← size_L]; exact h
  have h2 : j < (L (tl s)).length := by rw [L_tl, List.length_tail]; omega
  rw [bt_L _ _ h2, bt_L _ _ h1]
  have : (L (tl s))[j] = (L s)[j + 1] := by simp [L_tl]
  rw [this]
theorem digits_l (s : ByteArray) (hs : s.size ≤ 100000) : ∀ (m x k : Nat), x + m = s.size → m < k → (∀ j : Nat, j < x → dgP (bt s j) = true) → glacisref05_digits.l0 k s (x : Int) = some (spanB dgP s : Int)
  | 0, x, k, hm, hk, hj => by
    obtain ⟨k, rfl⟩ : ∃ k', k = k' + 1 := ⟨k - 1, by omega⟩
    rw [glacisref05_digits.l0, if_neg (by omega), span_eq dgP s x (by omega) hj (fun h => by omega)]
  | m + 1, x, k, hm, hk, hj => by
    obtain ⟨k, rfl⟩ : ∃ k', k = k' + 1 := ⟨k - 1, by omega⟩
    obtain ⟨c, hc⟩ := bt_u s x (by omega)
    rw [glacisref05_digits.l0, if_pos (by omega), if_pos (by omega), hc, digit_u]
    simp only [Option.bind_some]
    by_cases hd : dgP c.toNat = true
    · rw [if_pos hd, wrap_next x (by omega)]
      refine digits_l s hs m (x + 1) k (by omega) (by omega) (fun j hjx => ?_)
      by_cases e : j = x
      · subst e; rw [hc]; exact hd
      · exact hj j (by omega)
    · rw [if_neg hd, span_eq dgP s x (by omega) hj (fun _ => by rw [hc]; exact Bool.eq_false_iff.mpr hd)]
theorem digits_f (s : ByteArray) (hs : s.size ≤ 100000) (k : Nat) (hk : s.size < k) : glacisref05_digits.f k s = some (spanB dgP s : Int) := by
  unfold glacisref05_digits.f
  exact digits_l s hs s.size 0 k (by omega) hk (fun j hj => by omega)
theorem numL_snoc (l : List UInt8) (c : UInt8) : numL (l ++ [c]) = numL l * 10 + (c.toNat - 48) := by unfold numL; rw [List.foldl_append]; rfl
theorem wrap_id (x : Int) (h : -9000000000000000000 ≤ x ∧ x ≤ 9000000000000000000) : wrap64 x = x := by unfold wrap64; omega
theorem lt_p15 {x n : Nat} (h : x < 10 ^ n) (hn : n ≤ 15) : x < 1000000000000000 := Nat.lt_of_lt_of_le h (Nat.le_trans (Nat.pow_le_pow_right (by decide) hn) (by decide))
theorem told_l (s : ByteArray) (hs : s.size ≤ 15) (hd : ∀ c ∈ L s, dgU c = true) : ∀ (m x k : Nat), x + m = s.size → m < k → glacisref05_told.l0 k s (numL ((L s).take x) : Int) (x : Int) = some (numL (L s) : Int)
  | 0, x, k, hm, hk => by
    obtain ⟨k, rfl⟩ : ∃ k', k = k' + 1 := ⟨k - 1, by omega⟩
    rw [glacisref05_told.l0, if_neg (by omega), List.take_of_length_le (by rw [← size_L]; omega)]
  | m + 1, x, k, hm, hk => by
    obtain ⟨k, rfl⟩ : ∃ k', k = k' + 1 := ⟨k - 1, by omega⟩
    have hx : x < (L s).length := by rw [← size_L]; omega
    have hc := hd _ (List.getElem_mem hx)
    have hc2 := dg_ne hc
    have e : numL ((L s).take (x + 1)) = numL ((L s).take x) * 10 + ((L s)[x].toNat - 48) := by rw [take_snoc _ _ hx, numL_snoc]
    have hb : numL ((L s).take (x + 1)) < 1000000000000000 := lt_p15 (numL_bound ((L s).take (x + 1)) (fun c hc => hd c (List.mem_of_mem_take hc))) (by rw [List.length_take, ← size_L]; omega)
    rw [glacisref05_told.l0, if_pos (by omega), if_pos (by omega), bt_L s x hx, wrap_next x (by omega)]
    obtain ⟨d, hd48⟩ : ∃ d : Nat, (L s)[x].toNat = 48 + d := ⟨(L s)[x].toNat - 48, by omega⟩
    have hd9 : d ≤ 9 := by omega
    rw [hd48, Nat.add_sub_cancel_left] at e
    rw [e] at hb
    have m1 : ((((L s)[x].toNat : Int) - 48) % 256) = (d : Int) := by rw [hd48]; omega
    generalize numL ((L s).take x) = a at *
    have m2 : wrap64 (10 * (a : Int)) = 10 * (a : Int) := wrap_id _ (by omega)
    have m3 : wrap64 (10 * (a : Int) + (d : Int)) = 10 * (a : Int) + (d : Int) := wrap_id _ (by omega)
    have e2 : wrap64 ((wrap64 (10 * (a : Int))) + ((((L s)[x].toNat : Int) - 48) % 256)) = (numL ((L s).take (x + 1)) : Int) := by
      rw [m1, m2, m3, e]; omega
    rw [e2]
    exact told_l s hs hd m (x + 1) k (by omega) (by omega)
theorem told_f (s : ByteArray) (hs : s.size ≤ 15) (hd : ∀ c ∈ L s, dgU c = true) (k : Nat) (hk : 16 ≤ k) : glacisref05_told.f k s = some (numL (L s) : Int) := by
  unfold glacisref05_told.f
  have := told_l s hs hd s.size 0 k (by omega) (by omega)
  simpa [numL] using this
/-- The document's answer, of a value that is read. -/
def refV (o : Option ((Int × Int × ByteArray) × ByteArray)) : ByteArray × Int × Int × ByteArray × ByteArray × Bool := match o with | some (v, t) => (⟨#[]⟩, v.1, v.2.1, v.2.2, t, true) | none => (⟨#[]⟩, 0, 0, ⟨#[]⟩, ⟨#[]⟩, false)
theorem refV_some (v : Int × Int × ByteArray) (t : ByteArray) : refV (some (v, t)) = (⟨#[]⟩, v.1, v.2.1, v.2.2, t, true) := rfl
def rdN (sg : Int) (s1 : ByteArray) : Option ((Int × Int × ByteArray) × ByteArray) :=
  if (takB dgP s1).size = 0 then none
    else if atF (drpB dgP s1) 46 = true then
      (if (takB dgP s1).size > 12 ∨ (takB dgP (tl (drpB dgP s1))).size = 0 ∨ (takB dgP (tl (drpB dgP s1))).size > 3 then none
      else some ((2, sg * (numV (takB dgP s1 ++ (takB dgP (tl (drpB dgP s1)) ++ zer (takB dgP (tl (drpB dgP s1))).size)) : Int), ⟨#[]⟩), drpB dgP (tl (drpB dgP s1))))
    else if (takB dgP s1).size > 15 then none else some ((1, sg * (numV (takB dgP s1) : Int), ⟨#[]⟩), drpB dgP s1)
theorem rdN_eq (s : ByteArray) : rdNumber s = rdN (sgn s) (atR s 45) := rdNumber_eq s
theorem number_j0 (s : ByteArray) (hs : s.size ≤ 100000) (sg : Int) (hsg : sg = 1 ∨ sg = -1) (k : Nat) (hk : s.size + 30 < k) : glacisref05_number.j0 k s sg = some (refV (rdN sg s)) := by
  obtain ⟨k, rfl⟩ : ∃ k', k = k' + 10 := ⟨k - 10, by omega⟩
  have hn := span_le dgP s
  have hall : ∀ c ∈ L (takB dgP s), dgU c = true := tak_all dgP s
  rw [glacisref05_number.j0, digits_f s hs _ (by omega)]
  simp only [Option.bind_some]
  unfold rdN
  rw [drp_is dgP s, tl_ext, atF_ext]
  have et : takB dgP s = s.extract 0 (spanB dgP s) := rfl
  rw [tak_size]
  by_cases h0 : spanB dgP s = 0
  · rw [if_pos (by omega), if_pos h0, glacisref05_number.j1, if_pos rfl]; rfl
  rw [if_neg (by omega), if_neg h0, glacisref05_number.j1]
  by_cases h15 : (spanB dgP s : Int) > 15
  · rw [decide_eq_true h15, if_pos rfl]
    by_cases h46 : spanB dgP s < s.size ∧ bt s (spanB dgP s) = 46
    · rw [decide_eq_true h46, if_pos rfl, if_pos (by omega)]; rfl
    · rw [decide_eq_false h46, if_neg (by decide), if_pos (by omega)]; rfl
  rw [decide_eq_false h15, if_neg (by decide)]
  have hint : glacisref05_number.j2 (k + 8) s sg (spanB dgP s) true = some (refV (some ((1, sg * (numV (takB dgP s) : Int), ⟨#[]⟩), s.extract (spanB dgP s) s.size))) := by
    have hz : (takB dgP s).size ≤ 15 := by rw [tak_size]; omega
    have hb := lt_p15 (numL_bound (L (takB dgP s)) hall) (by rw [← size_L]; exact hz)
    rw [glacisref05_number.j2, if_pos rfl, if_pos (by omega), if_pos (by omega)]
    have e1 : s.extract 0 ((spanB dgP s : Int)).toNat = takB dgP s := rfl
    rw [e1, told_f _ hz hall _ (by omega)]
    simp only [Option.bind_some]
    rw [wrap_id _ (by rcases hsg with rfl | rfl <;> omega), numV_L, refV_some]
    rfl
  by_cases h46 : spanB dgP s < s.size ∧ bt s (spanB dgP s) = 46
  · rw [decide_eq_true h46, if_pos (show true = true from rfl)]
    rw [if_neg (by omega), if_pos (by omega), if_pos (by omega), h46.2]
    have hw : wrap64 ((spanB dgP s : Int) + 1) = ((spanB dgP s + 1 : Nat) : Int) := wrap_next _ (by omega)
    rw [show ((46 : Int) != 46) = false from rfl, glacisref05_number.j2, if_neg (by decide), hw, if_pos (by omega), if_pos (by omega)]
    have e2 : s.extract (((spanB dgP s + 1 : Nat) : Int)).toNat s.size = s.extract (spanB dgP s + 1) s.size := rfl
    rw [e2]
    have hz2 : (s.extract (spanB dgP s + 1) s.size).size ≤ s.size := by rw [ByteArray.size_extract]; omega
    rw [digits_f _ (by omega) _ (by omega)]
    simp only [Option.bind_some]
    generalize hP : s.extract (spanB dgP s + 1) s.size = P at *
    have hPL : L P = (L s).drop (spanB dgP s + 1) := by rw [← hP, L_ext]
    have hPs : P.size = s.size - (spanB dgP s + 1) := by rw [← hP, ByteArray.size_extract]; omega
    have hm := span_le dgP P
    have hall2 : ∀ c ∈ L (takB dgP P), dgU c = true := tak_all dgP P
    rw [tak_size]
    by_cases hbad : spanB dgP s > 12 ∨ spanB dgP P = 0 ∨ spanB dgP P > 3
    · rw [if_pos hbad]
      have hj : ∀ b : Bool, b = true → glacisref05_number.j3 (k + 7) s sg (spanB dgP s) (spanB dgP P) b = some (refV none) := by
        intro b hb
        rw [glacisref05_number.j3, if_pos hb]; rfl
      by_cases b1 : (spanB dgP s : Int) > 12
      · rw [if_pos b1]; exact hj true rfl
      rw [if_neg b1]
      by_cases b2 : (spanB dgP P : Int) < 1
      · rw [if_pos b2]; exact hj true rfl
      rw [if_neg b2]
      exact hj _ (decide_eq_true (by omega))
    · rw [if_neg hbad, if_neg (by omega), if_neg (by omega), decide_eq_false (by omega), glacisref05_number.j3, if_neg (by decide), if_pos (by omega), if_pos (by omega), hw, if_pos (by omega)]
      have hw2 : wrap64 (((spanB dgP s + 1 : Nat) : Int) + (spanB dgP P : Int)) = ((spanB dgP s + 1 + spanB dgP P : Nat) : Int) := by unfold wrap64; omega
      rw [hw2, if_pos (by omega), if_pos (by omega)]
      have e3 : s.extract 0 ((spanB dgP s : Int)).toNat = takB dgP s := rfl
      have e4 : s.extract (((spanB dgP s + 1 : Nat) : Int)).toNat (((spanB dgP s + 1 + spanB dgP P : Nat) : Int)).toNat = takB dgP P := by
        apply L_inj
        rw [L_extm]
        have : L (takB dgP P) = (L P).take (spanB dgP P) := L_ext0 P _
        rw [this, hPL]
        congr 1
        omega
      rw [e3, e4]
      have z1 := tak_size dgP s
      have z2 := tak_size dgP P
      rw [if_pos (by omega)]
      have hz : (takB dgP s ++ takB dgP P).size ≤ 15 := by rw [ByteArray.size_append]; omega
      have hall3 : ∀ c ∈ L (takB dgP s ++ takB dgP P), dgU c = true := by
        rw [L_app]; intro c hc
        rcases List.mem_append.1 hc with hc | hc
        · exact hall c hc
        · exact hall2 c hc
      rw [told_f _ hz hall3 _ (by omega)]
      simp only [Option.bind_some]
      have hb := numL_bound (L (takB dgP s ++ takB dgP P)) hall3
      have hlen : (L (takB dgP s ++ takB dgP P)).length = spanB dgP s + spanB dgP P := by rw [← size_L, ByteArray.size_append]; omega
      have hval : numV (takB dgP s ++ (takB dgP P ++ zer (spanB dgP P))) = numL (L (takB dgP s ++ takB dgP P)) * 10 ^ (3 - spanB dgP P) := by
        have eqa : takB dgP s ++ (takB dgP P ++ zer (spanB dgP P)) = (takB dgP s ++ takB dgP P) ++ zer (spanB dgP P) := L_inj (by simp only [L_app, List.append_assoc])
        rw [eqa, numV_L, L_app, zer_L, numL_app]
        have hzl : (zerL (spanB dgP P)).length = 3 - spanB dgP P := zer_len _ (by omega)
        have hz0 : numL (zerL (spanB dgP P)) = 0 := by
          rcases (show spanB dgP P = 1 ∨ spanB dgP P = 2 ∨ spanB dgP P = 3 by omega) with e | e | e <;> rw [e] <;> rfl
        rw [hzl, hz0, Nat.add_zero]
      rw [hval, refV_some]
      have hrest : drpB dgP P = s.extract (spanB dgP s + 1 + spanB dgP P) s.size := by
        apply L_inj
        have : L (drpB dgP P) = (L P).drop (spanB dgP P) := L_ext P _
        rw [this, hPL, L_ext, List.drop_drop]
      rw [hrest]
      generalize numL (L (takB dgP s ++ takB dgP P)) = X at *
      have hX : X < 10 ^ (spanB dgP s + spanB dgP P) := by rw [← hlen]; exact hb
      have hlast : ∀ (k' : Nat) (Y : Int), glacisref05_number.l0 (k' + 1) s sg (spanB dgP s) (spanB dgP P) Y 3 = some (⟨#[]⟩, 2, wrap64 (sg * Y), ⟨#[]⟩, s.extract (spanB dgP s + 1 + spanB dgP P) s.size, true) := by
        intro k' Y
        rw [glacisref05_number.l0, if_neg (by decide), hw, hw2, if_pos (by omega), if_pos (by omega)]
        rfl
      have hle : X < 10 ^ 12 * 10 ^ spanB dgP P := by
        rw [← Nat.pow_add]
        exact Nat.lt_of_lt_of_le hX (Nat.pow_le_pow_right (by omega) (by omega))
      rcases (show spanB dgP P = 1 ∨ spanB dgP P = 2 ∨ spanB dgP P = 3 by omega) with e | e | e
      · rw [e] at hlast hle ⊢
        rw [show k + 6 = (k + 5) + 1 from rfl, show (((1 : Nat)) : Int) = 1 from rfl] at *
        rw [glacisref05_number.l0, if_pos (by decide), wrap_id (10 * (X : Int)) (by omega), show wrap64 ((1 : Int) + 1) = 2 from wrap_id _ (by omega), glacisref05_number.l0, if_pos (by decide), wrap_id (10 * (10 * (X : Int))) (by omega), show wrap64 ((2 : Int) + 1) = 3 from wrap_id _ (by omega), hlast]
        rw [wrap_id _ (by rcases hsg with rfl | rfl <;> omega)]
        congr 3
        rw [show (3 - 1 : Nat) = 2 from rfl]
        push_cast
        rcases hsg with rfl | rfl <;> simp <;> omega
      · rw [e] at hlast hle ⊢
        rw [show k + 6 = (k + 5) + 1 from rfl, show (((2 : Nat)) : Int) = 2 from rfl] at *
        rw [glacisref05_number.l0, if_pos (by decide), wrap_id (10 * (X : Int)) (by omega), show wrap64 ((2 : Int) + 1) = 3 from wrap_id _ (by omega), hlast]
        rw [wrap_id _ (by rcases hsg with rfl | rfl <;> omega)]
        congr 3
        rw [show (3 - 2 : Nat) = 1 from rfl]
        push_cast
        rcases hsg with rfl | rfl <;> simp <;> omega
      · rw [e] at hlast hle ⊢
        rw [show k + 6 = (k + 5) + 1 from rfl, show (((3 : Nat)) : Int) = 3 from rfl] at *
        rw [hlast]
        rw [wrap_id _ (by rcases hsg with rfl | rfl <;> omega)]
        congr 3
        rw [show (3 - 3 : Nat) = 0 from rfl]
        simp
  · rw [decide_eq_false h46, if_neg (show ¬ (false = true) by decide), if_neg (show ¬ (spanB dgP s > 15) by omega)]
    by_cases he : (spanB dgP s : Int) = (s.size : Int)
    · rw [if_pos he]; exact hint
    · rw [if_neg he, if_pos (by omega), if_pos (by omega)]
      have : (bt s (spanB dgP s) != 46) = true := by
        rw [bne_iff_ne]; intro e; exact h46 ⟨by omega, e⟩
      rw [this]; exact hint
theorem number_f (s : ByteArray) (hs : s.size ≤ 100000) (h0 : 0 < s.size) (k : Nat) (hk : s.size + 30 < k) : glacisref05_number.f k s = some (refV (rdNumber s)) := by
  unfold glacisref05_number.f
  rw [if_pos (by omega), rdN_eq]
  unfold sgn atR atF
  by_cases h : bt s 0 = 45
  · rw [if_pos h, if_pos (by omega), decide_eq_true (show 0 < s.size ∧ bt s 0 = 45 from ⟨h0, h⟩), if_pos rfl, if_pos rfl]
    have hz := tl_size s
    exact number_j0 (tl s) (by omega) (-1) (Or.inr rfl) k (by omega)
  · rw [if_neg h, decide_eq_false (show ¬ (0 < s.size ∧ bt s 0 = 45) from fun e => h e.2), if_neg (by decide), if_neg (by decide)]
    exact number_j0 s hs 1 (Or.inl rfl) k hk
end Go.Proofs.YtbbaokjkmcfceaaGreatDoor.Pl
