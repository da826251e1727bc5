/- The law SfieldReads: contracts, words and plain lemmas that its proof reaches, part 5. Its conditions: the row's own. -/
import Derived.Test.YtjdbiicjfpgjkaaGreatDoorZr4
set_option maxHeartbeats 8000000
set_option maxRecDepth 100000
namespace Go.Proofs.YtjdbiicjfpgjkaaGreatDoor.Q
open Go.RowKit Go.Proofs.YtjdbiicjfpgjkaaGreatDoorW.PrintWords Go.Proofs.YtjdbiicjfpgjkaaGreatDoorW.PrintLast Go.Proofs.YtjdbiicjfpgjkaaGreatDoorW.PrintMore
set_option linter.unusedVariables false
set_option linter.unusedSimpArgs false
def glacisref05_With.l0 : Nat → List (S60) → List (S60) → Bool → Int → ByteArray → Int → Int → ByteArray → Option ((List (S60)))
 | 0, _, _, _, _, _, _, _, _ => none
 | k + 1, x0, x5, x6, x7, x251000, x251001, x251002, x251003 => if x7 < (x0.length : Int) then (if 0 ≤ x7 then (if ((rd_T60 x0 x7).f0).toList = x251000.toList then (if x5.length < 2932031007402 then (glacisref05_With.l0 k x0 (x5 ++ [(⟨x251000, x251001, x251002, x251003⟩ : S60)]) true (wrap64 (x7 + 1)) x251000 x251001 x251002 x251003) else (none)) else (if x5.length < 2932031007402 then (glacisref05_With.l0 k x0 (x5 ++ [(⟨(rd_T60 x0 x7).f0, (rd_T60 x0 x7).f1, (rd_T60 x0 x7).f2, (rd_T60 x0 x7).f3⟩ : S60)]) x6 (wrap64 (x7 + 1)) x251000 x251001 x251002 x251003) else (none))) else (none)) else (if x6 = true then (some x5) else (if x5.length < 2932031007402 then (some (x5 ++ [(⟨x251000, x251001, x251002, x251003⟩ : S60)])) else (none)))
def glacisref05_With.f (k : Nat) (l0 : List (S60)) (a1_0 : ByteArray) (a1_1 : Int) (a1_2 : Int) (a1_3 : ByteArray) : Option ((List (S60))) := glacisref05_With.l0 k l0 ([] : List (S60)) false 0 a1_0 a1_1 a1_2 a1_3
theorem glacisref05_With.calls (k : Nat) (A0 : Option Addr) (c0 : Nat) (l0 : List (S60)) (a1_0 : ByteArray) (a1_1 : Int) (a1_2 : Int) (a1_3 : ByteArray) (r : List (S60)) (w : World) (hr0 : Kd.C k60 w A0 l0.length l0) (hc0 : l0.length ≤ c0) (h : glacisref05_With.f k l0 a1_0 a1_1 a1_2 a1_3 = some r) :
  Calls Tryz.prog 119 #[.slice A0 l0.length c0, .agg #[.string a1_0, .int .i64 a1_1, .int .i64 a1_2, .string a1_3]] w fun e w' => ∃ v0_ : Value, e = .returned (v0_) ∧ Kd.R k60 60 w' w.heap.size (fun _ => True) v0_ r ∧ Below w.heap.size w w' := by
 have hu60 := Tryz.underlying60
 have HR0 := Aside0.mk hr0
 have HC0 := Aside0.mk hc0
 clear hr0 hc0
 have HB := Aside0.mk (Below.refl w.heap.size w)
 have H : (glacisref05_With.l0 k l0 ([] : List (S60)) false 0 a1_0 a1_1 a1_2 a1_3) = some r := h
 clear h
 have H' := Aside0.mk H
 clear H
 go_enter Tryz.func119, Tryz.ntmps119
 go_wp2_with (first | ((with_reducible refine gate_dst (N := 3) rfl ?_); refine box_event ?hg (N := 3) ?hd (cs := #[.string a1_0, .int .i64 a1_1, .int .i64 a1_2, .string a1_3]) (t := 60) ?hr ?_; (case hd => rfl); (case hg => rfl); (case hr => first | (go_simp; done) | (go_simp; rfl)); intro gb250 hg w3 hbox hb; have n0_ := Aside0.mk (below_step (bl_ HB.out) hb); have n1_ := Aside0.mk (hbox); have n2_ := Aside0.mk ((hg_ hg (bl_ HB.out))); have n3_ := Aside0.mk ((hg_ hg (bl_ HB.out))); clear HB; have HB := n0_; have BK250 := n1_; have GW250 := n2_; have GE250 := n3_; clear n0_ n1_ n2_ n3_; clear hb hbox hg))
 repeat (go_quiet (first | ((with_reducible refine gate_dst (N := 3) rfl ?_); refine box_event ?hg (N := 3) ?hd (cs := #[.string a1_0, .int .i64 a1_1, .int .i64 a1_2, .string a1_3]) (t := 60) ?hr ?_; (case hd => rfl); (case hg => rfl); (case hr => first | (go_simp; done) | (go_simp; rfl)); intro gb250 hg w3 hbox hb; have n0_ := Aside0.mk (below_step (bl_ HB.out) hb); have n1_ := Aside0.mk (hbox); have n2_ := Aside0.mk ((hg_ hg (bl_ HB.out))); have n3_ := Aside0.mk ((hg_ hg (bl_ HB.out))); clear HB; have HB := n0_; have BK250 := n1_; have GW250 := n2_; have GE250 := n3_; clear n0_ n1_ n2_ n3_; clear hb hbox hg)); try go_wp2_with (first | ((with_reducible refine gate_dst (N := 3) rfl ?_); refine box_event ?hg (N := 3) ?hd (cs := #[.string a1_0, .int .i64 a1_1, .int .i64 a1_2, .string a1_3]) (t := 60) ?hr ?_; (case hd => rfl); (case hg => rfl); (case hr => first | (go_simp; done) | (go_simp; rfl)); intro gb250 hg w3 hbox hb; have n0_ := Aside0.mk (below_step (bl_ HB.out) hb); have n1_ := Aside0.mk (hbox); have n2_ := Aside0.mk ((hg_ hg (bl_ HB.out))); have n3_ := Aside0.mk ((hg_ hg (bl_ HB.out))); clear HB; have HB := n0_; have BK250 := n1_; have GW250 := n2_; have GE250 := n3_; clear n0_ n1_ n2_ n3_; clear hb hbox hg)))
 go_loopg [5, 6, 7] k (fun kq v5 v6 v7 w' => ∃ (x5_1 : List (S60)) (x6_1 : Bool) (x7_1 : Int), v6 = .bool x6_1 ∧ v7 = .int .i64 x7_1 ∧ Aside0 (glacisref05_With.l0 kq l0 x5_1 x6_1 x7_1 a1_0 a1_1 a1_2 a1_3 = some r) ∧ Aside0 (kq ≤ k) ∧ Aside0 (Kd.R k60 60 w' w.heap.size (fun k_ => k_ ≠ gb250) v5 x5_1) ∧ Aside0 (w'.heap[gb250]? = some (.cells #[.string a1_0, .int .i64 a1_1, .int .i64 a1_2, .string a1_3] 60 (0, 0))) ∧ Aside0 (Below w.heap.size w w'))
 case atStart => exact ⟨(([] : List (S60))), (false), (0), (by first | rfl | simp [*]), (by first | rfl | simp [*]), H', ⟨Nat.le_refl _⟩, ⟨by first | exact Kd.R_nil _ _ _ _ _ | exact Kd.S_nil _ _ _ _ _⟩, ⟨by (repeat refine kq_ ?_); exact BK250.out⟩, ⟨by repeat (first | (with_reducible first | exact HB.out | apply below_alloc | apply pw_below_drewN | apply below_drew1 | refine below_set ?_ GE250.out) | exact HB.out)⟩⟩
 case round =>
  clear H'
  (try clear c1); (try clear p2)
  obtain ⟨x5_1, x6_1, x7_1, rfl, rfl, HA, HK1, HO_5, BK250, HB⟩ := hrel
  cases gk with
  | zero => exact absurd HA.out (by simp [glacisref05_With.l0])
  | succ k1 =>
   have H := HA.out
   clear HA
   simp only [glacisref05_With.l0] at H
   by_cases c4 : x7_1 < (l0.length : Int)
   ·rw [if_pos c4] at H
    have c4b0 : decide (x7_1 < (l0.length : Int)) = true := decide_eq_true c4
    clear c4
    by_cases c5 : 0 ≤ x7_1
    ·rw [if_pos c5] at H
     have c5b0 : decide (0 ≤ x7_1) = true := decide_eq_true c5
     clear c5
     by_cases c6 : ((rd_T60 l0 x7_1).f0).toList = a1_0.toList
     ·rw [if_pos c6] at H
      obtain ⟨c6b0, c6b1⟩ := eT_ c6
      clear c6
      by_cases c7 : x5_1.length < 2932031007402
      ·rw [if_pos c7] at H
       have LMc7 := Aside0.mk c7
       clear c7
       obtain ⟨y252, hy252⟩ : ∃ y_ : List (S60), y_ = (x5_1 ++ [(⟨a1_0, a1_1, a1_2, a1_3⟩ : S60)]) := ⟨_, rfl⟩
       replace H : (glacisref05_With.l0 k1 l0 y252 true (wrap64 (x7_1 + 1)) a1_0 a1_1 a1_2 a1_3) = some r := by first | (rw [hy252]; with_reducible exact H) | (have H2_ := (Option.bind_some _ _).symm.trans H; rw [hy252]; with_reducible exact H2_) | (have H2_ := (Option.bind_some _ _).symm.trans H; with_reducible exact H2_) | with_reducible exact H | (rw [hy252]; exact H) | exact H
       have Ny252 := Aside0.mk hy252
       clear hy252
       have H' := Aside0.mk H
       clear H
       have p251 : 0 ≤ (x7_1 : Int) := of_decide_eq_true (by assumption)
       have q251 : x7_1 < (l0.length : Int) := of_decide_eq_true (by assumption)
       obtain ⟨ad251, e251, hx251_0, hx251_1, hx251_2, hx251_3⟩ := at_T60 HR0.out x7_1 p251 q251
       cases e251
       replace hx251_0 := lb_ HB.out hx251_0
       replace hx251_1 := lb_ HB.out hx251_1
       replace hx251_2 := lb_ HB.out hx251_2
       replace hx251_3 := lb_ HB.out hx251_3
       replace p251 := eq_true p251
       replace q251 := eq_true q251
       have hcz8_0 : wr.cell? ⟨gb250, 0, none⟩ = some (.string a1_0) := (blk_cell BK250.out 0).trans rfl
       have hcz8_1 : wr.cell? ⟨gb250, 1, none⟩ = some (.int .i64 a1_1) := (blk_cell BK250.out 1).trans rfl
       have hcz8_2 : wr.cell? ⟨gb250, 2, none⟩ = some (.int .i64 a1_2) := (blk_cell BK250.out 2).trans rfl
       have hcz8_3 : wr.cell? ⟨gb250, 3, none⟩ = some (.string a1_3) := (blk_cell BK250.out 3).trans rfl
       have hfz8_0 := blk_frozen BK250.out 0
       have hfz8_1 := blk_frozen BK250.out 1
       have hfz8_2 := blk_frozen BK250.out 2
       have hfz8_3 := blk_frozen BK250.out 3
       go_wp2_with (first | ((with_reducible refine gate_builtin (b := .append) (xs := #[.tmp 22, .tmp 24]) rfl ?_); at_builtin; refine Kd.R_append k60 (w0 := w) w.heap.size rfl (.tmp 22) (.tmp 24) 29 60 (.agg #[(.string ⟨#[]⟩), (.int .i64 0), (.int .i64 0), (.string ⟨#[]⟩)]) 48 rfl Tryz.underlying29 info60 rfl (by decide) (by omega) u5 x5_1 (⟨a1_0, a1_1, a1_2, a1_3⟩ : S60) [.string a1_0, .int .i64 a1_1, .int .i64 a1_2, .string a1_3] (fun k_ => k_ ≠ gb250) (fun _ => False) rfl rfl ?aP (fun _ hk => hk.elim) ?aF ?aO ?aB ?aS ?aL ?_; (case aP => exact k60_mkM _ _ _ (⟨a1_0, a1_1, a1_2, a1_3⟩ : S60)); (case aB => exact (by repeat (first | (with_reducible first | exact HB.out | apply below_alloc | apply pw_below_drewN | apply below_drew1 | refine below_set ?_ GE250.out) | exact HB.out))); (case aF => exact (fun k_ hk => Kd.freshB (kl_ BK250.out) k_ hk)); (case aO => exact (rl_ HO_5.out)); (case aS => exact (below_size (by repeat (first | (with_reducible first | exact HB.out | apply below_alloc | apply pw_below_drewN | apply below_drew1 | refine below_set ?_ GE250.out) | exact HB.out)))); (case aL => have := LMc7.out; omega); intro v253 w9 ho hb hg hat; rw [← Ny252.out] at ho; have n0_ := Aside0.mk (blk_grown (kl_ BK250.out) hg (Kd.R_away HO_5.out (fun _ hk => hk))); have n1_ := Aside0.mk (hb); have n2_ := Aside0.mk (ho); clear BK250; clear HB; clear HO_5; have BK250 := n0_; have HB := n1_; have HO254 := n2_; clear n0_ n1_ n2_; clear ho hb hg hat))
       repeat (go_quiet (first | ((with_reducible refine gate_builtin (b := .append) (xs := #[.tmp 22, .tmp 24]) rfl ?_); at_builtin; refine Kd.R_append k60 (w0 := w) w.heap.size rfl (.tmp 22) (.tmp 24) 29 60 (.agg #[(.string ⟨#[]⟩), (.int .i64 0), (.int .i64 0), (.string ⟨#[]⟩)]) 48 rfl Tryz.underlying29 info60 rfl (by decide) (by omega) u5 x5_1 (⟨a1_0, a1_1, a1_2, a1_3⟩ : S60) [.string a1_0, .int .i64 a1_1, .int .i64 a1_2, .string a1_3] (fun k_ => k_ ≠ gb250) (fun _ => False) rfl rfl ?aP (fun _ hk => hk.elim) ?aF ?aO ?aB ?aS ?aL ?_; (case aP => exact k60_mkM _ _ _ (⟨a1_0, a1_1, a1_2, a1_3⟩ : S60)); (case aB => exact (by repeat (first | (with_reducible first | exact HB.out | apply below_alloc | apply pw_below_drewN | apply below_drew1 | refine below_set ?_ GE250.out) | exact HB.out))); (case aF => exact (fun k_ hk => Kd.freshB (kl_ BK250.out) k_ hk)); (case aO => exact (rl_ HO_5.out)); (case aS => exact (below_size (by repeat (first | (with_reducible first | exact HB.out | apply below_alloc | apply pw_below_drewN | apply below_drew1 | refine below_set ?_ GE250.out) | exact HB.out)))); (case aL => have := LMc7.out; omega); intro v253 w9 ho hb hg hat; rw [← Ny252.out] at ho; have n0_ := Aside0.mk (blk_grown (kl_ BK250.out) hg (Kd.R_away HO_5.out (fun _ hk => hk))); have n1_ := Aside0.mk (hb); have n2_ := Aside0.mk (ho); clear BK250; clear HB; clear HO_5; have BK250 := n0_; have HB := n1_; have HO254 := n2_; clear n0_ n1_ n2_; clear ho hb hg hat)); try go_wp2_with (first | ((with_reducible refine gate_builtin (b := .append) (xs := #[.tmp 22, .tmp 24]) rfl ?_); at_builtin; refine Kd.R_append k60 (w0 := w) w.heap.size rfl (.tmp 22) (.tmp 24) 29 60 (.agg #[(.string ⟨#[]⟩), (.int .i64 0), (.int .i64 0), (.string ⟨#[]⟩)]) 48 rfl Tryz.underlying29 info60 rfl (by decide) (by omega) u5 x5_1 (⟨a1_0, a1_1, a1_2, a1_3⟩ : S60) [.string a1_0, .int .i64 a1_1, .int .i64 a1_2, .string a1_3] (fun k_ => k_ ≠ gb250) (fun _ => False) rfl rfl ?aP (fun _ hk => hk.elim) ?aF ?aO ?aB ?aS ?aL ?_; (case aP => exact k60_mkM _ _ _ (⟨a1_0, a1_1, a1_2, a1_3⟩ : S60)); (case aB => exact (by repeat (first | (with_reducible first | exact HB.out | apply below_alloc | apply pw_below_drewN | apply below_drew1 | refine below_set ?_ GE250.out) | exact HB.out))); (case aF => exact (fun k_ hk => Kd.freshB (kl_ BK250.out) k_ hk)); (case aO => exact (rl_ HO_5.out)); (case aS => exact (below_size (by repeat (first | (with_reducible first | exact HB.out | apply below_alloc | apply pw_below_drewN | apply below_drew1 | refine below_set ?_ GE250.out) | exact HB.out)))); (case aL => have := LMc7.out; omega); intro v253 w9 ho hb hg hat; rw [← Ny252.out] at ho; have n0_ := Aside0.mk (blk_grown (kl_ BK250.out) hg (Kd.R_away HO_5.out (fun _ hk => hk))); have n1_ := Aside0.mk (hb); have n2_ := Aside0.mk (ho); clear BK250; clear HB; clear HO_5; have BK250 := n0_; have HB := n1_; have HO254 := n2_; clear n0_ n1_ n2_; clear ho hb hg hat)))
       go_roundg k1
       case measure => have := HK1.out; omega
       case rel => exact ⟨(y252), (true), (wrap64 (x7_1 + 1)), (by first | rfl | simp [*]), (by first | rfl | simp [*]), H', ⟨by have := HK1.out; omega⟩, ⟨rl_ HO254.out⟩, ⟨by (repeat refine kq_ ?_); exact BK250.out⟩, ⟨by repeat (first | (with_reducible first | exact HB.out | apply below_alloc | apply pw_below_drewN | apply below_drew1 | refine below_set ?_ GE250.out) | exact HB.out)⟩⟩
      ·rw [if_neg c7] at H
       exact absurd H (by simp)
     ·rw [if_neg c6] at H
      obtain ⟨c6b0, c6b1⟩ := eF_ c6
      by_cases c10 : x5_1.length < 2932031007402
      ·rw [if_pos c10] at H
       have LMc10 := Aside0.mk c10
       clear c10
       obtain ⟨y256, hy256⟩ : ∃ y_ : List (S60), y_ = (x5_1 ++ [(⟨(rd_T60 l0 x7_1).f0, (rd_T60 l0 x7_1).f1, (rd_T60 l0 x7_1).f2, (rd_T60 l0 x7_1).f3⟩ : S60)]) := ⟨_, rfl⟩
       replace H : (glacisref05_With.l0 k1 l0 y256 x6_1 (wrap64 (x7_1 + 1)) a1_0 a1_1 a1_2 a1_3) = some r := by first | (rw [hy256]; with_reducible exact H) | (have H2_ := (Option.bind_some _ _).symm.trans H; rw [hy256]; with_reducible exact H2_) | (have H2_ := (Option.bind_some _ _).symm.trans H; with_reducible exact H2_) | with_reducible exact H | (rw [hy256]; exact H) | exact H
       have Ny256 := Aside0.mk hy256
       clear hy256
       have H' := Aside0.mk H
       clear H
       have p251 : 0 ≤ (x7_1 : Int) := of_decide_eq_true (by assumption)
       have q251 : x7_1 < (l0.length : Int) := of_decide_eq_true (by assumption)
       obtain ⟨ad251, e251, hx251_0, hx251_1, hx251_2, hx251_3⟩ := at_T60 HR0.out x7_1 p251 q251
       cases e251
       replace hx251_0 := lb_ HB.out hx251_0
       replace hx251_1 := lb_ HB.out hx251_1
       replace hx251_2 := lb_ HB.out hx251_2
       replace hx251_3 := lb_ HB.out hx251_3
       replace p251 := eq_true p251
       replace q251 := eq_true q251
       have hcz11_0 : wr.cell? ⟨gb250, 0, none⟩ = some (.string a1_0) := (blk_cell BK250.out 0).trans rfl
       have hcz11_1 : wr.cell? ⟨gb250, 1, none⟩ = some (.int .i64 a1_1) := (blk_cell BK250.out 1).trans rfl
       have hcz11_2 : wr.cell? ⟨gb250, 2, none⟩ = some (.int .i64 a1_2) := (blk_cell BK250.out 2).trans rfl
       have hcz11_3 : wr.cell? ⟨gb250, 3, none⟩ = some (.string a1_3) := (blk_cell BK250.out 3).trans rfl
       have hfz11_0 := blk_frozen BK250.out 0
       have hfz11_1 := blk_frozen BK250.out 1
       have hfz11_2 := blk_frozen BK250.out 2
       have hfz11_3 := blk_frozen BK250.out 3
       have p255 : 0 ≤ (x7_1 : Int) := of_decide_eq_true (by assumption)
       have q255 : x7_1 < (l0.length : Int) := of_decide_eq_true (by assumption)
       obtain ⟨ad255, e255, hx255_0, hx255_1, hx255_2, hx255_3⟩ := at_T60 HR0.out x7_1 p255 q255
       obtain rfl : ad251 = ad255 := (by injection e255)
       replace hx255_0 := lb_ HB.out hx255_0
       replace hx255_1 := lb_ HB.out hx255_1
       replace hx255_2 := lb_ HB.out hx255_2
       replace hx255_3 := lb_ HB.out hx255_3
       replace p255 := eq_true p255
       replace q255 := eq_true q255
       go_wp2_with (first | ((with_reducible refine gate_builtin (b := .append) (xs := #[.tmp 26, .tmp 31]) rfl ?_); at_builtin; refine Kd.R_append k60 (w0 := w) w.heap.size rfl (.tmp 26) (.tmp 31) 29 60 (.agg #[(.string ⟨#[]⟩), (.int .i64 0), (.int .i64 0), (.string ⟨#[]⟩)]) 48 rfl Tryz.underlying29 info60 rfl (by decide) (by omega) u5 x5_1 (⟨(rd_T60 l0 x7_1).f0, (rd_T60 l0 x7_1).f1, (rd_T60 l0 x7_1).f2, (rd_T60 l0 x7_1).f3⟩ : S60) [.string ((rd_T60 l0 x7_1).f0), .int .i64 ((rd_T60 l0 x7_1).f1), .int .i64 ((rd_T60 l0 x7_1).f2), .string ((rd_T60 l0 x7_1).f3)] (fun k_ => k_ ≠ gb250) (fun _ => False) rfl rfl ?aP (fun _ hk => hk.elim) ?aF ?aO ?aB ?aS ?aL ?_; (case aP => exact k60_mkM _ _ _ (⟨(rd_T60 l0 x7_1).f0, (rd_T60 l0 x7_1).f1, (rd_T60 l0 x7_1).f2, (rd_T60 l0 x7_1).f3⟩ : S60)); (case aB => exact (by repeat (first | (with_reducible first | exact HB.out | apply below_alloc | apply pw_below_drewN | apply below_drew1 | refine below_set ?_ GE250.out) | exact HB.out))); (case aF => exact (fun k_ hk => Kd.freshB (kl_ BK250.out) k_ hk)); (case aO => exact (rl_ HO_5.out)); (case aS => exact (below_size (by repeat (first | (with_reducible first | exact HB.out | apply below_alloc | apply pw_below_drewN | apply below_drew1 | refine below_set ?_ GE250.out) | exact HB.out)))); (case aL => have := LMc10.out; omega); intro v257 w12 ho hb hg hat; rw [← Ny256.out] at ho; have n0_ := Aside0.mk (blk_grown (kl_ BK250.out) hg (Kd.R_away HO_5.out (fun _ hk => hk))); have n1_ := Aside0.mk (hb); have n2_ := Aside0.mk (ho); clear BK250; clear HB; clear HO_5; have BK250 := n0_; have HB := n1_; have HO258 := n2_; clear n0_ n1_ n2_; clear ho hb hg hat))
       repeat (go_quiet (first | ((with_reducible refine gate_builtin (b := .append) (xs := #[.tmp 26, .tmp 31]) rfl ?_); at_builtin; refine Kd.R_append k60 (w0 := w) w.heap.size rfl (.tmp 26) (.tmp 31) 29 60 (.agg #[(.string ⟨#[]⟩), (.int .i64 0), (.int .i64 0), (.string ⟨#[]⟩)]) 48 rfl Tryz.underlying29 info60 rfl (by decide) (by omega) u5 x5_1 (⟨(rd_T60 l0 x7_1).f0, (rd_T60 l0 x7_1).f1, (rd_T60 l0 x7_1).f2, (rd_T60 l0 x7_1).f3⟩ : S60) [.string ((rd_T60 l0 x7_1).f0), .int .i64 ((rd_T60 l0 x7_1).f1), .int .i64 ((rd_T60 l0 x7_1).f2), .string ((rd_T60 l0 x7_1).f3)] (fun k_ => k_ ≠ gb250) (fun _ => False) rfl rfl ?aP (fun _ hk => hk.elim) ?aF ?aO ?aB ?aS ?aL ?_; (case aP => exact k60_mkM _ _ _ (⟨(rd_T60 l0 x7_1).f0, (rd_T60 l0 x7_1).f1, (rd_T60 l0 x7_1).f2, (rd_T60 l0 x7_1).f3⟩ : S60)); (case aB => exact (by repeat (first | (with_reducible first | exact HB.out | apply below_alloc | apply pw_below_drewN | apply below_drew1 | refine below_set ?_ GE250.out) | exact HB.out))); (case aF => exact (fun k_ hk => Kd.freshB (kl_ BK250.out) k_ hk)); (case aO => exact (rl_ HO_5.out)); (case aS => exact (below_size (by repeat (first | (with_reducible first | exact HB.out | apply below_alloc | apply pw_below_drewN | apply below_drew1 | refine below_set ?_ GE250.out) | exact HB.out)))); (case aL => have := LMc10.out; omega); intro v257 w12 ho hb hg hat; rw [← Ny256.out] at ho; have n0_ := Aside0.mk (blk_grown (kl_ BK250.out) hg (Kd.R_away HO_5.out (fun _ hk => hk))); have n1_ := Aside0.mk (hb); have n2_ := Aside0.mk (ho); clear BK250; clear HB; clear HO_5; have BK250 := n0_; have HB := n1_; have HO258 := n2_; clear n0_ n1_ n2_; clear ho hb hg hat)); try go_wp2_with (first | ((with_reducible refine gate_builtin (b := .append) (xs := #[.tmp 26, .tmp 31]) rfl ?_); at_builtin; refine Kd.R_append k60 (w0 := w) w.heap.size rfl (.tmp 26) (.tmp 31) 29 60 (.agg #[(.string ⟨#[]⟩), (.int .i64 0), (.int .i64 0), (.string ⟨#[]⟩)]) 48 rfl Tryz.underlying29 info60 rfl (by decide) (by omega) u5 x5_1 (⟨(rd_T60 l0 x7_1).f0, (rd_T60 l0 x7_1).f1, (rd_T60 l0 x7_1).f2, (rd_T60 l0 x7_1).f3⟩ : S60) [.string ((rd_T60 l0 x7_1).f0), .int .i64 ((rd_T60 l0 x7_1).f1), .int .i64 ((rd_T60 l0 x7_1).f2), .string ((rd_T60 l0 x7_1).f3)] (fun k_ => k_ ≠ gb250) (fun _ => False) rfl rfl ?aP (fun _ hk => hk.elim) ?aF ?aO ?aB ?aS ?aL ?_; (case aP => exact k60_mkM _ _ _ (⟨(rd_T60 l0 x7_1).f0, (rd_T60 l0 x7_1).f1, (rd_T60 l0 x7_1).f2, (rd_T60 l0 x7_1).f3⟩ : S60)); (case aB => exact (by repeat (first | (with_reducible first | exact HB.out | apply below_alloc | apply pw_below_drewN | apply below_drew1 | refine below_set ?_ GE250.out) | exact HB.out))); (case aF => exact (fun k_ hk => Kd.freshB (kl_ BK250.out) k_ hk)); (case aO => exact (rl_ HO_5.out)); (case aS => exact (below_size (by repeat (first | (with_reducible first | exact HB.out | apply below_alloc | apply pw_below_drewN | apply below_drew1 | refine below_set ?_ GE250.out) | exact HB.out)))); (case aL => have := LMc10.out; omega); intro v257 w12 ho hb hg hat; rw [← Ny256.out] at ho; have n0_ := Aside0.mk (blk_grown (kl_ BK250.out) hg (Kd.R_away HO_5.out (fun _ hk => hk))); have n1_ := Aside0.mk (hb); have n2_ := Aside0.mk (ho); clear BK250; clear HB; clear HO_5; have BK250 := n0_; have HB := n1_; have HO258 := n2_; clear n0_ n1_ n2_; clear ho hb hg hat)))
       go_roundg k1
       case measure => have := HK1.out; omega
       case rel => exact ⟨(y256), (x6_1), (wrap64 (x7_1 + 1)), (by first | rfl | simp [*]), (by first | rfl | simp [*]), H', ⟨by have := HK1.out; omega⟩, ⟨rl_ HO258.out⟩, ⟨by (repeat refine kq_ ?_); exact BK250.out⟩, ⟨by repeat (first | (with_reducible first | exact HB.out | apply below_alloc | apply pw_below_drewN | apply below_drew1 | refine below_set ?_ GE250.out) | exact HB.out)⟩⟩
      ·rw [if_neg c10] at H
       exact absurd H (by simp)
    ·rw [if_neg c5] at H
     exact absurd H (by simp)
   ·rw [if_neg c4] at H
    have c4b0 : decide (x7_1 < (l0.length : Int)) = false := decide_eq_false c4
    clear c4
    by_cases c13 : x6_1 = true
    ·subst c13
     rw [if_pos rfl] at H
     obtain rfl := Option.some.inj H
     go_wp2
     repeat (go_quiet (fail); try go_wp2)
     go_ret
     exact ⟨_, by first | rfl | simp [*], by (with_reducible repeat (first | apply Kd.R_alloc | apply Kd.R_drewN | apply Kd.R_drew)); exact Kd.R_mono HO_5.out (fun _ hk => trivial), by repeat (first | (with_reducible first | exact HB.out | apply below_alloc | apply pw_below_drewN | apply below_drew1 | refine below_set ?_ GE250.out) | exact HB.out)⟩
    ·replace c13 := Bool.eq_false_iff.mpr c13
     subst c13
     rw [if_neg (show ¬ (false = true) by decide)] at H
     by_cases c14 : x5_1.length < 2932031007402
     ·rw [if_pos c14] at H
      have LMc14 := Aside0.mk c14
      clear c14
      obtain ⟨y259, hy259⟩ : ∃ y_ : List (S60), y_ = (x5_1 ++ [(⟨a1_0, a1_1, a1_2, a1_3⟩ : S60)]) := ⟨_, rfl⟩
      replace H : (some y259) = some r := by first | (rw [hy259]; with_reducible exact H) | (have H2_ := (Option.bind_some _ _).symm.trans H; rw [hy259]; with_reducible exact H2_) | (have H2_ := (Option.bind_some _ _).symm.trans H; with_reducible exact H2_) | with_reducible exact H | (rw [hy259]; exact H) | exact H
      have Ny259 := Aside0.mk hy259
      clear hy259
      obtain rfl := Option.some.inj H
      have hcz15_0 : wr.cell? ⟨gb250, 0, none⟩ = some (.string a1_0) := (blk_cell BK250.out 0).trans rfl
      have hcz15_1 : wr.cell? ⟨gb250, 1, none⟩ = some (.int .i64 a1_1) := (blk_cell BK250.out 1).trans rfl
      have hcz15_2 : wr.cell? ⟨gb250, 2, none⟩ = some (.int .i64 a1_2) := (blk_cell BK250.out 2).trans rfl
      have hcz15_3 : wr.cell? ⟨gb250, 3, none⟩ = some (.string a1_3) := (blk_cell BK250.out 3).trans rfl
      have hfz15_0 := blk_frozen BK250.out 0
      have hfz15_1 := blk_frozen BK250.out 1
      have hfz15_2 := blk_frozen BK250.out 2
      have hfz15_3 := blk_frozen BK250.out 3
      go_wp2_with (first | ((with_reducible refine gate_builtin (b := .append) (xs := #[.tmp 35, .tmp 37]) rfl ?_); at_builtin; refine Kd.R_append k60 (w0 := w) w.heap.size rfl (.tmp 35) (.tmp 37) 29 60 (.agg #[(.string ⟨#[]⟩), (.int .i64 0), (.int .i64 0), (.string ⟨#[]⟩)]) 48 rfl Tryz.underlying29 info60 rfl (by decide) (by omega) u5 x5_1 (⟨a1_0, a1_1, a1_2, a1_3⟩ : S60) [.string a1_0, .int .i64 a1_1, .int .i64 a1_2, .string a1_3] (fun k_ => k_ ≠ gb250) (fun _ => False) rfl rfl ?aP (fun _ hk => hk.elim) ?aF ?aO ?aB ?aS ?aL ?_; (case aP => exact k60_mkM _ _ _ (⟨a1_0, a1_1, a1_2, a1_3⟩ : S60)); (case aB => exact (by repeat (first | (with_reducible first | exact HB.out | apply below_alloc | apply pw_below_drewN | apply below_drew1 | refine below_set ?_ GE250.out) | exact HB.out))); (case aF => exact (fun k_ hk => Kd.freshB (kl_ BK250.out) k_ hk)); (case aO => exact (rl_ HO_5.out)); (case aS => exact (below_size (by repeat (first | (with_reducible first | exact HB.out | apply below_alloc | apply pw_below_drewN | apply below_drew1 | refine below_set ?_ GE250.out) | exact HB.out)))); (case aL => have := LMc14.out; omega); intro v260 w16 ho hb hg hat; rw [← Ny259.out] at ho; have n0_ := Aside0.mk (blk_grown (kl_ BK250.out) hg (Kd.R_away HO_5.out (fun _ hk => hk))); have n1_ := Aside0.mk (hb); have n2_ := Aside0.mk (ho); clear BK250; clear HB; clear HO_5; have BK250 := n0_; have HB := n1_; have HO261 := n2_; clear n0_ n1_ n2_; clear ho hb hg hat))
      repeat (go_quiet (first | ((with_reducible refine gate_builtin (b := .append) (xs := #[.tmp 35, .tmp 37]) rfl ?_); at_builtin; refine Kd.R_append k60 (w0 := w) w.heap.size rfl (.tmp 35) (.tmp 37) 29 60 (.agg #[(.string ⟨#[]⟩), (.int .i64 0), (.int .i64 0), (.string ⟨#[]⟩)]) 48 rfl Tryz.underlying29 info60 rfl (by decide) (by omega) u5 x5_1 (⟨a1_0, a1_1, a1_2, a1_3⟩ : S60) [.string a1_0, .int .i64 a1_1, .int .i64 a1_2, .string a1_3] (fun k_ => k_ ≠ gb250) (fun _ => False) rfl rfl ?aP (fun _ hk => hk.elim) ?aF ?aO ?aB ?aS ?aL ?_; (case aP => exact k60_mkM _ _ _ (⟨a1_0, a1_1, a1_2, a1_3⟩ : S60)); (case aB => exact (by repeat (first | (with_reducible first | exact HB.out | apply below_alloc | apply pw_below_drewN | apply below_drew1 | refine below_set ?_ GE250.out) | exact HB.out))); (case aF => exact (fun k_ hk => Kd.freshB (kl_ BK250.out) k_ hk)); (case aO => exact (rl_ HO_5.out)); (case aS => exact (below_size (by repeat (first | (with_reducible first | exact HB.out | apply below_alloc | apply pw_below_drewN | apply below_drew1 | refine below_set ?_ GE250.out) | exact HB.out)))); (case aL => have := LMc14.out; omega); intro v260 w16 ho hb hg hat; rw [← Ny259.out] at ho; have n0_ := Aside0.mk (blk_grown (kl_ BK250.out) hg (Kd.R_away HO_5.out (fun _ hk => hk))); have n1_ := Aside0.mk (hb); have n2_ := Aside0.mk (ho); clear BK250; clear HB; clear HO_5; have BK250 := n0_; have HB := n1_; have HO261 := n2_; clear n0_ n1_ n2_; clear ho hb hg hat)); try go_wp2_with (first | ((with_reducible refine gate_builtin (b := .append) (xs := #[.tmp 35, .tmp 37]) rfl ?_); at_builtin; refine Kd.R_append k60 (w0 := w) w.heap.size rfl (.tmp 35) (.tmp 37) 29 60 (.agg #[(.string ⟨#[]⟩), (.int .i64 0), (.int .i64 0), (.string ⟨#[]⟩)]) 48 rfl Tryz.underlying29 info60 rfl (by decide) (by omega) u5 x5_1 (⟨a1_0, a1_1, a1_2, a1_3⟩ : S60) [.string a1_0, .int .i64 a1_1, .int .i64 a1_2, .string a1_3] (fun k_ => k_ ≠ gb250) (fun _ => False) rfl rfl ?aP (fun _ hk => hk.elim) ?aF ?aO ?aB ?aS ?aL ?_; (case aP => exact k60_mkM _ _ _ (⟨a1_0, a1_1, a1_2, a1_3⟩ : S60)); (case aB => exact (by repeat (first | (with_reducible first | exact HB.out | apply below_alloc | apply pw_below_drewN | apply below_drew1 | refine below_set ?_ GE250.out) | exact HB.out))); (case aF => exact (fun k_ hk => Kd.freshB (kl_ BK250.out) k_ hk)); (case aO => exact (rl_ HO_5.out)); (case aS => exact (below_size (by repeat (first | (with_reducible first | exact HB.out | apply below_alloc | apply pw_below_drewN | apply below_drew1 | refine below_set ?_ GE250.out) | exact HB.out)))); (case aL => have := LMc14.out; omega); intro v260 w16 ho hb hg hat; rw [← Ny259.out] at ho; have n0_ := Aside0.mk (blk_grown (kl_ BK250.out) hg (Kd.R_away HO_5.out (fun _ hk => hk))); have n1_ := Aside0.mk (hb); have n2_ := Aside0.mk (ho); clear BK250; clear HB; clear HO_5; have BK250 := n0_; have HB := n1_; have HO261 := n2_; clear n0_ n1_ n2_; clear ho hb hg hat)))
      go_ret
      exact ⟨_, by first | rfl | simp [*], by (with_reducible repeat (first | apply Kd.R_alloc | apply Kd.R_drewN | apply Kd.R_drew)); exact Kd.R_mono HO261.out (fun _ hk => trivial), by repeat (first | (with_reducible first | exact HB.out | apply below_alloc | apply pw_below_drewN | apply below_drew1 | refine below_set ?_ GE250.out) | exact HB.out)⟩
     ·rw [if_neg c14] at H
      exact absurd H (by simp)
mutual
def glacisref05_Params.l0 : Nat → ByteArray → List (S60) → Option ((List (S60)) × ByteArray × Int)
 | 0, _, _ => none
 | k + 1, x0, x5 => if (x0.size : Int) > 0 then (if 0 < (x0.size : Int) then (glacisref05_Params.j1 k x0 x5 ((bt x0 0) == 59)) else (none)) else (glacisref05_Params.j1 k x0 x5 false)
def glacisref05_Params.j1 : Nat → ByteArray → List (S60) → Bool → Option ((List (S60)) × ByteArray × Int)
 | 0, _, _, _ => none
 | k + 1, x0, x5, x20 => if x20 = true then (if 1 ≤ (x0.size : Int) then ((glacisref05_Blank.f k (x0.extract 1 x0.size)).bind fun t262 => ((glacisref05_Key.f k t262).bind fun bt263 => (if bt263.2.2 = 0 then (if (bt263.2.1.size : Int) > 0 then (if 0 < (bt263.2.1.size : Int) then (glacisref05_Params.j2 k bt263.2.1 x5 bt263.1 ((bt bt263.2.1 0) == 61) (⟨#[]⟩ : ByteArray) 6 1 (⟨#[]⟩ : ByteArray)) else (none)) else (glacisref05_Params.j2 k bt263.2.1 x5 bt263.1 false (⟨#[]⟩ : ByteArray) 6 1 (⟨#[]⟩ : ByteArray))) else (some (([] : List (S60)), (⟨#[]⟩ : ByteArray), bt263.2.2))))) else (none)) else (some (x5, x0, 0))
def glacisref05_Params.j2 : Nat → ByteArray → List (S60) → ByteArray → Bool → ByteArray → Int → Int → ByteArray → Option ((List (S60)) × ByteArray × Int)
 | 0, _, _, _, _, _, _, _, _ => none
 | k + 1, x0, x5, x6, x41, x267000, x267001, x267002, x267003 => if x41 = true then (if 1 ≤ (x0.size : Int) then ((glacisref05_value.f k (x0.extract 1 x0.size)).bind fun bt267 => (if bt267.2.2.2.2.2 = true then ((glacisref05_With.f k x5 x6 bt267.2.1 bt267.2.2.1 bt267.2.2.2.1).bind fun t274 => (glacisref05_Params.l0 k bt267.2.2.2.2.1 t274)) else (some (([] : List (S60)), (⟨#[]⟩ : ByteArray), 50)))) else (none)) else ((glacisref05_With.f k x5 x6 x267001 x267002 x267003).bind fun t277 => (glacisref05_Params.l0 k x0 t277))
end
def glacisref05_Params.f (k : Nat) (a0 : ByteArray) : Option ((List (S60)) × ByteArray × Int) := glacisref05_Params.l0 k a0 ([] : List (S60))
theorem glacisref05_Params.calls (k : Nat) (a0 : ByteArray) (r1 : List (S60)) (r2 : ByteArray) (r3 : Int) (w : World) (h : glacisref05_Params.f k a0 = some (r1, r2, r3)) :
  Calls Tryz.prog 102 #[.string a0] w fun e w' => ∃ v0_ : Value, e = .returned (.tuple #[v0_, .string r2, .int .i64 r3]) ∧ Kd.R k60 60 w' w.heap.size (fun _ => True) v0_ r1 ∧ Below w.heap.size w w' := by
 have hu60 := Tryz.underlying60
 have HB := Aside0.mk (Below.refl w.heap.size w)
 have H : (glacisref05_Params.l0 k a0 ([] : List (S60))) = some (r1, r2, r3) := h
 clear h
 have H' := Aside0.mk H
 clear H
 go_enter Tryz.func102, Tryz.ntmps102
 go_wp2
 go_loopg [0, 5] k (fun kq v0 v5 w' => ∃ (x0_1 : ByteArray) (x5_1 : List (S60)), v0 = .string x0_1 ∧ Aside0 (glacisref05_Params.l0 kq x0_1 x5_1 = some (r1, r2, r3)) ∧ Aside0 (kq ≤ k) ∧ Aside0 (Kd.R k60 60 w' w.heap.size (fun _ => True) v5 x5_1) ∧ Aside0 (Below w.heap.size w w'))
 case atStart => exact ⟨(a0), (([] : List (S60))), (by first | rfl | simp [*]), H', ⟨Nat.le_refl _⟩, ⟨by first | exact Kd.R_nil _ _ _ _ _ | exact Kd.S_nil _ _ _ _ _⟩, ⟨bl_ HB.out⟩⟩
 case round =>
  clear H'
  try clear c1
  obtain ⟨x0_1, x5_1, rfl, HA, HK1, HO_5, HB⟩ := hrel
  cases gk with
  | zero => exact absurd HA.out (by simp [glacisref05_Params.l0])
  | succ k1 =>
   have H := HA.out
   clear HA
   simp only [glacisref05_Params.l0] at H
   have HC2 := Aside0.mk H
   clear H
   go_upto_region 2 with (fail)
   go_cut [20] (fun v20 wc => ∃ (kq : Nat) (x20_1 : Bool), v20 = .bool x20_1 ∧ Aside0 (glacisref05_Params.j1 kq x0_1 x5_1 x20_1 = some (r1, r2, r3)) ∧ Aside0 (kq ≤ k1) ∧ Aside0 (Kd.R k60 60 wc w.heap.size (fun _ => True) u5 x5_1) ∧ Aside0 (Below w.heap.size w wc))
   case first =>
    have H := HC2.out
    clear HC2
    by_cases c3 : (x0_1.size : Int) > 0
    ·rw [if_pos c3] at H
     have c3b0 : decide (0 < (x0_1.size : Int)) = true := decide_eq_true c3
     have c3b1 : decide (0 < x0_1.size) = true := decide_eq_true (by omega)
     clear c3
     (first | rw [c3b0] | (simp only [i64_w, i32_w]; rw [c3b0]) | skip)
     by_cases c4 : 0 < (x0_1.size : Int)
     ·rw [if_pos c4] at H
      have c4b0 : decide (0 < (x0_1.size : Int)) = true := decide_eq_true c4
      have c4b1 : decide (0 < x0_1.size) = true := decide_eq_true (by omega)
      clear c4
      have H' := Aside0.mk H
      clear H
      have p5 : 0 ≤ (0 : Int) := (by omega)
      have q5 : 0 < x0_1.size := (by have : (0 : Int) < (x0_1.size : Int) := of_decide_eq_true (by assumption); omega)
      have hx5 : ∀ h : 0 < x0_1.size, ((x0_1[0]'h).toNat : Int) = bt x0_1 0 := bt_at x0_1 0
      clear p5
      have qi5 : (0 < (x0_1.size : Int)) = True := eq_true (of_decide_eq_true (by assumption))
      replace q5 := eq_true q5
      go_wp2
      go_meet
      case rel => exact ⟨_, (((bt x0_1 0) == 59)), (by first | rfl | simp [*]), H', ⟨by have := HK1.out; first | omega | exact Nat.le_refl _⟩, ⟨rl_ HO_5.out⟩, ⟨bl_ HB.out⟩⟩
     ·rw [if_neg c4] at H
      exact absurd H (by simp)
    ·rw [if_neg c3] at H
     have c3b0 : decide (0 < (x0_1.size : Int)) = false := decide_eq_false c3
     have c3b1 : decide (0 < x0_1.size) = false := decide_eq_false (by omega)
     clear c3
     (first | rw [c3b0] | (simp only [i64_w, i32_w]; rw [c3b0]) | skip)
     have H' := Aside0.mk H
     clear H
     go_wp2
     go_meet
     case rel => exact ⟨_, (false), (by first | rfl | simp [*]), H', ⟨by have := HK1.out; first | omega | exact Nat.le_refl _⟩, ⟨rl_ HO_5.out⟩, ⟨bl_ HB.out⟩⟩
   case rest =>
    clear HC2
    (try clear c1); (try clear p2); (try clear c3); (try clear c3b0); (try clear c3b1); (try clear c4); (try clear c4b0); (try clear c4b1); (try clear p5); (try clear q5); (try clear hx5); (try clear qi5); (try clear p5); (try clear q5)
    obtain ⟨kq, x20_1, rfl, HA, HJ1, HO_5, HB⟩ := hcut
    cases kq with
    | zero => exact absurd HA.out (by simp [glacisref05_Params.j1])
    | succ kj1 =>
     have H := HA.out
     clear HA
     simp only [glacisref05_Params.j1] at H
     by_cases c6 : x20_1 = true
     ·subst c6
      rw [if_pos rfl] at H
      by_cases c7 : 1 ≤ (x0_1.size : Int)
      ·rw [if_pos c7] at H
       have c7b0 := eq_true c7
       have c7b1 : decide (1 ≤ (x0_1.size : Int)) = true := decide_eq_true c7
       clear c7
       replace H := Option.bind_eq_some_iff.mp H
       obtain ⟨t262, A80, H⟩ := H
       (try dsimp only at H)
       have A8 := Aside0.mk A80
       clear A80
       replace H := Option.bind_eq_some_iff.mp H
       obtain ⟨⟨t263, t264, t265⟩, A90, H⟩ := H
       (try dsimp only at H)
       have A9 := Aside0.mk A90
       clear A90
       by_cases c10 : t265 = 0
       ·rw [if_pos c10] at H
        obtain ⟨c10b0, c10b1⟩ := eT_ c10
        clear c10
        have HC11 := Aside0.mk H
        clear H
        go_upto_region 8 with (first | ((with_reducible refine gate_callee (f := 73) rfl ?_); refine goesL_ (some 24) rfl rfl Tryz.func73 (by kernel_rfl) rfl #[.string (x0_1.extract 1 x0_1.size)] rfl (by simp only [List.map_toArray, List.map_cons, List.map_nil] <;> rfl) ?_; (with_reducible refine (glacisref05_Blank.calls kj1 (x0_1.extract 1 x0_1.size) t262 _ A8.out).mono ?_); rintro e w' ⟨rfl, ⟨nd, rfl⟩⟩; refine ⟨_, rfl, ?_⟩; (try (rw [drewN_self wc]; generalize hq_ : World.drewN wc _ = wc; have l_ := lq_ hq_; have n0_ := Aside0.mk (rl_ (W := wc) HO_5.out); have n1_ := Aside0.mk (bl_ (W := wc) HB.out); clear HO_5 HB hq_ l_; have HO_5 := n0_; have HB := n1_; clear n0_ n1_))) | ((with_reducible refine gate_callee (f := 36) rfl ?_); refine goesL_ (some 25) rfl rfl Tryz.func36 (by kernel_rfl) rfl #[.string t262] rfl (by simp only [List.map_toArray, List.map_cons, List.map_nil] <;> rfl) ?_; (with_reducible refine (glacisref05_Key.calls kj1 t262 t263 t264 t265 _ A9.out).mono ?_); rintro e w' ⟨rfl, ⟨nd, rfl⟩⟩; refine ⟨_, rfl, ?_⟩; (try (rw [drewN_self wc]; generalize hq_ : World.drewN wc _ = wc; have l_ := lq_ hq_; have n0_ := Aside0.mk (rl_ (W := wc) HO_5.out); have n1_ := Aside0.mk (bl_ (W := wc) HB.out); clear HO_5 HB hq_ l_; have HO_5 := n0_; have HB := n1_; clear n0_ n1_))) | ((with_reducible refine gate_dst (N := 9) rfl ?_); refine box_event ?hg (N := 9) ?hd (cs := #[.string ⟨#[]⟩, .int .i64 0, .int .i64 0, .string ⟨#[]⟩]) (t := 60) ?hr ?_; (case hd => rfl); (case hg => rfl); (case hr => first | (go_simp; done) | (go_simp; rfl)); intro gb266 hg w12 hbox hb; have n0_ := Aside0.mk (Kd.R_below (Kd.R_elderB (rl_ HO_5.out) gb266 (Nat.le_of_eq hg.symm)) hb); have n1_ := Aside0.mk (below_step (bl_ HB.out) hb); have n2_ := Aside0.mk (hbox); have n3_ := Aside0.mk ((hg_ hg (bl_ HB.out))); have n4_ := Aside0.mk ((hg_ hg (bl_ HB.out))); clear HO_5; clear HB; have HO_5 := n0_; have HB := n1_; have BK266 := n2_; have GW266 := n3_; have GE266 := n4_; clear n0_ n1_ n2_ n3_ n4_; clear hb hbox hg; obtain ⟨hcz13_0, hcz13_1, hcz13_2, hcz13_3⟩ := c4_ BK266.out; obtain ⟨hfz13_0, hfz13_1, hfz13_2, hfz13_3⟩ := f4_ BK266.out))
        (try simp only [Act.put, List.setIfInBounds_toArray, List.set_cons_zero, List.set_cons_succ])
        go_cut [41] (fun v41 wc => ∃ (kq : Nat) (x41_10 : Bool), v41 = .bool x41_10 ∧ Aside0 (glacisref05_Params.j2 kq t264 x5_1 t263 x41_10 (⟨#[]⟩ : ByteArray) 6 1 (⟨#[]⟩ : ByteArray) = some (r1, r2, r3)) ∧ Aside0 (kq ≤ kj1) ∧ Aside0 (Kd.R k60 60 wc w.heap.size (fun k_ => k_ ≠ gb266) u5 x5_1) ∧ Aside0 (wc.heap[gb266]? = some (.cells #[.string ⟨#[]⟩, .int .i64 6, .int .i64 1, .string ⟨#[]⟩] 60 (0, 0))) ∧ Aside0 (Below w.heap.size w wc))
        case first =>
         have H := HC11.out
         clear HC11
         by_cases c14 : (t264.size : Int) > 0
         ·rw [if_pos c14] at H
          have c14b0 : decide (0 < (t264.size : Int)) = true := decide_eq_true c14
          have c14b1 : decide (0 < t264.size) = true := decide_eq_true (by omega)
          clear c14
          (first | rw [c14b0] | (simp only [i64_w, i32_w]; rw [c14b0]) | skip)
          by_cases c15 : 0 < (t264.size : Int)
          ·rw [if_pos c15] at H
           have c15b0 : decide (0 < (t264.size : Int)) = true := decide_eq_true c15
           have c15b1 : decide (0 < t264.size) = true := decide_eq_true (by omega)
           clear c15
           have H' := Aside0.mk H
           clear H
           have p16 : 0 ≤ (0 : Int) := (by omega)
           have q16 : 0 < t264.size := (by have : (0 : Int) < (t264.size : Int) := of_decide_eq_true (by assumption); omega)
           have hx16 : ∀ h : 0 < t264.size, ((t264[0]'h).toNat : Int) = bt t264 0 := bt_at t264 0
           clear p16
           have qi16 : (0 < (t264.size : Int)) = True := eq_true (of_decide_eq_true (by assumption))
           replace q16 := eq_true q16
           go_wp2
           go_meet
           case rel => exact ⟨_, (((bt t264 0) == 61)), (by first | rfl | simp [*]), H', ⟨by have := HK1.out; have := HJ1.out; first | omega | exact Nat.le_refl _⟩, ⟨by (with_reducible repeat (first | apply Kd.R_alloc | apply Kd.R_drewN | apply Kd.R_drew)); exact Kd.R_mono (Kd.R_far (p := ⟨gb266, 3, none⟩) (Kd.R_far (p := ⟨gb266, 2, none⟩) (Kd.R_far (p := ⟨gb266, 1, none⟩) (Kd.R_far (p := ⟨gb266, 0, none⟩) (Kd.R_mono HO_5.out (fun k_ hk => (⟨hk, hk.2⟩ : _ ∧ k_ ≠ gb266))) (fun _ hk => hk.2) (.string ⟨#[]⟩)) (fun _ hk => hk.2) (.int .i64 6)) (fun _ hk => hk.2) (.int .i64 1)) (fun _ hk => hk.2) (.string ⟨#[]⟩)) (fun _ hk => hk.1.2)⟩, ⟨by (repeat refine kq_ ?_); refine blk_put (cs := #[.string ⟨#[]⟩, .int .i64 6, .int .i64 1, .string ⟨#[]⟩]) ?_ 3 _ rfl; (repeat refine kq_ ?_); refine blk_put (cs := #[.string ⟨#[]⟩, .int .i64 6, .int .i64 0, .string ⟨#[]⟩]) ?_ 2 _ rfl; (repeat refine kq_ ?_); refine blk_put (cs := #[.string ⟨#[]⟩, .int .i64 0, .int .i64 0, .string ⟨#[]⟩]) ?_ 1 _ rfl; (repeat refine kq_ ?_); refine blk_put (cs := #[.string ⟨#[]⟩, .int .i64 0, .int .i64 0, .string ⟨#[]⟩]) ?_ 0 _ rfl; (repeat refine kq_ ?_); exact BK266.out⟩, ⟨by repeat (first | (with_reducible first | exact HB.out | apply below_alloc | apply pw_below_drewN | apply below_drew1 | refine below_set ?_ GE266.out) | exact HB.out)⟩⟩
          ·rw [if_neg c15] at H
           exact absurd H (by simp)
         ·rw [if_neg c14] at H
          have c14b0 : decide (0 < (t264.size : Int)) = false := decide_eq_false c14
          have c14b1 : decide (0 < t264.size) = false := decide_eq_false (by omega)
          clear c14
          (first | rw [c14b0] | (simp only [i64_w, i32_w]; rw [c14b0]) | skip)
          have H' := Aside0.mk H
          clear H
          go_wp2
          go_meet
          case rel => exact ⟨_, (false), (by first | rfl | simp [*]), H', ⟨by have := HK1.out; have := HJ1.out; first | omega | exact Nat.le_refl _⟩, ⟨by (with_reducible repeat (first | apply Kd.R_alloc | apply Kd.R_drewN | apply Kd.R_drew)); exact Kd.R_mono (Kd.R_far (p := ⟨gb266, 3, none⟩) (Kd.R_far (p := ⟨gb266, 2, none⟩) (Kd.R_far (p := ⟨gb266, 1, none⟩) (Kd.R_far (p := ⟨gb266, 0, none⟩) (Kd.R_mono HO_5.out (fun k_ hk => (⟨hk, hk.2⟩ : _ ∧ k_ ≠ gb266))) (fun _ hk => hk.2) (.string ⟨#[]⟩)) (fun _ hk => hk.2) (.int .i64 6)) (fun _ hk => hk.2) (.int .i64 1)) (fun _ hk => hk.2) (.string ⟨#[]⟩)) (fun _ hk => hk.1.2)⟩, ⟨by (repeat refine kq_ ?_); refine blk_put (cs := #[.string ⟨#[]⟩, .int .i64 6, .int .i64 1, .string ⟨#[]⟩]) ?_ 3 _ rfl; (repeat refine kq_ ?_); refine blk_put (cs := #[.string ⟨#[]⟩, .int .i64 6, .int .i64 0, .string ⟨#[]⟩]) ?_ 2 _ rfl; (repeat refine kq_ ?_); refine blk_put (cs := #[.string ⟨#[]⟩, .int .i64 0, .int .i64 0, .string ⟨#[]⟩]) ?_ 1 _ rfl; (repeat refine kq_ ?_); refine blk_put (cs := #[.string ⟨#[]⟩, .int .i64 0, .int .i64 0, .string ⟨#[]⟩]) ?_ 0 _ rfl; (repeat refine kq_ ?_); exact BK266.out⟩, ⟨by repeat (first | (with_reducible first | exact HB.out | apply below_alloc | apply pw_below_drewN | apply below_drew1 | refine below_set ?_ GE266.out) | exact HB.out)⟩⟩
        case rest =>
         clear HC11
         (try clear c1); (try clear p1); (try clear q1); (try clear hx1); (try clear qi1); (try clear p2); (try clear c3); (try clear c3b0); (try clear c3b1); (try clear c4); (try clear c4b0); (try clear c4b1); (try clear p5); (try clear q5); (try clear hx5); (try clear qi5); (try clear c6); (try clear c7); (try clear c7b0); (try clear c7b1); (try clear c10); (try clear c10b0); (try clear c10b1); (try clear c14); (try clear c14b0); (try clear c14b1); (try clear c15); (try clear c15b0); (try clear c15b1); (try clear p16); (try clear q16); (try clear hx16); (try clear qi16); (try clear hcz13_0); (try clear hcz13_1); (try clear hcz13_2); (try clear hcz13_3); (try clear hfz13_0); (try clear hfz13_1); (try clear hfz13_2); (try clear hfz13_3); (try clear p16); (try clear p2); (try clear p5); (try clear q16); (try clear q5)
         obtain ⟨kq, x41_10, rfl, HA, HJ10, HO_5, BK266, HB⟩ := hcut
         cases kq with
         | zero => exact absurd HA.out (by simp [glacisref05_Params.j2])
         | succ kj10 =>
          have H := HA.out
          clear HA
          simp only [glacisref05_Params.j2] at H
          by_cases c17 : x41_10 = true
          ·subst c17
           rw [if_pos rfl] at H
           by_cases c18 : 1 ≤ (t264.size : Int)
           ·rw [if_pos c18] at H
            have c18b0 := eq_true c18
            have c18b1 : decide (1 ≤ (t264.size : Int)) = true := decide_eq_true c18
            clear c18
            replace H := Option.bind_eq_some_iff.mp H
            obtain ⟨⟨t267, t268, t269, t270, t271, t272⟩, A190, H⟩ := H
            (try dsimp only at H)
            have A19 := Aside0.mk A190
            clear A190
            by_cases c20 : t272 = true
            ·subst c20
             rw [if_pos rfl] at H
             replace H := Option.bind_eq_some_iff.mp H
             obtain ⟨t274, A210, H⟩ := H
             (try dsimp only at H)
             have A21 := Aside0.mk A210
             clear A210
             have H' := Aside0.mk H
             clear H
             go_upto_region 12 with (first | ((with_reducible refine gate_callee (f := 98) rfl ?_); refine goesL_ (some 45) rfl rfl Tryz.func98 (by kernel_rfl) rfl #[.string (t264.extract 1 t264.size)] rfl (by simp only [List.map_toArray, List.map_cons, List.map_nil] <;> rfl) ?_; (with_reducible refine (glacisref05_value.calls kj10 (t264.extract 1 t264.size) t267 t268 t269 t270 t271 true _ A19.out).mono ?_); rintro e w22 ⟨rfl, hb⟩; refine ⟨_, rfl, ?_⟩; have n0_ := Aside0.mk (Kd.R_below (rl_ HO_5.out) hb); have n1_ := Aside0.mk (blk_below (g := gb266) (o := .cells #[.string ⟨#[]⟩, .int .i64 6, .int .i64 1, .string ⟨#[]⟩] 60 (0, 0)) (kl_ BK266.out) hb); have n2_ := Aside0.mk (below_step (by repeat (first | (with_reducible first | exact HB.out | apply below_alloc | apply pw_below_drewN | apply below_drew1 | refine below_set ?_ GE266.out) | exact HB.out)) hb); clear HO_5; clear BK266; clear HB; have HO_5 := n0_; have BK266 := n1_; have HB := n2_; clear n0_ n1_ n2_; (try clear hb); (try clear hb2); (try clear hk); (try clear hi)) | ((with_reducible refine gate_dst (N := 10) rfl ?_); refine box_event ?hg (N := 10) ?hd (cs := #[.string ⟨#[]⟩, .int .i64 0, .int .i64 0, .string ⟨#[]⟩]) (t := 60) ?hr ?_; (case hd => rfl); (case hg => rfl); (case hr => first | (go_simp; done) | (go_simp; rfl)); intro gb273 hg w23 hbox hb; have n0_ := Aside0.mk (Kd.R_below (Kd.R_elderB (rl_ HO_5.out) gb273 (Nat.le_of_eq hg.symm)) hb); have n1_ := Aside0.mk (blk_below (g := gb266) (o := .cells #[.string ⟨#[]⟩, .int .i64 6, .int .i64 1, .string ⟨#[]⟩] 60 (0, 0)) (kl_ BK266.out) hb); have n2_ := Aside0.mk (below_step (by repeat (first | (with_reducible first | exact HB.out | apply below_alloc | apply pw_below_drewN | apply below_drew1 | refine below_set ?_ GE266.out) | exact HB.out)) hb); have n3_ := Aside0.mk (hbox); have n4_ := Aside0.mk ((by rw [hg]; exact (below_size (by repeat (first | (with_reducible first | exact HB.out | apply below_alloc | apply pw_below_drewN | apply below_drew1 | refine below_set ?_ GE266.out) | exact HB.out))) : w.heap.size ≤ gb273)); have n5_ := Aside0.mk ((by rw [hg]; exact (below_size (by repeat (first | (with_reducible first | exact HB.out | apply below_alloc | apply pw_below_drewN | apply below_drew1 | refine below_set ?_ GE266.out) | exact HB.out))) : w.heap.size ≤ gb273)); have n6_ := Aside0.mk ((by rw [hg]; exact Nat.ne_of_lt (blk_lt (g := gb266) (o := .cells #[.string ⟨#[]⟩, .int .i64 6, .int .i64 1, .string ⟨#[]⟩] 60 (0, 0)) (kl_ BK266.out)) : gb266 ≠ gb273)); have n7_ := Aside0.mk ((by rw [hg]; exact Nat.ne_of_gt (blk_lt (g := gb266) (o := .cells #[.string ⟨#[]⟩, .int .i64 6, .int .i64 1, .string ⟨#[]⟩] 60 (0, 0)) (kl_ BK266.out)) : gb273 ≠ gb266)); clear HO_5; clear BK266; clear HB; have HO_5 := n0_; have BK266 := n1_; have HB := n2_; have BK273 := n3_; have GW273 := n4_; have GE273 := n5_; have NB266_273 := n6_; have NB273_266 := n7_; clear n0_ n1_ n2_ n3_ n4_ n5_ n6_ n7_; clear hb hbox hg; have hnb24 := NB273_266.out; have hnc24 := NB266_273.out; obtain ⟨hcz25_0, hcz25_1, hcz25_2, hcz25_3⟩ := c4_ BK273.out; obtain ⟨hfz25_0, hfz25_1, hfz25_2, hfz25_3⟩ := f4_ BK273.out; obtain ⟨hcz26_0, hcz26_1, hcz26_2, hcz26_3⟩ := c4_ BK266.out; obtain ⟨hfz26_0, hfz26_1, hfz26_2, hfz26_3⟩ := f4_ BK266.out; obtain ⟨Ao27, co27, eo27⟩ := Kd.R_slice HO_5.out; subst eo27))
             have n0_ : Aside0 (Kd.R k60 60 ((((w23.setCell ⟨gb273, 0, none⟩ (.string t267)).setCell ⟨gb273, 1, none⟩ (.int .i64 t268)).setCell ⟨gb273, 2, none⟩ (.int .i64 t269)).setCell ⟨gb273, 3, none⟩ (.string t270)) w.heap.size _ _ x5_1) := Aside0.mk (Kd.R_far (p := ⟨gb273, 3, none⟩) (Kd.R_far (p := ⟨gb273, 2, none⟩) (Kd.R_far (p := ⟨gb273, 1, none⟩) (Kd.R_far (p := ⟨gb273, 0, none⟩) HO_5.out (fun _ hk => hk.2) (.string t267)) (fun _ hk => hk.2) (.int .i64 t268)) (fun _ hk => hk.2) (.int .i64 t269)) (fun _ hk => hk.2) (.string t270))
             have n1_ : Aside0 (((((w23.setCell ⟨gb273, 0, none⟩ (.string t267)).setCell ⟨gb273, 1, none⟩ (.int .i64 t268)).setCell ⟨gb273, 2, none⟩ (.int .i64 t269)).setCell ⟨gb273, 3, none⟩ (.string t270)).heap[gb266]? = some (.cells #[.string ⟨#[]⟩, .int .i64 6, .int .i64 1, .string ⟨#[]⟩] 60 (0, 0))) := Aside0.mk (blk_far (blk_far (blk_far (blk_far (BK266.out) NB266_273.out _) NB266_273.out _) NB266_273.out _) NB266_273.out _)
             have n2_ : Aside0 (((((w23.setCell ⟨gb273, 0, none⟩ (.string t267)).setCell ⟨gb273, 1, none⟩ (.int .i64 t268)).setCell ⟨gb273, 2, none⟩ (.int .i64 t269)).setCell ⟨gb273, 3, none⟩ (.string t270)).heap[gb273]? = some (.cells #[.string t267, .int .i64 t268, .int .i64 t269, .string t270] 60 (0, 0))) := Aside0.mk (blk_put (cs := #[.string t267, .int .i64 t268, .int .i64 t269, .string ⟨#[]⟩]) (blk_put (cs := #[.string t267, .int .i64 t268, .int .i64 0, .string ⟨#[]⟩]) (blk_put (cs := #[.string t267, .int .i64 0, .int .i64 0, .string ⟨#[]⟩]) (blk_put (cs := #[.string ⟨#[]⟩, .int .i64 0, .int .i64 0, .string ⟨#[]⟩]) (BK273.out) 0 (.string t267) rfl) 1 (.int .i64 t268) rfl) 2 (.int .i64 t269) rfl) 3 (.string t270) rfl)
             have n3_ : Aside0 (Below w.heap.size w (((((w23.setCell ⟨gb273, 0, none⟩ (.string t267)).setCell ⟨gb273, 1, none⟩ (.int .i64 t268)).setCell ⟨gb273, 2, none⟩ (.int .i64 t269)).setCell ⟨gb273, 3, none⟩ (.string t270)))) := Aside0.mk (below_set (below_set (below_set (below_set HB.out GE273.out) GE273.out) GE273.out) GE273.out)
             clear HO_5; clear BK266; clear BK273; clear HB; have HO_5 := n0_; have BK266 := n1_; have BK273 := n2_; have HB := n3_; clear n0_ n1_ n2_ n3_
             generalize ((((w23.setCell ⟨gb273, 0, none⟩ (.string t267)).setCell ⟨gb273, 1, none⟩ (.int .i64 t268)).setCell ⟨gb273, 2, none⟩ (.int .i64 t269)).setCell ⟨gb273, 3, none⟩ (.string t270)) = wq1 at *
             have hqu0 : wq1.cell? ⟨gb273, 0, none⟩ = some (.string t267) := (blk_cell BK273.out 0).trans rfl
             have hpu0 := blk_frozen BK273.out 0
             have hqu1 : wq1.cell? ⟨gb273, 1, none⟩ = some (.int .i64 t268) := (blk_cell BK273.out 1).trans rfl
             have hpu1 := blk_frozen BK273.out 1
             have hqu2 : wq1.cell? ⟨gb273, 2, none⟩ = some (.int .i64 t269) := (blk_cell BK273.out 2).trans rfl
             have hpu2 := blk_frozen BK273.out 2
             have hqu3 : wq1.cell? ⟨gb273, 3, none⟩ = some (.string t270) := (blk_cell BK273.out 3).trans rfl
             have hpu3 := blk_frozen BK273.out 3
             have hqv0 : wq1.cell? ⟨gb266, 0, none⟩ = some (.string ⟨#[]⟩) := (blk_cell BK266.out 0).trans rfl
             have hpv0 := blk_frozen BK266.out 0
             have hqv1 : wq1.cell? ⟨gb266, 1, none⟩ = some (.int .i64 6) := (blk_cell BK266.out 1).trans rfl
             have hpv1 := blk_frozen BK266.out 1
             have hqv2 : wq1.cell? ⟨gb266, 2, none⟩ = some (.int .i64 1) := (blk_cell BK266.out 2).trans rfl
             have hpv2 := blk_frozen BK266.out 2
             have hqv3 : wq1.cell? ⟨gb266, 3, none⟩ = some (.string ⟨#[]⟩) := (blk_cell BK266.out 3).trans rfl
             have hpv3 := blk_frozen BK266.out 3
             go_upto_region 14 with (fail)
             have n0_ : Aside0 (Kd.R k60 60 ((((wq1.setCell ⟨gb266, 0, none⟩ (.string t267)).setCell ⟨gb266, 1, none⟩ (.int .i64 t268)).setCell ⟨gb266, 2, none⟩ (.int .i64 t269)).setCell ⟨gb266, 3, none⟩ (.string t270)) w.heap.size _ _ x5_1) := Aside0.mk (Kd.R_far (p := ⟨gb266, 3, none⟩) (Kd.R_far (p := ⟨gb266, 2, none⟩) (Kd.R_far (p := ⟨gb266, 1, none⟩) (Kd.R_far (p := ⟨gb266, 0, none⟩) HO_5.out (fun _ hk => hk.1) (.string t267)) (fun _ hk => hk.1) (.int .i64 t268)) (fun _ hk => hk.1) (.int .i64 t269)) (fun _ hk => hk.1) (.string t270))
             have n1_ : Aside0 (((((wq1.setCell ⟨gb266, 0, none⟩ (.string t267)).setCell ⟨gb266, 1, none⟩ (.int .i64 t268)).setCell ⟨gb266, 2, none⟩ (.int .i64 t269)).setCell ⟨gb266, 3, none⟩ (.string t270)).heap[gb266]? = some (.cells #[.string t267, .int .i64 t268, .int .i64 t269, .string t270] 60 (0, 0))) := Aside0.mk (blk_put (cs := #[.string t267, .int .i64 t268, .int .i64 t269, .string ⟨#[]⟩]) (blk_put (cs := #[.string t267, .int .i64 t268, .int .i64 1, .string ⟨#[]⟩]) (blk_put (cs := #[.string t267, .int .i64 6, .int .i64 1, .string ⟨#[]⟩]) (blk_put (cs := #[.string ⟨#[]⟩, .int .i64 6, .int .i64 1, .string ⟨#[]⟩]) (BK266.out) 0 (.string t267) rfl) 1 (.int .i64 t268) rfl) 2 (.int .i64 t269) rfl) 3 (.string t270) rfl)
             have n2_ : Aside0 (((((wq1.setCell ⟨gb266, 0, none⟩ (.string t267)).setCell ⟨gb266, 1, none⟩ (.int .i64 t268)).setCell ⟨gb266, 2, none⟩ (.int .i64 t269)).setCell ⟨gb266, 3, none⟩ (.string t270)).heap[gb273]? = some (.cells #[.string t267, .int .i64 t268, .int .i64 t269, .string t270] 60 (0, 0))) := Aside0.mk (blk_far (blk_far (blk_far (blk_far (BK273.out) NB273_266.out _) NB273_266.out _) NB273_266.out _) NB273_266.out _)
             have n3_ : Aside0 (Below w.heap.size w (((((wq1.setCell ⟨gb266, 0, none⟩ (.string t267)).setCell ⟨gb266, 1, none⟩ (.int .i64 t268)).setCell ⟨gb266, 2, none⟩ (.int .i64 t269)).setCell ⟨gb266, 3, none⟩ (.string t270)))) := Aside0.mk (below_set (below_set (below_set (below_set HB.out GE266.out) GE266.out) GE266.out) GE266.out)
             clear HO_5; clear BK266; clear BK273; clear HB; have HO_5 := n0_; have BK266 := n1_; have BK273 := n2_; have HB := n3_; clear n0_ n1_ n2_ n3_
             generalize ((((wq1.setCell ⟨gb266, 0, none⟩ (.string t267)).setCell ⟨gb266, 1, none⟩ (.int .i64 t268)).setCell ⟨gb266, 2, none⟩ (.int .i64 t269)).setCell ⟨gb266, 3, none⟩ (.string t270)) = wq2 at *
             clear hqu0 hpu0 hqu1 hpu1 hqu2 hpu2 hqu3 hpu3 hqv0 hpv0 hqv1 hpv1 hqv2 hpv2 hqv3 hpv3
             have hq0 : wq2.cell? ⟨gb266, 0, none⟩ = some (.string t267) := (blk_cell BK266.out 0).trans rfl
             have hp0 := blk_frozen BK266.out 0
             go_upto_region 15 with (fail)
             have n0_ : Aside0 (Kd.R k60 60 (wq2.setCell ⟨gb266, 0, none⟩ (.string t263)) w.heap.size _ _ x5_1) := Aside0.mk (Kd.R_far (p := ⟨gb266, 0, none⟩) HO_5.out (fun _ hk => hk.1) (.string t263))
             have n1_ : Aside0 ((wq2.setCell ⟨gb266, 0, none⟩ (.string t263)).heap[gb266]? = some (.cells #[.string t263, .int .i64 t268, .int .i64 t269, .string t270] 60 (0, 0))) := Aside0.mk (blk_put (cs := #[.string t267, .int .i64 t268, .int .i64 t269, .string t270]) BK266.out 0 (.string t263) rfl)
             have n3_ : Aside0 (Below w.heap.size w (wq2.setCell ⟨gb266, 0, none⟩ (.string t263))) := Aside0.mk (below_set HB.out GE266.out)
             clear HO_5; clear BK266; clear BK273; clear HB; clear hq0 hp0; have HO_5 := n0_; have BK266 := n1_; have HB := n3_; clear n0_ n1_ n3_
             generalize (wq2.setCell ⟨gb266, 0, none⟩ (.string t263)) = wq3 at *
             have hq0 : wq3.cell? ⟨gb266, 0, none⟩ = some (.string t263) := (blk_cell BK266.out 0).trans rfl
             have hq1 : wq3.cell? ⟨gb266, 1, none⟩ = some (.int .i64 t268) := (blk_cell BK266.out 1).trans rfl
             have hq2 : wq3.cell? ⟨gb266, 2, none⟩ = some (.int .i64 t269) := (blk_cell BK266.out 2).trans rfl
             have hq3 : wq3.cell? ⟨gb266, 3, none⟩ = some (.string t270) := (blk_cell BK266.out 3).trans rfl
             go_wp2_with (first | ((with_reducible refine gate_callee (f := 119) rfl ?_); refine goesL_ (some 57) rfl rfl Tryz.func119 (by kernel_rfl) rfl #[.slice Ao27 x5_1.length co27, .agg #[.string t263, .int .i64 t268, .int .i64 t269, .string t270]] rfl (by simp only [List.map_toArray, List.map_cons, List.map_nil] <;> rfl) ?_; (with_reducible refine (glacisref05_With.calls kj10 _ _ x5_1 t263 t268 t269 t270 t274 _ ?side1 ?side2 A21.out).mono ?_); (case side1 => exact (Kd.R_reads' HO_5.out).2.2); (case side2 => exact (Kd.R_reads' HO_5.out).2.1); rintro e w28 ⟨v275, rfl, ho0, hb⟩; refine ⟨_, rfl, ?_⟩; have HO276 := Aside0.mk (Kd.R_lower ho0 HB.out.size); have n4_ := Aside0.mk (below_step HB.out hb); clear HO_5; clear HB; have HB := n4_; clear n4_; (try clear hb); (try clear hk); (try clear hi); (try clear ho0)))
             go_roundg kj10
             case measure => have := HK1.out; have := HJ1.out; have := HJ10.out; omega
             case rel => exact ⟨(t271), (t274), (by first | rfl | simp [*]), H', ⟨by have := HK1.out; have := HJ1.out; have := HJ10.out; omega⟩, ⟨by (with_reducible repeat (first | apply Kd.R_alloc | apply Kd.R_drewN | apply Kd.R_drew)); exact Kd.R_mono HO276.out (fun _ hk => trivial)⟩, ⟨by repeat (first | (with_reducible first | exact HB.out | apply below_alloc | apply pw_below_drewN | apply below_drew1 | refine below_set ?_ GE266.out | refine below_set ?_ GE273.out) | exact HB.out)⟩⟩
            ·replace c20 := Bool.eq_false_iff.mpr c20
             subst c20
             rw [if_neg (show ¬ (false = true) by decide)] at H
             simp only [Option.some.injEq, Prod.mk.injEq] at H
             obtain ⟨rfl, rfl, rfl⟩ := H
             go_wp2_with (first | ((with_reducible refine gate_callee (f := 98) rfl ?_); refine goesL_ (some 45) rfl rfl Tryz.func98 (by kernel_rfl) rfl #[.string (t264.extract 1 t264.size)] rfl (by simp only [List.map_toArray, List.map_cons, List.map_nil] <;> rfl) ?_; (with_reducible refine (glacisref05_value.calls kj10 (t264.extract 1 t264.size) t267 t268 t269 t270 t271 false _ A19.out).mono ?_); rintro e w29 ⟨rfl, hb⟩; refine ⟨_, rfl, ?_⟩; have n0_ := Aside0.mk (Kd.R_below (rl_ HO_5.out) hb); have n1_ := Aside0.mk (blk_below (g := gb266) (o := .cells #[.string ⟨#[]⟩, .int .i64 6, .int .i64 1, .string ⟨#[]⟩] 60 (0, 0)) (kl_ BK266.out) hb); have n2_ := Aside0.mk (below_step (by repeat (first | (with_reducible first | exact HB.out | apply below_alloc | apply pw_below_drewN | apply below_drew1 | refine below_set ?_ GE266.out) | exact HB.out)) hb); clear HO_5; clear BK266; clear HB; have HO_5 := n0_; have BK266 := n1_; have HB := n2_; clear n0_ n1_ n2_; (try clear hb); (try clear hb2); (try clear hk); (try clear hi)) | ((with_reducible refine gate_dst (N := 10) rfl ?_); refine box_event ?hg (N := 10) ?hd (cs := #[.string ⟨#[]⟩, .int .i64 0, .int .i64 0, .string ⟨#[]⟩]) (t := 60) ?hr ?_; (case hd => rfl); (case hg => rfl); (case hr => first | (go_simp; done) | (go_simp; rfl)); intro gb273 hg w30 hbox hb; have n0_ := Aside0.mk (Kd.R_below (Kd.R_elderB (rl_ HO_5.out) gb273 (Nat.le_of_eq hg.symm)) hb); have n1_ := Aside0.mk (blk_below (g := gb266) (o := .cells #[.string ⟨#[]⟩, .int .i64 6, .int .i64 1, .string ⟨#[]⟩] 60 (0, 0)) (kl_ BK266.out) hb); have n2_ := Aside0.mk (below_step (by repeat (first | (with_reducible first | exact HB.out | apply below_alloc | apply pw_below_drewN | apply below_drew1 | refine below_set ?_ GE266.out) | exact HB.out)) hb); have n3_ := Aside0.mk (hbox); have n4_ := Aside0.mk ((by rw [hg]; exact (below_size (by repeat (first | (with_reducible first | exact HB.out | apply below_alloc | apply pw_below_drewN | apply below_drew1 | refine below_set ?_ GE266.out) | exact HB.out))) : w.heap.size ≤ gb273)); have n5_ := Aside0.mk ((by rw [hg]; exact (below_size (by repeat (first | (with_reducible first | exact HB.out | apply below_alloc | apply pw_below_drewN | apply below_drew1 | refine below_set ?_ GE266.out) | exact HB.out))) : w.heap.size ≤ gb273)); have n6_ := Aside0.mk ((by rw [hg]; exact Nat.ne_of_lt (blk_lt (g := gb266) (o := .cells #[.string ⟨#[]⟩, .int .i64 6, .int .i64 1, .string ⟨#[]⟩] 60 (0, 0)) (kl_ BK266.out)) : gb266 ≠ gb273)); have n7_ := Aside0.mk ((by rw [hg]; exact Nat.ne_of_gt (blk_lt (g := gb266) (o := .cells #[.string ⟨#[]⟩, .int .i64 6, .int .i64 1, .string ⟨#[]⟩] 60 (0, 0)) (kl_ BK266.out)) : gb273 ≠ gb266)); clear HO_5; clear BK266; clear HB; have HO_5 := n0_; have BK266 := n1_; have HB := n2_; have BK273 := n3_; have GW273 := n4_; have GE273 := n5_; have NB266_273 := n6_; have NB273_266 := n7_; clear n0_ n1_ n2_ n3_ n4_ n5_ n6_ n7_; clear hb hbox hg; have hnb31 := NB273_266.out; have hnc31 := NB266_273.out; obtain ⟨hcz32_0, hcz32_1, hcz32_2, hcz32_3⟩ := c4_ BK273.out; obtain ⟨hfz32_0, hfz32_1, hfz32_2, hfz32_3⟩ := f4_ BK273.out))
             go_ret3
             exact ⟨_, by first | rfl | simp [*], by first | exact Kd.R_nil _ _ _ _ _ | exact Kd.S_nil _ _ _ _ _, by repeat (first | (with_reducible first | exact HB.out | apply below_alloc | apply pw_below_drewN | apply below_drew1 | refine below_set ?_ GE266.out | refine below_set ?_ GE273.out) | exact HB.out)⟩
           ·rw [if_neg c18] at H
            exact absurd H (by simp)
          ·replace c17 := Bool.eq_false_iff.mpr c17
           subst c17
           rw [if_neg (show ¬ (false = true) by decide)] at H
           replace H := Option.bind_eq_some_iff.mp H
           obtain ⟨t277, A330, H⟩ := H
           (try dsimp only at H)
           have A33 := Aside0.mk A330
           clear A330
           have H' := Aside0.mk H
           clear H
           have hcz34_0 : wc.cell? ⟨gb266, 0, none⟩ = some (.string ⟨#[]⟩) := (blk_cell BK266.out 0).trans rfl
           have hcz34_1 : wc.cell? ⟨gb266, 1, none⟩ = some (.int .i64 6) := (blk_cell BK266.out 1).trans rfl
           have hcz34_2 : wc.cell? ⟨gb266, 2, none⟩ = some (.int .i64 1) := (blk_cell BK266.out 2).trans rfl
           have hcz34_3 : wc.cell? ⟨gb266, 3, none⟩ = some (.string ⟨#[]⟩) := (blk_cell BK266.out 3).trans rfl
           have hfz34_0 := blk_frozen BK266.out 0
           have hfz34_1 := blk_frozen BK266.out 1
           have hfz34_2 := blk_frozen BK266.out 2
           have hfz34_3 := blk_frozen BK266.out 3
           obtain ⟨Ao35, co35, eo35⟩ := Kd.R_slice HO_5.out
           subst eo35
           go_wp2_with (first | ((with_reducible refine gate_callee (f := 119) rfl ?_); refine goesL_ (some 57) rfl rfl Tryz.func119 (by kernel_rfl) rfl #[.slice Ao35 x5_1.length co35, .agg #[.string t263, .int .i64 6, .int .i64 1, .string ⟨#[]⟩]] rfl (by simp only [List.map_toArray, List.map_cons, List.map_nil] <;> rfl) ?_; (with_reducible refine (glacisref05_With.calls kj10 _ _ x5_1 t263 6 1 (⟨#[]⟩ : ByteArray) t277 _ ?side1 ?side2 A33.out).mono ?_); (case side1 => refine (Kd.R_reads' (e := 60) (base := w.heap.size) (ok := fun k_ => k_ ≠ gb266) (n := x5_1.length) (c := co35) ?_).2.2; exact (by (with_reducible repeat (first | apply Kd.R_alloc | apply Kd.R_drewN | apply Kd.R_drew)); exact (Kd.R_mono (Kd.R_far (p := ⟨gb266, 0, none⟩) (Kd.R_mono HO_5.out (fun k_ hk => (⟨hk, hk⟩ : _ ∧ k_ ≠ gb266))) (fun _ hk => hk.2) (.string t263)) (fun _ h_ => h_.1)))); (case side2 => exact (Kd.R_reads' HO_5.out).2.1); rintro e w36 ⟨v278, rfl, ho0, hb⟩; refine ⟨_, rfl, ?_⟩; have n0_ := Aside0.mk (Kd.R_elder' (by (with_reducible repeat (first | apply Kd.R_alloc | apply Kd.R_drewN | apply Kd.R_drew)); exact (Kd.R_mono (Kd.R_far (p := ⟨gb266, 0, none⟩) (Kd.R_mono HO_5.out (fun k_ hk => (⟨hk, hk⟩ : _ ∧ k_ ≠ gb266))) (fun _ hk => hk.2) (.string t263)) (fun _ h_ => h_.1))) (Kd.R_base ho0) hb); have n1_ := Aside0.mk (Kd.R_lower (Kd.R_newB (Kd.R_new' ho0 (Kd.R_lt (by (with_reducible repeat (first | apply Kd.R_alloc | apply Kd.R_drewN | apply Kd.R_drew)); exact (Kd.R_mono (Kd.R_far (p := ⟨gb266, 0, none⟩) (Kd.R_mono HO_5.out (fun k_ hk => (⟨hk, hk⟩ : _ ∧ k_ ≠ gb266))) (fun _ hk => hk.2) (.string t263)) (fun _ h_ => h_.1))))) (g := gb266) (o := .cells #[.string t263, .int .i64 6, .int .i64 1, .string ⟨#[]⟩] 60 (0, 0)) (by (repeat refine kq_ ?_); refine blk_put (cs := #[.string ⟨#[]⟩, .int .i64 6, .int .i64 1, .string ⟨#[]⟩]) ?_ 0 _ rfl; (repeat refine kq_ ?_); exact BK266.out)) (below_size (by repeat (first | (with_reducible first | exact HB.out | apply below_alloc | apply pw_below_drewN | apply below_drew1 | refine below_set ?_ GE266.out) | exact HB.out)))); have n2_ := Aside0.mk (blk_below (g := gb266) (o := .cells #[.string t263, .int .i64 6, .int .i64 1, .string ⟨#[]⟩] 60 (0, 0)) (by (repeat refine kq_ ?_); refine blk_put (cs := #[.string ⟨#[]⟩, .int .i64 6, .int .i64 1, .string ⟨#[]⟩]) ?_ 0 _ rfl; (repeat refine kq_ ?_); exact BK266.out) hb); have n3_ := Aside0.mk (below_step (by repeat (first | (with_reducible first | exact HB.out | apply below_alloc | apply pw_below_drewN | apply below_drew1 | refine below_set ?_ GE266.out) | exact HB.out)) hb); clear HO_5; clear BK266; clear HB; have HO_5 := n0_; have HO279 := n1_; have BK266 := n2_; have HB := n3_; clear n0_ n1_ n2_ n3_; (try clear hb); (try clear hb2); (try clear hk); (try clear hi); (try clear ho0)))
           go_roundg kj10
           case measure => have := HK1.out; have := HJ1.out; have := HJ10.out; omega
           case rel => exact ⟨(t264), (t277), (by first | rfl | simp [*]), H', ⟨by have := HK1.out; have := HJ1.out; have := HJ10.out; omega⟩, ⟨by (with_reducible repeat (first | apply Kd.R_alloc | apply Kd.R_drewN | apply Kd.R_drew)); exact Kd.R_mono HO279.out (fun _ hk => trivial)⟩, ⟨by repeat (first | (with_reducible first | exact HB.out | apply below_alloc | apply pw_below_drewN | apply below_drew1 | refine below_set ?_ GE266.out) | exact HB.out)⟩⟩
       ·rw [if_neg c10] at H
        obtain ⟨c10b0, c10b1⟩ := eF_ c10
        simp only [Option.some.injEq, Prod.mk.injEq] at H
        obtain ⟨rfl, rfl, rfl⟩ := H
        go_wp2_with (first | ((with_reducible refine gate_callee (f := 73) rfl ?_); refine goesL_ (some 24) rfl rfl Tryz.func73 (by kernel_rfl) rfl #[.string (x0_1.extract 1 x0_1.size)] rfl (by simp only [List.map_toArray, List.map_cons, List.map_nil] <;> rfl) ?_; (with_reducible refine (glacisref05_Blank.calls kj1 (x0_1.extract 1 x0_1.size) t262 _ A8.out).mono ?_); rintro e w' ⟨rfl, ⟨nd, rfl⟩⟩; refine ⟨_, rfl, ?_⟩) | ((with_reducible refine gate_callee (f := 36) rfl ?_); refine goesL_ (some 25) rfl rfl Tryz.func36 (by kernel_rfl) rfl #[.string t262] rfl (by simp only [List.map_toArray, List.map_cons, List.map_nil] <;> rfl) ?_; (with_reducible refine (glacisref05_Key.calls kj1 t262 t263 t264 t265 _ A9.out).mono ?_); rintro e w' ⟨rfl, ⟨nd, rfl⟩⟩; refine ⟨_, rfl, ?_⟩))
        go_ret3
        exact ⟨_, by first | rfl | simp [*], by first | exact Kd.R_nil _ _ _ _ _ | exact Kd.S_nil _ _ _ _ _, bl_ HB.out⟩
      ·rw [if_neg c7] at H
       exact absurd H (by simp)
     ·replace c6 := Bool.eq_false_iff.mpr c6
      subst c6
      rw [if_neg (show ¬ (false = true) by decide)] at H
      simp only [Option.some.injEq, Prod.mk.injEq] at H
      obtain ⟨rfl, rfl, rfl⟩ := H
      go_wp2
      go_ret3
      exact ⟨_, by first | rfl | simp [*], by (with_reducible repeat (first | apply Kd.R_alloc | apply Kd.R_drewN | apply Kd.R_drew)); exact HO_5.out, bl_ HB.out⟩
def glacisref05_Next.f (k : Nat) (a0 : ByteArray) : Option (Int × Int × ByteArray × (List (S60)) × ByteArray × Int) := (glacisref05_value.f k a0).bind fun bt281 => (if bt281.2.2.2.2.2 = true then ((glacisref05_Params.f k bt281.2.2.2.2.1).bind fun bt288 => (if bt288.2.2 = 0 then (some (bt281.2.1, bt281.2.2.1, bt281.2.2.2.1, bt288.1, bt288.2.1, 0)) else (some (0, 0, (⟨#[]⟩ : ByteArray), ([] : List (S60)), (⟨#[]⟩ : ByteArray), bt288.2.2)))) else (some (0, 0, (⟨#[]⟩ : ByteArray), ([] : List (S60)), (⟨#[]⟩ : ByteArray), 50)))
theorem glacisref05_Next.calls (k : Nat) (a0 : ByteArray) (r1 : Int) (r2 : Int) (r3 : ByteArray) (r4 : List (S60)) (r5 : ByteArray) (r6 : Int) (w : World) (h : glacisref05_Next.f k a0 = some (r1, r2, r3, r4, r5, r6)) :
  Calls Tryz.prog 104 #[.string a0] w fun e w' => ∃ v3_ : Value, e = .returned (.tuple #[.agg #[.int .i64 r1, .int .i64 r2, .string r3, v3_], .string r5, .int .i64 r6]) ∧ Kd.R k60 60 w' w.heap.size (fun _ => True) v3_ r4 ∧ Below w.heap.size w w' := by
 have hu31 := Tryz.underlying31
 have hu60 := Tryz.underlying60
 have HB := Aside0.mk (Below.refl w.heap.size w)
 have H : ((glacisref05_value.f k a0).bind fun bt281 => (if bt281.2.2.2.2.2 = true then ((glacisref05_Params.f k bt281.2.2.2.2.1).bind fun bt288 => (if bt288.2.2 = 0 then (some (bt281.2.1, bt281.2.2.1, bt281.2.2.2.1, bt288.1, bt288.2.1, 0)) else (some (0, 0, (⟨#[]⟩ : ByteArray), ([] : List (S60)), (⟨#[]⟩ : ByteArray), bt288.2.2)))) else (some (0, 0, (⟨#[]⟩ : ByteArray), ([] : List (S60)), (⟨#[]⟩ : ByteArray), 50)))) = some (r1, r2, r3, r4, r5, r6) := h
 clear h
 replace H := Option.bind_eq_some_iff.mp H
 obtain ⟨⟨t281, t282, t283, t284, t285, t286⟩, A20, H⟩ := H
 (try dsimp only at H)
 have A2 := Aside0.mk A20
 clear A20
 by_cases c3 : t286 = true
 ·subst c3
  rw [if_pos rfl] at H
  replace H := Option.bind_eq_some_iff.mp H
  obtain ⟨⟨t288, t289, t290⟩, A40, H⟩ := H
  (try dsimp only at H)
  have A4 := Aside0.mk A40
  clear A40
  by_cases c5 : t290 = 0
  ·rw [if_pos c5] at H
   obtain ⟨c5b0, c5b1⟩ := eT_ c5
   clear c5
   simp only [Option.some.injEq, Prod.mk.injEq] at H
   obtain ⟨rfl, rfl, rfl, rfl, rfl, rfl⟩ := H
   go_enter Tryz.func104, Tryz.ntmps104
   go_wp2_with (first | ((with_reducible refine gate_dst (N := 2) rfl ?_); refine box_event ?hg (N := 2) ?hd (cs := #[.int .i64 0, .int .i64 0, .string ⟨#[]⟩, .slice none 0 0]) (t := 31) ?hr ?_; (case hd => rfl); (case hg => rfl); (case hr => first | (go_simp; done) | (go_simp; rfl)); intro gb280 hg w6 hbox hb; have n0_ := Aside0.mk (below_step (bl_ HB.out) hb); have n1_ := Aside0.mk (hbox); have n2_ := Aside0.mk ((hg_ hg (bl_ HB.out))); have n3_ := Aside0.mk ((hg_ hg (bl_ HB.out))); clear HB; have HB := n0_; have BK280 := n1_; have GW280 := n2_; have GE280 := n3_; clear n0_ n1_ n2_ n3_; clear hb hbox hg) | ((with_reducible refine gate_callee (f := 98) rfl ?_); refine goesL_ (some 12) rfl rfl Tryz.func98 (by kernel_rfl) rfl #[.string a0] rfl (by simp only [List.map_toArray, List.map_cons, List.map_nil] <;> rfl) ?_; (with_reducible refine (glacisref05_value.calls k a0 t281 t282 t283 t284 t285 true _ A2.out).mono ?_); rintro e w7 ⟨rfl, hb⟩; refine ⟨_, rfl, ?_⟩; have n0_ := Aside0.mk (blk_below (g := gb280) (o := .cells #[.int .i64 0, .int .i64 0, .string ⟨#[]⟩, .slice none 0 0] 31 (0, 0)) (kl_ BK280.out) hb); have n1_ := Aside0.mk (below_step (by repeat (first | (with_reducible first | exact HB.out | apply below_alloc | apply pw_below_drewN | apply below_drew1 | refine below_set ?_ GE280.out) | exact HB.out)) hb); clear BK280; clear HB; have BK280 := n0_; have HB := n1_; clear n0_ n1_; (try clear hb); (try clear hb2); (try clear hk); (try clear hi)) | ((with_reducible refine gate_dst (N := 5) rfl ?_); refine box_event ?hg (N := 5) ?hd (cs := #[.string ⟨#[]⟩, .int .i64 0, .int .i64 0, .string ⟨#[]⟩]) (t := 60) ?hr ?_; (case hd => rfl); (case hg => rfl); (case hr => first | (go_simp; done) | (go_simp; rfl)); intro gb287 hg w8 hbox hb; have n0_ := Aside0.mk (blk_below (g := gb280) (o := .cells #[.int .i64 0, .int .i64 0, .string ⟨#[]⟩, .slice none 0 0] 31 (0, 0)) (kl_ BK280.out) hb); have n1_ := Aside0.mk (below_step (by repeat (first | (with_reducible first | exact HB.out | apply below_alloc | apply pw_below_drewN | apply below_drew1 | refine below_set ?_ GE280.out) | exact HB.out)) hb); have n2_ := Aside0.mk (hbox); have n3_ := Aside0.mk ((by rw [hg]; exact (below_size (by repeat (first | (with_reducible first | exact HB.out | apply below_alloc | apply pw_below_drewN | apply below_drew1 | refine below_set ?_ GE280.out) | exact HB.out))) : w.heap.size ≤ gb287)); have n4_ := Aside0.mk ((by rw [hg]; exact (below_size (by repeat (first | (with_reducible first | exact HB.out | apply below_alloc | apply pw_below_drewN | apply below_drew1 | refine below_set ?_ GE280.out) | exact HB.out))) : w.heap.size ≤ gb287)); have n5_ := Aside0.mk ((by rw [hg]; exact Nat.ne_of_lt (blk_lt (g := gb280) (o := .cells #[.int .i64 0, .int .i64 0, .string ⟨#[]⟩, .slice none 0 0] 31 (0, 0)) (kl_ BK280.out)) : gb280 ≠ gb287)); have n6_ := Aside0.mk ((by rw [hg]; exact Nat.ne_of_gt (blk_lt (g := gb280) (o := .cells #[.int .i64 0, .int .i64 0, .string ⟨#[]⟩, .slice none 0 0] 31 (0, 0)) (kl_ BK280.out)) : gb287 ≠ gb280)); clear BK280; clear HB; have BK280 := n0_; have HB := n1_; have BK287 := n2_; have GW287 := n3_; have GE287 := n4_; have NB280_287 := n5_; have NB287_280 := n6_; clear n0_ n1_ n2_ n3_ n4_ n5_ n6_; clear hb hbox hg; have hnb9 := NB287_280.out; have hnc9 := NB280_287.out; obtain ⟨hcz10_0, hcz10_1, hcz10_2, hcz10_3⟩ := c4_ BK287.out; obtain ⟨hfz10_0, hfz10_1, hfz10_2, hfz10_3⟩ := f4_ BK287.out) | ((with_reducible refine gate_callee (f := 102) rfl ?_); refine goesL_ (some 21) rfl rfl Tryz.func102 (by kernel_rfl) rfl #[.string t285] rfl (by simp only [List.map_toArray, List.map_cons, List.map_nil] <;> rfl) ?_; (with_reducible refine (glacisref05_Params.calls k t285 t288 t289 t290 _ A4.out).mono ?_); rintro e w11 ⟨v291, rfl, ho0, hb⟩; refine ⟨_, rfl, ?_⟩; have n0_ := Aside0.mk (Kd.R_lower (Kd.R_newB ho0 (g := gb287) (o := .cells #[.string t281, .int .i64 t282, .int .i64 t283, .string t284] 60 (0, 0)) (by (repeat refine kq_ ?_); refine blk_put (cs := #[.string t281, .int .i64 t282, .int .i64 t283, .string ⟨#[]⟩]) ?_ 3 _ rfl; (repeat refine kq_ ?_); refine blk_put (cs := #[.string t281, .int .i64 t282, .int .i64 0, .string ⟨#[]⟩]) ?_ 2 _ rfl; (repeat refine kq_ ?_); refine blk_put (cs := #[.string t281, .int .i64 0, .int .i64 0, .string ⟨#[]⟩]) ?_ 1 _ rfl; (repeat refine kq_ ?_); refine blk_put (cs := #[.string ⟨#[]⟩, .int .i64 0, .int .i64 0, .string ⟨#[]⟩]) ?_ 0 _ rfl; (repeat refine kq_ ?_); exact BK287.out)) (below_size (by repeat (first | (with_reducible first | exact HB.out | apply below_alloc | apply pw_below_drewN | apply below_drew1 | refine below_set ?_ GE280.out | refine below_set ?_ GE287.out) | exact HB.out)))); have n1_ := Aside0.mk (blk_below (g := gb280) (o := .cells #[.int .i64 0, .int .i64 0, .string ⟨#[]⟩, .slice none 0 0] 31 (0, 0)) (by repeat (first | refine blk_far ?_ NB280_287.out _ | exact BK280.out)) hb); have n2_ := Aside0.mk (blk_below (g := gb287) (o := .cells #[.string t281, .int .i64 t282, .int .i64 t283, .string t284] 60 (0, 0)) (by (repeat refine kq_ ?_); refine blk_put (cs := #[.string t281, .int .i64 t282, .int .i64 t283, .string ⟨#[]⟩]) ?_ 3 _ rfl; (repeat refine kq_ ?_); refine blk_put (cs := #[.string t281, .int .i64 t282, .int .i64 0, .string ⟨#[]⟩]) ?_ 2 _ rfl; (repeat refine kq_ ?_); refine blk_put (cs := #[.string t281, .int .i64 0, .int .i64 0, .string ⟨#[]⟩]) ?_ 1 _ rfl; (repeat refine kq_ ?_); refine blk_put (cs := #[.string ⟨#[]⟩, .int .i64 0, .int .i64 0, .string ⟨#[]⟩]) ?_ 0 _ rfl; (repeat refine kq_ ?_); exact BK287.out) hb); have n3_ := Aside0.mk (below_step (by repeat (first | (with_reducible first | exact HB.out | apply below_alloc | apply pw_below_drewN | apply below_drew1 | refine below_set ?_ GE280.out | refine below_set ?_ GE287.out) | exact HB.out)) hb); clear BK280; clear BK287; clear HB; have HO292 := n0_; have BK280 := n1_; have BK287 := n2_; have HB := n3_; clear n0_ n1_ n2_ n3_; (try clear hb); (try clear hb2); (try clear hk); (try clear hi); (try clear ho0); obtain ⟨hcz12_0, hcz12_1, hcz12_2, hcz12_3⟩ := c4_ BK287.out; obtain ⟨hfz12_0, hfz12_1, hfz12_2, hfz12_3⟩ := f4_ BK287.out; obtain ⟨Ao13, co13, eo13⟩ := Kd.R_slice HO292.out; subst eo13; obtain ⟨hcz14_0, hcz14_1, hcz14_2, hcz14_3⟩ := c4_ BK280.out; obtain ⟨hfz14_0, hfz14_1, hfz14_2, hfz14_3⟩ := f4_ BK280.out))
   refine bodyPost_ret (results_ctt rfl _ _ gb280 31 #[.int .i64 t282, .int .i64 t283, .string t284, .slice Ao13 t288.length co13] (0, 0) _ rfl (by (repeat refine kq_ ?_); refine blk_put (cs := #[.int .i64 t282, .int .i64 t283, .string t284, .slice none 0 0]) ?_ 3 _ rfl; (repeat refine kq_ ?_); refine blk_put (cs := #[.int .i64 t282, .int .i64 t283, .string ⟨#[]⟩, .slice none 0 0]) ?_ 2 _ rfl; (repeat refine kq_ ?_); refine blk_put (cs := #[.int .i64 t282, .int .i64 0, .string ⟨#[]⟩, .slice none 0 0]) ?_ 1 _ rfl; (repeat refine kq_ ?_); refine blk_put (cs := #[.int .i64 0, .int .i64 0, .string ⟨#[]⟩, .slice none 0 0]) ?_ 0 _ rfl; (repeat refine kq_ ?_); exact BK280.out) Tryz.underlying31 rfl (by kernel_rfl)) rfl ?_
   exact ⟨_, by first | rfl | simp [*], by (with_reducible repeat (first | apply Kd.R_alloc | apply Kd.R_drewN | apply Kd.R_drew)); exact Kd.R_mono (Kd.R_far (p := ⟨gb280, 3, none⟩) (Kd.R_far (p := ⟨gb280, 2, none⟩) (Kd.R_far (p := ⟨gb280, 1, none⟩) (Kd.R_far (p := ⟨gb280, 0, none⟩) (Kd.R_types HO292.out BK280.out (by decide)) (fun _ hk => hk.2) (.int .i64 t282)) (fun _ hk => hk.2) (.int .i64 t283)) (fun _ hk => hk.2) (.string t284)) (fun _ hk => hk.2) (.slice Ao13 t288.length co13)) (fun _ hk => trivial), by repeat (first | (with_reducible first | exact HB.out | apply below_alloc | apply pw_below_drewN | apply below_drew1 | refine below_set ?_ GE280.out | refine below_set ?_ GE287.out) | exact HB.out)⟩
  ·rw [if_neg c5] at H
   obtain ⟨c5b0, c5b1⟩ := eF_ c5
   simp only [Option.some.injEq, Prod.mk.injEq] at H
   obtain ⟨rfl, rfl, rfl, rfl, rfl, rfl⟩ := H
   go_enter Tryz.func104, Tryz.ntmps104
   go_wp2_with (first | ((with_reducible refine gate_dst (N := 2) rfl ?_); refine box_event ?hg (N := 2) ?hd (cs := #[.int .i64 0, .int .i64 0, .string ⟨#[]⟩, .slice none 0 0]) (t := 31) ?hr ?_; (case hd => rfl); (case hg => rfl); (case hr => first | (go_simp; done) | (go_simp; rfl)); intro gb280 hg w15 hbox hb; have n0_ := Aside0.mk (below_step (bl_ HB.out) hb); have n1_ := Aside0.mk (hbox); have n2_ := Aside0.mk ((hg_ hg (bl_ HB.out))); have n3_ := Aside0.mk ((hg_ hg (bl_ HB.out))); clear HB; have HB := n0_; have BK280 := n1_; have GW280 := n2_; have GE280 := n3_; clear n0_ n1_ n2_ n3_; clear hb hbox hg) | ((with_reducible refine gate_callee (f := 98) rfl ?_); refine goesL_ (some 12) rfl rfl Tryz.func98 (by kernel_rfl) rfl #[.string a0] rfl (by simp only [List.map_toArray, List.map_cons, List.map_nil] <;> rfl) ?_; (with_reducible refine (glacisref05_value.calls k a0 t281 t282 t283 t284 t285 true _ A2.out).mono ?_); rintro e w16 ⟨rfl, hb⟩; refine ⟨_, rfl, ?_⟩; have n0_ := Aside0.mk (blk_below (g := gb280) (o := .cells #[.int .i64 0, .int .i64 0, .string ⟨#[]⟩, .slice none 0 0] 31 (0, 0)) (kl_ BK280.out) hb); have n1_ := Aside0.mk (below_step (by repeat (first | (with_reducible first | exact HB.out | apply below_alloc | apply pw_below_drewN | apply below_drew1 | refine below_set ?_ GE280.out) | exact HB.out)) hb); clear BK280; clear HB; have BK280 := n0_; have HB := n1_; clear n0_ n1_; (try clear hb); (try clear hb2); (try clear hk); (try clear hi)) | ((with_reducible refine gate_dst (N := 5) rfl ?_); refine box_event ?hg (N := 5) ?hd (cs := #[.string ⟨#[]⟩, .int .i64 0, .int .i64 0, .string ⟨#[]⟩]) (t := 60) ?hr ?_; (case hd => rfl); (case hg => rfl); (case hr => first | (go_simp; done) | (go_simp; rfl)); intro gb287 hg w17 hbox hb; have n0_ := Aside0.mk (blk_below (g := gb280) (o := .cells #[.int .i64 0, .int .i64 0, .string ⟨#[]⟩, .slice none 0 0] 31 (0, 0)) (kl_ BK280.out) hb); have n1_ := Aside0.mk (below_step (by repeat (first | (with_reducible first | exact HB.out | apply below_alloc | apply pw_below_drewN | apply below_drew1 | refine below_set ?_ GE280.out) | exact HB.out)) hb); have n2_ := Aside0.mk (hbox); have n3_ := Aside0.mk ((by rw [hg]; exact (below_size (by repeat (first | (with_reducible first | exact HB.out | apply below_alloc | apply pw_below_drewN | apply below_drew1 | refine below_set ?_ GE280.out) | exact HB.out))) : w.heap.size ≤ gb287)); have n4_ := Aside0.mk ((by rw [hg]; exact (below_size (by repeat (first | (with_reducible first | exact HB.out | apply below_alloc | apply pw_below_drewN | apply below_drew1 | refine below_set ?_ GE280.out) | exact HB.out))) : w.heap.size ≤ gb287)); have n5_ := Aside0.mk ((by rw [hg]; exact Nat.ne_of_lt (blk_lt (g := gb280) (o := .cells #[.int .i64 0, .int .i64 0, .string ⟨#[]⟩, .slice none 0 0] 31 (0, 0)) (kl_ BK280.out)) : gb280 ≠ gb287)); have n6_ := Aside0.mk ((by rw [hg]; exact Nat.ne_of_gt (blk_lt (g := gb280) (o := .cells #[.int .i64 0, .int .i64 0, .string ⟨#[]⟩, .slice none 0 0] 31 (0, 0)) (kl_ BK280.out)) : gb287 ≠ gb280)); clear BK280; clear HB; have BK280 := n0_; have HB := n1_; have BK287 := n2_; have GW287 := n3_; have GE287 := n4_; have NB280_287 := n5_; have NB287_280 := n6_; clear n0_ n1_ n2_ n3_ n4_ n5_ n6_; clear hb hbox hg; have hnb18 := NB287_280.out; have hnc18 := NB280_287.out; obtain ⟨hcz19_0, hcz19_1, hcz19_2, hcz19_3⟩ := c4_ BK287.out; obtain ⟨hfz19_0, hfz19_1, hfz19_2, hfz19_3⟩ := f4_ BK287.out) | ((with_reducible refine gate_callee (f := 102) rfl ?_); refine goesL_ (some 21) rfl rfl Tryz.func102 (by kernel_rfl) rfl #[.string t285] rfl (by simp only [List.map_toArray, List.map_cons, List.map_nil] <;> rfl) ?_; (with_reducible refine (glacisref05_Params.calls k t285 t288 t289 t290 _ A4.out).mono ?_); rintro e w20 ⟨v291, rfl, ho0, hb⟩; refine ⟨_, rfl, ?_⟩; have n0_ := Aside0.mk (Kd.R_lower (Kd.R_newB ho0 (g := gb287) (o := .cells #[.string t281, .int .i64 t282, .int .i64 t283, .string t284] 60 (0, 0)) (by (repeat refine kq_ ?_); refine blk_put (cs := #[.string t281, .int .i64 t282, .int .i64 t283, .string ⟨#[]⟩]) ?_ 3 _ rfl; (repeat refine kq_ ?_); refine blk_put (cs := #[.string t281, .int .i64 t282, .int .i64 0, .string ⟨#[]⟩]) ?_ 2 _ rfl; (repeat refine kq_ ?_); refine blk_put (cs := #[.string t281, .int .i64 0, .int .i64 0, .string ⟨#[]⟩]) ?_ 1 _ rfl; (repeat refine kq_ ?_); refine blk_put (cs := #[.string ⟨#[]⟩, .int .i64 0, .int .i64 0, .string ⟨#[]⟩]) ?_ 0 _ rfl; (repeat refine kq_ ?_); exact BK287.out)) (below_size (by repeat (first | (with_reducible first | exact HB.out | apply below_alloc | apply pw_below_drewN | apply below_drew1 | refine below_set ?_ GE280.out | refine below_set ?_ GE287.out) | exact HB.out)))); have n1_ := Aside0.mk (blk_below (g := gb280) (o := .cells #[.int .i64 0, .int .i64 0, .string ⟨#[]⟩, .slice none 0 0] 31 (0, 0)) (by repeat (first | refine blk_far ?_ NB280_287.out _ | exact BK280.out)) hb); have n2_ := Aside0.mk (blk_below (g := gb287) (o := .cells #[.string t281, .int .i64 t282, .int .i64 t283, .string t284] 60 (0, 0)) (by (repeat refine kq_ ?_); refine blk_put (cs := #[.string t281, .int .i64 t282, .int .i64 t283, .string ⟨#[]⟩]) ?_ 3 _ rfl; (repeat refine kq_ ?_); refine blk_put (cs := #[.string t281, .int .i64 t282, .int .i64 0, .string ⟨#[]⟩]) ?_ 2 _ rfl; (repeat refine kq_ ?_); refine blk_put (cs := #[.string t281, .int .i64 0, .int .i64 0, .string ⟨#[]⟩]) ?_ 1 _ rfl; (repeat refine kq_ ?_); refine blk_put (cs := #[.string ⟨#[]⟩, .int .i64 0, .int .i64 0, .string ⟨#[]⟩]) ?_ 0 _ rfl; (repeat refine kq_ ?_); exact BK287.out) hb); have n3_ := Aside0.mk (below_step (by repeat (first | (with_reducible first | exact HB.out | apply below_alloc | apply pw_below_drewN | apply below_drew1 | refine below_set ?_ GE280.out | refine below_set ?_ GE287.out) | exact HB.out)) hb); clear BK280; clear BK287; clear HB; have HO292 := n0_; have BK280 := n1_; have BK287 := n2_; have HB := n3_; clear n0_ n1_ n2_ n3_; (try clear hb); (try clear hb2); (try clear hk); (try clear hi); (try clear ho0); obtain ⟨hcz21_0, hcz21_1, hcz21_2, hcz21_3⟩ := c4_ BK280.out; obtain ⟨hfz21_0, hfz21_1, hfz21_2, hfz21_3⟩ := f4_ BK280.out))
   refine bodyPost_ret (results_ctt rfl _ _ gb280 31 #[.int .i64 0, .int .i64 0, .string ⟨#[]⟩, .slice none 0 0] (0, 0) _ rfl (by (repeat refine kq_ ?_); refine blk_put (cs := #[.int .i64 0, .int .i64 0, .string ⟨#[]⟩, .slice none 0 0]) ?_ 3 _ rfl; (repeat refine kq_ ?_); refine blk_put (cs := #[.int .i64 0, .int .i64 0, .string ⟨#[]⟩, .slice none 0 0]) ?_ 2 _ rfl; (repeat refine kq_ ?_); refine blk_put (cs := #[.int .i64 0, .int .i64 0, .string ⟨#[]⟩, .slice none 0 0]) ?_ 1 _ rfl; (repeat refine kq_ ?_); refine blk_put (cs := #[.int .i64 0, .int .i64 0, .string ⟨#[]⟩, .slice none 0 0]) ?_ 0 _ rfl; (repeat refine kq_ ?_); exact BK280.out) Tryz.underlying31 rfl (by kernel_rfl)) rfl ?_
   exact ⟨_, by first | rfl | simp [*], by first | exact Kd.R_nil _ _ _ _ _ | exact Kd.S_nil _ _ _ _ _, by repeat (first | (with_reducible first | exact HB.out | apply below_alloc | apply pw_below_drewN | apply below_drew1 | refine below_set ?_ GE280.out | refine below_set ?_ GE287.out) | exact HB.out)⟩
 ·replace c3 := Bool.eq_false_iff.mpr c3
  subst c3
  rw [if_neg (show ¬ (false = true) by decide)] at H
  simp only [Option.some.injEq, Prod.mk.injEq] at H
  obtain ⟨rfl, rfl, rfl, rfl, rfl, rfl⟩ := H
  go_enter Tryz.func104, Tryz.ntmps104
  go_wp2_with (first | ((with_reducible refine gate_dst (N := 2) rfl ?_); refine box_event ?hg (N := 2) ?hd (cs := #[.int .i64 0, .int .i64 0, .string ⟨#[]⟩, .slice none 0 0]) (t := 31) ?hr ?_; (case hd => rfl); (case hg => rfl); (case hr => first | (go_simp; done) | (go_simp; rfl)); intro gb280 hg w22 hbox hb; have n0_ := Aside0.mk (below_step (bl_ HB.out) hb); have n1_ := Aside0.mk (hbox); have n2_ := Aside0.mk ((hg_ hg (bl_ HB.out))); have n3_ := Aside0.mk ((hg_ hg (bl_ HB.out))); clear HB; have HB := n0_; have BK280 := n1_; have GW280 := n2_; have GE280 := n3_; clear n0_ n1_ n2_ n3_; clear hb hbox hg) | ((with_reducible refine gate_callee (f := 98) rfl ?_); refine goesL_ (some 12) rfl rfl Tryz.func98 (by kernel_rfl) rfl #[.string a0] rfl (by simp only [List.map_toArray, List.map_cons, List.map_nil] <;> rfl) ?_; (with_reducible refine (glacisref05_value.calls k a0 t281 t282 t283 t284 t285 false _ A2.out).mono ?_); rintro e w23 ⟨rfl, hb⟩; refine ⟨_, rfl, ?_⟩; have n0_ := Aside0.mk (blk_below (g := gb280) (o := .cells #[.int .i64 0, .int .i64 0, .string ⟨#[]⟩, .slice none 0 0] 31 (0, 0)) (kl_ BK280.out) hb); have n1_ := Aside0.mk (below_step (by repeat (first | (with_reducible first | exact HB.out | apply below_alloc | apply pw_below_drewN | apply below_drew1 | refine below_set ?_ GE280.out) | exact HB.out)) hb); clear BK280; clear HB; have BK280 := n0_; have HB := n1_; clear n0_ n1_; (try clear hb); (try clear hb2); (try clear hk); (try clear hi)) | ((with_reducible refine gate_dst (N := 5) rfl ?_); refine box_event ?hg (N := 5) ?hd (cs := #[.string ⟨#[]⟩, .int .i64 0, .int .i64 0, .string ⟨#[]⟩]) (t := 60) ?hr ?_; (case hd => rfl); (case hg => rfl); (case hr => first | (go_simp; done) | (go_simp; rfl)); intro gb287 hg w24 hbox hb; have n0_ := Aside0.mk (blk_below (g := gb280) (o := .cells #[.int .i64 0, .int .i64 0, .string ⟨#[]⟩, .slice none 0 0] 31 (0, 0)) (kl_ BK280.out) hb); have n1_ := Aside0.mk (below_step (by repeat (first | (with_reducible first | exact HB.out | apply below_alloc | apply pw_below_drewN | apply below_drew1 | refine below_set ?_ GE280.out) | exact HB.out)) hb); have n2_ := Aside0.mk (hbox); have n3_ := Aside0.mk ((by rw [hg]; exact (below_size (by repeat (first | (with_reducible first | exact HB.out | apply below_alloc | apply pw_below_drewN | apply below_drew1 | refine below_set ?_ GE280.out) | exact HB.out))) : w.heap.size ≤ gb287)); have n4_ := Aside0.mk ((by rw [hg]; exact (below_size (by repeat (first | (with_reducible first | exact HB.out | apply below_alloc | apply pw_below_drewN | apply below_drew1 | refine below_set ?_ GE280.out) | exact HB.out))) : w.heap.size ≤ gb287)); have n5_ := Aside0.mk ((by rw [hg]; exact Nat.ne_of_lt (blk_lt (g := gb280) (o := .cells #[.int .i64 0, .int .i64 0, .string ⟨#[]⟩, .slice none 0 0] 31 (0, 0)) (kl_ BK280.out)) : gb280 ≠ gb287)); have n6_ := Aside0.mk ((by rw [hg]; exact Nat.ne_of_gt (blk_lt (g := gb280) (o := .cells #[.int .i64 0, .int .i64 0, .string ⟨#[]⟩, .slice none 0 0] 31 (0, 0)) (kl_ BK280.out)) : gb287 ≠ gb280)); clear BK280; clear HB; have BK280 := n0_; have HB := n1_; have BK287 := n2_; have GW287 := n3_; have GE287 := n4_; have NB280_287 := n5_; have NB287_280 := n6_; clear n0_ n1_ n2_ n3_ n4_ n5_ n6_; clear hb hbox hg; have hnb25 := NB287_280.out; have hnc25 := NB280_287.out; obtain ⟨hcz26_0, hcz26_1, hcz26_2, hcz26_3⟩ := c4_ BK287.out; obtain ⟨hfz26_0, hfz26_1, hfz26_2, hfz26_3⟩ := f4_ BK287.out; obtain ⟨hcz27_0, hcz27_1, hcz27_2, hcz27_3⟩ := c4_ BK280.out; obtain ⟨hfz27_0, hfz27_1, hfz27_2, hfz27_3⟩ := f4_ BK280.out))
  refine bodyPost_ret (results_ctt rfl _ _ gb280 31 #[.int .i64 0, .int .i64 0, .string ⟨#[]⟩, .slice none 0 0] (0, 0) _ rfl (by (repeat refine kq_ ?_); refine blk_put (cs := #[.int .i64 0, .int .i64 0, .string ⟨#[]⟩, .slice none 0 0]) ?_ 3 _ rfl; (repeat refine kq_ ?_); refine blk_put (cs := #[.int .i64 0, .int .i64 0, .string ⟨#[]⟩, .slice none 0 0]) ?_ 2 _ rfl; (repeat refine kq_ ?_); refine blk_put (cs := #[.int .i64 0, .int .i64 0, .string ⟨#[]⟩, .slice none 0 0]) ?_ 1 _ rfl; (repeat refine kq_ ?_); refine blk_put (cs := #[.int .i64 0, .int .i64 0, .string ⟨#[]⟩, .slice none 0 0]) ?_ 0 _ rfl; repeat (first | refine blk_far ?_ NB280_287.out _ | exact BK280.out)) Tryz.underlying31 rfl (by kernel_rfl)) rfl ?_
  exact ⟨_, by first | rfl | simp [*], by first | exact Kd.R_nil _ _ _ _ _ | exact Kd.S_nil _ _ _ _ _, by repeat (first | (with_reducible first | exact HB.out | apply below_alloc | apply pw_below_drewN | apply below_drew1 | refine below_set ?_ GE280.out | refine below_set ?_ GE287.out) | exact HB.out)⟩
mutual
def glacisref06_inner.l0 : Nat → ByteArray → ByteArray → Bool → Int → Int → ByteArray → List (S31) → Option (ByteArray × Bool × Int × Int × ByteArray × (List (S60)) × (List (S31)) × (List (S60)) × ByteArray × Bool)
 | 0, _, _, _, _, _, _, _ => none
 | k + 1, x0, x295000, x295001, x295002, x295003, x295004, x295006 => (glacisref05_Blank.f k x0).bind fun t295 => (if t295.toList = ([] : List UInt8) then (some ((⟨#[]⟩ : ByteArray), false, 0, 0, (⟨#[]⟩ : ByteArray), ([] : List (S60)), ([] : List (S31)), ([] : List (S60)), (⟨#[]⟩ : ByteArray), false)) else (if 0 < (t295.size : Int) then (if (bt t295 0) = 41 then (if 1 ≤ (t295.size : Int) then ((glacisref05_Params.f k (t295.extract 1 t295.size)).bind fun bt296 => (some (x295000, x295001, x295002, x295003, x295004, ([] : List (S60)), x295006, bt296.1, bt296.2.1, (bt296.2.2 == 0)))) else (none)) else (if (x295006.length : Int) > 0 then (glacisref06_inner.j1 k t295 ((t295.size : Int) == (x0.size : Int)) x295000 x295001 x295002 x295003 x295004 x295006) else (glacisref06_inner.j1 k t295 false x295000 x295001 x295002 x295003 x295004 x295006))) else (none)))
def glacisref06_inner.j1 : Nat → ByteArray → Bool → ByteArray → Bool → Int → Int → ByteArray → List (S31) → Option (ByteArray × Bool × Int × Int × ByteArray × (List (S60)) × (List (S31)) × (List (S60)) × ByteArray × Bool)
 | 0, _, _, _, _, _, _, _, _ => none
 | k + 1, x6, x45, x295000, x295001, x295002, x295003, x295004, x295006 => if x45 = true then (some ((⟨#[]⟩ : ByteArray), false, 0, 0, (⟨#[]⟩ : ByteArray), ([] : List (S60)), ([] : List (S31)), ([] : List (S60)), (⟨#[]⟩ : ByteArray), false)) else ((glacisref05_Next.f k x6).bind fun bt301 => (if bt301.2.2.2.2.2 = 0 then (if x295006.length < 2513169434916 then (glacisref06_inner.l0 k bt301.2.2.2.2.1 x295000 x295001 x295002 x295003 x295004 (x295006 ++ [(⟨bt301.1, bt301.2.1, bt301.2.2.1, bt301.2.2.2.1⟩ : S31)])) else (none)) else (some ((⟨#[]⟩ : ByteArray), false, 0, 0, (⟨#[]⟩ : ByteArray), ([] : List (S60)), ([] : List (S31)), ([] : List (S60)), (⟨#[]⟩ : ByteArray), false))))
end
def glacisref06_inner.f (k : Nat) (a0 : ByteArray) : Option (ByteArray × Bool × Int × Int × ByteArray × (List (S60)) × (List (S31)) × (List (S60)) × ByteArray × Bool) := glacisref06_inner.l0 k a0 (⟨#[]⟩ : ByteArray) true 0 0 (⟨#[]⟩ : ByteArray) ([] : List (S31))
theorem glacisref06_inner.calls (k : Nat) (a0 : ByteArray) (r1 : ByteArray) (r2 : Bool) (r3 : Int) (r4 : Int) (r5 : ByteArray) (r6 : List (S60)) (r7 : List (S31)) (r8 : List (S60)) (r9 : ByteArray) (r10 : Bool) (w : World) (h : glacisref06_inner.f k a0 = some (r1, r2, r3, r4, r5, r6, r7, r8, r9, r10)) :
  Calls Tryz.prog 103 #[.string a0] w fun e w' => ∃ v5_ v6_ v7_ : Value, e = .returned (.tuple #[.agg #[.string r1, .bool r2, .int .i64 r3, .int .i64 r4, .string r5, v5_, v6_, v7_], .string r9, .bool r10]) ∧ Kd.R k60 60 w' w.heap.size (fun k_ => some k_ ≠ (v7_ : Value).ownBlock) v5_ r6 ∧ Kd.S k31 31 w' w.heap.size (fun k_ => some k_ ≠ (v5_ : Value).ownBlock ∧ some k_ ≠ (v7_ : Value).ownBlock) v6_ r7 ∧ Kd.R k60 60 w' w.heap.size (fun k_ => some k_ ≠ (v5_ : Value).ownBlock) v7_ r8 ∧ Below w.heap.size w w' := by
 have hu34 := Tryz.underlying34
 have hu31 := Tryz.underlying31
 have HB := Aside0.mk (Below.refl w.heap.size w)
 have H : (glacisref06_inner.l0 k a0 (⟨#[]⟩ : ByteArray) true 0 0 (⟨#[]⟩ : ByteArray) ([] : List (S31))) = some (r1, r2, r3, r4, r5, r6, r7, r8, r9, r10) := h
 clear h
 have H' := Aside0.mk H
 clear H
 go_enter Tryz.func103, Tryz.ntmps103
 go_wp2_with (first | ((with_reducible refine gate_dst (N := 2) rfl ?_); (try (refine gate_guard (by rfl) ?_; dsimp only)); refine box_event ?hg (N := 2) ?hd (cs := #[.string ⟨#[]⟩, .bool false, .int .i64 0, .int .i64 0, .string ⟨#[]⟩, .slice none 0 0, .slice none 0 0, .slice none 0 0]) (t := 34) ?hr ?_; (case hd => rfl); (case hg => rfl); (case hr => first | (go_simp; done) | (go_simp; rfl)); intro gb293 hg w2 hbox hb; have n0_ := Aside0.mk (below_step (bl_ HB.out) hb); have n1_ := Aside0.mk (hbox); have n2_ := Aside0.mk ((hg_ hg (bl_ HB.out))); have n3_ := Aside0.mk ((hg_ hg (bl_ HB.out))); clear HB; have HB := n0_; have BK293 := n1_; have GW293 := n2_; have GE293 := n3_; clear n0_ n1_ n2_ n3_; clear hb hbox hg) | ((with_reducible refine gate_dst (N := 5) rfl ?_); (try (refine gate_guard (by rfl) ?_; dsimp only)); refine box_event ?hg (N := 5) ?hd (cs := #[.string ⟨#[]⟩, .bool false, .int .i64 0, .int .i64 0, .string ⟨#[]⟩, .slice none 0 0, .slice none 0 0, .slice none 0 0]) (t := 34) ?hr ?_; (case hd => rfl); (case hg => rfl); (case hr => first | (go_simp; done) | (go_simp; rfl)); intro gb294 hg w3 hbox hb; have n0_ := Aside0.mk (blk_below (g := gb293) (o := .cells #[.string ⟨#[]⟩, .bool false, .int .i64 0, .int .i64 0, .string ⟨#[]⟩, .slice none 0 0, .slice none 0 0, .slice none 0 0] 34 (0, 0)) (kl_ BK293.out) hb); have n1_ := Aside0.mk (below_step (bl_ HB.out) hb); have n2_ := Aside0.mk (hbox); have n3_ := Aside0.mk ((hg_ hg (bl_ HB.out))); have n4_ := Aside0.mk ((hg_ hg (bl_ HB.out))); have n5_ := Aside0.mk ((by rw [hg]; exact Nat.ne_of_lt (blk_lt (g := gb293) (o := .cells #[.string ⟨#[]⟩, .bool false, .int .i64 0, .int .i64 0, .string ⟨#[]⟩, .slice none 0 0, .slice none 0 0, .slice none 0 0] 34 (0, 0)) (kl_ BK293.out)) : gb293 ≠ gb294)); have n6_ := Aside0.mk ((by rw [hg]; exact Nat.ne_of_gt (blk_lt (g := gb293) (o := .cells #[.string ⟨#[]⟩, .bool false, .int .i64 0, .int .i64 0, .string ⟨#[]⟩, .slice none 0 0, .slice none 0 0, .slice none 0 0] 34 (0, 0)) (kl_ BK293.out)) : gb294 ≠ gb293)); clear BK293; clear HB; have BK293 := n0_; have HB := n1_; have BK294 := n2_; have GW294 := n3_; have GE294 := n4_; have NB293_294 := n5_; have NB294_293 := n6_; clear n0_ n1_ n2_ n3_ n4_ n5_ n6_; clear hb hbox hg; have hnb4 := NB294_293.out; have hnc4 := NB293_294.out; obtain ⟨hcz5_0, hcz5_1, hcz5_2, hcz5_3, hcz5_4, hcz5_5, hcz5_6, hcz5_7⟩ := c8_ BK294.out; obtain ⟨hfz5_0, hfz5_1, hfz5_2, hfz5_3, hfz5_4, hfz5_5, hfz5_6, hfz5_7⟩ := f8_ BK294.out))
 go_loopg [0] k (fun kq v0 w' => ∃ (x0_1 : ByteArray) (x294000_1 : ByteArray) (x294001_1 : Bool) (x294002_1 : Int) (x294003_1 : Int) (x294004_1 : ByteArray) (x295006_1 : List (S31)) (u295006 : Value), v0 = .string x0_1 ∧ Aside0 (glacisref06_inner.l0 kq x0_1 (⟨#[]⟩ : ByteArray) true 0 0 (⟨#[]⟩ : ByteArray) x295006_1 = some (r1, r2, r3, r4, r5, r6, r7, r8, r9, r10)) ∧ Aside0 (kq ≤ k) ∧ Aside0 (Kd.S k31 31 w' w.heap.size (fun _ => True) u295006 x295006_1) ∧ Aside0 (w'.heap[gb293]? = some (.cells #[.string x294000_1, .bool x294001_1, .int .i64 x294002_1, .int .i64 x294003_1, .string x294004_1, (.slice none 0 0), (.slice none 0 0), (.slice none 0 0)] 34 (0, 0))) ∧ Aside0 (w'.heap[gb294]? = some (.cells #[.string ⟨#[]⟩, .bool true, .int .i64 0, .int .i64 0, .string ⟨#[]⟩, (.slice none 0 0), u295006, (.slice none 0 0)] 34 (0, 0))) ∧ Aside0 (Below w.heap.size w w'))
 case atStart => exact ⟨(a0), ((⟨#[]⟩ : ByteArray)), (false), (0), (0), ((⟨#[]⟩ : ByteArray)), (([] : List (S31))), (.slice none 0 0), (by first | rfl | simp [*]), H', ⟨Nat.le_refl _⟩, ⟨by first | exact Kd.S_nil _ _ _ _ _ | exact Kd.N_nil _ _ _ _ _ | exact Kd.V_nil _ _ _ _ _ | exact Kd.Q_nil _ _ _ _ _ | exact Kd.R_nil _ _ _ _ _⟩, ⟨by repeat (first | refine blk_far ?_ NB293_294.out _ | exact BK293.out)⟩, ⟨by (repeat refine kq_ ?_); refine blk_put (cs := #[.string ⟨#[]⟩, .bool true, .int .i64 0, .int .i64 0, .string ⟨#[]⟩, .slice none 0 0, .slice none 0 0, .slice none 0 0]) ?_ 7 _ rfl; (repeat refine kq_ ?_); refine blk_put (cs := #[.string ⟨#[]⟩, .bool true, .int .i64 0, .int .i64 0, .string ⟨#[]⟩, .slice none 0 0, .slice none 0 0, .slice none 0 0]) ?_ 6 _ rfl; (repeat refine kq_ ?_); refine blk_put (cs := #[.string ⟨#[]⟩, .bool true, .int .i64 0, .int .i64 0, .string ⟨#[]⟩, .slice none 0 0, .slice none 0 0, .slice none 0 0]) ?_ 5 _ rfl; (repeat refine kq_ ?_); refine blk_put (cs := #[.string ⟨#[]⟩, .bool true, .int .i64 0, .int .i64 0, .string ⟨#[]⟩, .slice none 0 0, .slice none 0 0, .slice none 0 0]) ?_ 4 _ rfl; (repeat refine kq_ ?_); refine blk_put (cs := #[.string ⟨#[]⟩, .bool true, .int .i64 0, .int .i64 0, .string ⟨#[]⟩, .slice none 0 0, .slice none 0 0, .slice none 0 0]) ?_ 3 _ rfl; (repeat refine kq_ ?_); refine blk_put (cs := #[.string ⟨#[]⟩, .bool true, .int .i64 0, .int .i64 0, .string ⟨#[]⟩, .slice none 0 0, .slice none 0 0, .slice none 0 0]) ?_ 2 _ rfl; (repeat refine kq_ ?_); refine blk_put (cs := #[.string ⟨#[]⟩, .bool false, .int .i64 0, .int .i64 0, .string ⟨#[]⟩, .slice none 0 0, .slice none 0 0, .slice none 0 0]) ?_ 1 _ rfl; (repeat refine kq_ ?_); refine blk_put (cs := #[.string ⟨#[]⟩, .bool false, .int .i64 0, .int .i64 0, .string ⟨#[]⟩, .slice none 0 0, .slice none 0 0, .slice none 0 0]) ?_ 0 _ rfl; (repeat refine kq_ ?_); exact BK294.out⟩, ⟨by repeat (first | (with_reducible first | exact HB.out | apply below_alloc | apply pw_below_drewN | apply below_drew1 | refine below_set ?_ GE293.out | refine below_set ?_ GE294.out) | exact HB.out)⟩⟩
 case round =>
  clear H'
  (try clear c1); (try clear p2); (try clear c4); (try clear hcz5_0); (try clear hcz5_1); (try clear hcz5_2); (try clear hcz5_3); (try clear hcz5_4); (try clear hcz5_5); (try clear hcz5_6); (try clear hcz5_7); (try clear hfz5_0); (try clear hfz5_1); (try clear hfz5_2); (try clear hfz5_3); (try clear hfz5_4); (try clear hfz5_5); (try clear hfz5_6); (try clear hfz5_7)
  obtain ⟨x0_1, x294000_1, x294001_1, x294002_1, x294003_1, x294004_1, x295006_1, u295006, rfl, HA, HK1, HO_295006, BK293, BK294, HB⟩ := hrel
  cases gk with
  | zero => exact absurd HA.out (by simp [glacisref06_inner.l0])
  | succ k1 =>
   have H := HA.out
   clear HA
   simp only [glacisref06_inner.l0] at H
   replace H := Option.bind_eq_some_iff.mp H
   obtain ⟨t295, A60, H⟩ := H
   (try dsimp only at H)
   have A6 := Aside0.mk A60
   clear A60
   by_cases c7 : t295.toList = ([] : List UInt8)
   ·rw [if_pos c7] at H
    obtain ⟨c7b0, c7b1⟩ := eT_ c7
    clear c7
    simp only [Option.some.injEq, Prod.mk.injEq] at H
    obtain ⟨rfl, rfl, rfl, rfl, rfl, rfl, rfl, rfl, rfl, rfl⟩ := H
    go_wp2_with (first | ((with_reducible refine gate_callee (f := 73) rfl ?_); refine goesL_ (some 15) rfl rfl Tryz.func73 (by kernel_rfl) rfl #[.string x0_1] rfl (by simp only [List.map_toArray, List.map_cons, List.map_nil] <;> rfl) ?_; (with_reducible refine (glacisref05_Blank.calls k1 x0_1 t295 _ A6.out).mono ?_); rintro e w' ⟨rfl, ⟨nd, rfl⟩⟩; refine ⟨_, rfl, ?_⟩; (try (rw [drewN_self wr]; generalize hq_ : World.drewN wr _ = wr; have l_ := lq_ hq_; have n0_ := Aside0.mk (sl_ (W := wr) HO_295006.out); have n1_ := Aside0.mk (kl_ (W := wr) BK293.out); have n2_ := Aside0.mk (kl_ (W := wr) BK294.out); have n3_ := Aside0.mk (bl_ (W := wr) HB.out); clear HO_295006 BK293 BK294 HB hq_ l_; have HO_295006 := n0_; have BK293 := n1_; have BK294 := n2_; have HB := n3_; clear n0_ n1_ n2_ n3_)); have hnb8 := NB293_294.out; have hnc8 := NB294_293.out; obtain ⟨hcz9_0, hcz9_1, hcz9_2, hcz9_3, hcz9_4, hcz9_5, hcz9_6, hcz9_7⟩ := c8_ BK293.out; obtain ⟨hfz9_0, hfz9_1, hfz9_2, hfz9_3, hfz9_4, hfz9_5, hfz9_6, hfz9_7⟩ := f8_ BK293.out))
    refine bodyPost_ret (results_ctt rfl _ _ gb293 34 #[.string ⟨#[]⟩, .bool false, .int .i64 0, .int .i64 0, .string ⟨#[]⟩, .slice none 0 0, .slice none 0 0, .slice none 0 0] (0, 0) _ rfl (by (repeat refine kq_ ?_); refine blk_put (cs := #[.string ⟨#[]⟩, .bool false, .int .i64 0, .int .i64 0, .string ⟨#[]⟩, .slice none 0 0, .slice none 0 0, .slice none 0 0]) ?_ 7 _ rfl; (repeat refine kq_ ?_); refine blk_put (cs := #[.string ⟨#[]⟩, .bool false, .int .i64 0, .int .i64 0, .string ⟨#[]⟩, .slice none 0 0, .slice none 0 0, .slice none 0 0]) ?_ 6 _ rfl; (repeat refine kq_ ?_); refine blk_put (cs := #[.string ⟨#[]⟩, .bool false, .int .i64 0, .int .i64 0, .string ⟨#[]⟩, .slice none 0 0, .slice none 0 0, .slice none 0 0]) ?_ 5 _ rfl; (repeat refine kq_ ?_); refine blk_put (cs := #[.string ⟨#[]⟩, .bool false, .int .i64 0, .int .i64 0, .string x294004_1, .slice none 0 0, .slice none 0 0, .slice none 0 0]) ?_ 4 _ rfl; (repeat refine kq_ ?_); refine blk_put (cs := #[.string ⟨#[]⟩, .bool false, .int .i64 0, .int .i64 x294003_1, .string x294004_1, .slice none 0 0, .slice none 0 0, .slice none 0 0]) ?_ 3 _ rfl; (repeat refine kq_ ?_); refine blk_put (cs := #[.string ⟨#[]⟩, .bool false, .int .i64 x294002_1, .int .i64 x294003_1, .string x294004_1, .slice none 0 0, .slice none 0 0, .slice none 0 0]) ?_ 2 _ rfl; (repeat refine kq_ ?_); refine blk_put (cs := #[.string ⟨#[]⟩, .bool x294001_1, .int .i64 x294002_1, .int .i64 x294003_1, .string x294004_1, .slice none 0 0, .slice none 0 0, .slice none 0 0]) ?_ 1 _ rfl; (repeat refine kq_ ?_); refine blk_put (cs := #[.string x294000_1, .bool x294001_1, .int .i64 x294002_1, .int .i64 x294003_1, .string x294004_1, .slice none 0 0, .slice none 0 0, .slice none 0 0]) ?_ 0 _ rfl; (repeat refine kq_ ?_); exact BK293.out) Tryz.underlying34 rfl (by kernel_rfl)) rfl ?_
    exact ⟨_, _, _, by first | rfl | simp [*], by first | exact Kd.R_nil _ _ _ _ _ | exact Kd.S_nil _ _ _ _ _, by first | exact Kd.S_nil _ _ _ _ _ | exact Kd.N_nil _ _ _ _ _ | exact Kd.V_nil _ _ _ _ _ | exact Kd.Q_nil _ _ _ _ _ | exact Kd.R_nil _ _ _ _ _, by first | exact Kd.R_nil _ _ _ _ _ | exact Kd.S_nil _ _ _ _ _, by repeat (first | (with_reducible first | exact HB.out | apply below_alloc | apply pw_below_drewN | apply below_drew1 | refine below_set ?_ GE293.out | refine below_set ?_ GE294.out) | exact HB.out)⟩
   ·rw [if_neg c7] at H
    obtain ⟨c7b0, c7b1⟩ := eF_ c7
    by_cases c10 : 0 < (t295.size : Int)
    ·rw [if_pos c10] at H
     have c10b0 : decide (0 < (t295.size : Int)) = true := decide_eq_true c10
     have c10b1 : decide (0 < t295.size) = true := decide_eq_true (by omega)
     clear c10
     by_cases c12 : (bt t295 0) = 41
     ·rw [if_pos c12] at H
      obtain ⟨c12b0, c12b1⟩ := eT_ c12
      clear c12
      by_cases c13 : 1 ≤ (t295.size : Int)
      ·rw [if_pos c13] at H
       have c13b0 := eq_true c13
       have c13b1 : decide (1 ≤ (t295.size : Int)) = true := decide_eq_true c13
       clear c13
       replace H := Option.bind_eq_some_iff.mp H
       obtain ⟨⟨t296, t297, t298⟩, A140, H⟩ := H
       (try dsimp only at H)
       have A14 := Aside0.mk A140
       clear A140
       simp only [Option.some.injEq, Prod.mk.injEq] at H
       obtain ⟨rfl, rfl, rfl, rfl, rfl, rfl, rfl, rfl, rfl, rfl⟩ := H
       go_wp2_with (first | ((with_reducible refine gate_callee (f := 73) rfl ?_); refine goesL_ (some 15) rfl rfl Tryz.func73 (by kernel_rfl) rfl #[.string x0_1] rfl (by simp only [List.map_toArray, List.map_cons, List.map_nil] <;> rfl) ?_; (with_reducible refine (glacisref05_Blank.calls k1 x0_1 t295 _ A6.out).mono ?_); rintro e w' ⟨rfl, ⟨nd, rfl⟩⟩; refine ⟨_, rfl, ?_⟩; (try (rw [drewN_self wr]; generalize hq_ : World.drewN wr _ = wr; have l_ := lq_ hq_; have n0_ := Aside0.mk (sl_ (W := wr) HO_295006.out); have n1_ := Aside0.mk (kl_ (W := wr) BK293.out); have n2_ := Aside0.mk (kl_ (W := wr) BK294.out); have n3_ := Aside0.mk (bl_ (W := wr) HB.out); clear HO_295006 BK293 BK294 HB hq_ l_; have HO_295006 := n0_; have BK293 := n1_; have BK294 := n2_; have HB := n3_; clear n0_ n1_ n2_ n3_)); have p11 : 0 ≤ (0 : Int) := (by omega); have q11 : 0 < t295.size := (by have : (0 : Int) < (t295.size : Int) := of_decide_eq_true (by assumption); omega); have hx11 : ∀ h : 0 < t295.size, ((t295[0]'h).toNat : Int) = bt t295 0 := bt_at t295 0; clear p11; have qi11 : (0 < (t295.size : Int)) = True := eq_true (of_decide_eq_true (by assumption)); replace q11 := eq_true q11) | ((with_reducible refine gate_callee (f := 102) rfl ?_); refine goesL_ (some 25) rfl rfl Tryz.func102 (by kernel_rfl) rfl #[.string (t295.extract 1 t295.size)] rfl (by simp only [List.map_toArray, List.map_cons, List.map_nil] <;> rfl) ?_; (with_reducible refine (glacisref05_Params.calls k1 (t295.extract 1 t295.size) t296 t297 t298 _ A14.out).mono ?_); rintro e w15 ⟨v299, rfl, ho0, hb⟩; refine ⟨_, rfl, ?_⟩; have n0_ := Aside0.mk (Kd.S_elder' (sl_ HO_295006.out) (Kd.R_base ho0) hb); have n1_ := Aside0.mk (Kd.R_lower ho0 (below_size (bl_ HB.out))); have n2_ := Aside0.mk (blk_below (kl_ BK293.out) hb); have n3_ := Aside0.mk (blk_below (g := gb294) (o := .cells #[.string ⟨#[]⟩, .bool true, .int .i64 0, .int .i64 0, .string ⟨#[]⟩, .slice none 0 0, u295006, .slice none 0 0] 34 (0, 0)) (kl_ BK294.out) hb); have n4_ := Aside0.mk (below_step (bl_ HB.out) hb); clear HO_295006; clear BK293; clear BK294; clear HB; have HO_295006 := n0_; have HO300 := n1_; have BK293 := n2_; have BK294 := n3_; have HB := n4_; clear n0_ n1_ n2_ n3_ n4_; (try clear hb); (try clear hb2); (try clear hk); (try clear hi); (try clear ho0); obtain ⟨Ao16, co16, eo16⟩ := Kd.R_slice HO300.out; subst eo16; have hnb17 := NB294_293.out; have hnc17 := NB293_294.out; obtain ⟨hcz18_0, hcz18_1, hcz18_2, hcz18_3, hcz18_4, hcz18_5, hcz18_6, hcz18_7⟩ := c8_ BK294.out; obtain ⟨hfz18_0, hfz18_1, hfz18_2, hfz18_3, hfz18_4, hfz18_5, hfz18_6, hfz18_7⟩ := f8_ BK294.out; obtain ⟨hcz19_0, hcz19_1, hcz19_2, hcz19_3, hcz19_4, hcz19_5, hcz19_6, hcz19_7⟩ := c8_ BK293.out; obtain ⟨hfz19_0, hfz19_1, hfz19_2, hfz19_3, hfz19_4, hfz19_5, hfz19_6, hfz19_7⟩ := f8_ BK293.out; obtain ⟨Ao20, co20, eo20⟩ := Kd.S_slice HO_295006.out; subst eo20))
       refine bodyPost_ret (results_ctt rfl _ _ gb293 34 #[.string ⟨#[]⟩, .bool true, .int .i64 0, .int .i64 0, .string ⟨#[]⟩, .slice none 0 0, .slice Ao20 x295006_1.length co20, .slice Ao16 t296.length co16] (0, 0) _ rfl (by (repeat refine kq_ ?_); refine blk_put (cs := #[.string ⟨#[]⟩, .bool true, .int .i64 0, .int .i64 0, .string ⟨#[]⟩, .slice none 0 0, .slice Ao20 x295006_1.length co20, .slice none 0 0]) ?_ 7 _ rfl; (repeat refine kq_ ?_); refine blk_put (cs := #[.string ⟨#[]⟩, .bool true, .int .i64 0, .int .i64 0, .string ⟨#[]⟩, .slice none 0 0, .slice none 0 0, .slice none 0 0]) ?_ 6 _ rfl; (repeat refine kq_ ?_); refine blk_put (cs := #[.string ⟨#[]⟩, .bool true, .int .i64 0, .int .i64 0, .string ⟨#[]⟩, .slice none 0 0, .slice none 0 0, .slice none 0 0]) ?_ 5 _ rfl; (repeat refine kq_ ?_); refine blk_put (cs := #[.string ⟨#[]⟩, .bool true, .int .i64 0, .int .i64 0, .string x294004_1, .slice none 0 0, .slice none 0 0, .slice none 0 0]) ?_ 4 _ rfl; (repeat refine kq_ ?_); refine blk_put (cs := #[.string ⟨#[]⟩, .bool true, .int .i64 0, .int .i64 x294003_1, .string x294004_1, .slice none 0 0, .slice none 0 0, .slice none 0 0]) ?_ 3 _ rfl; (repeat refine kq_ ?_); refine blk_put (cs := #[.string ⟨#[]⟩, .bool true, .int .i64 x294002_1, .int .i64 x294003_1, .string x294004_1, .slice none 0 0, .slice none 0 0, .slice none 0 0]) ?_ 2 _ rfl; (repeat refine kq_ ?_); refine blk_put (cs := #[.string ⟨#[]⟩, .bool x294001_1, .int .i64 x294002_1, .int .i64 x294003_1, .string x294004_1, .slice none 0 0, .slice none 0 0, .slice none 0 0]) ?_ 1 _ rfl; (repeat refine kq_ ?_); refine blk_put (cs := #[.string x294000_1, .bool x294001_1, .int .i64 x294002_1, .int .i64 x294003_1, .string x294004_1, .slice none 0 0, .slice none 0 0, .slice none 0 0]) ?_ 0 _ rfl; (repeat refine kq_ ?_); refine blk_far ?_ NB293_294.out _; (repeat refine kq_ ?_); exact BK293.out) Tryz.underlying34 rfl (by kernel_rfl)) rfl ?_
       exact ⟨_, _, _, by first | rfl | simp [*], by first | exact Kd.R_nil _ _ _ _ _ | exact Kd.S_nil _ _ _ _ _, by (with_reducible repeat (first | apply Kd.S_alloc | apply Kd.S_drewN | apply Kd.S_drew)); exact Kd.S_mono (Kd.S_far (p := ⟨gb293, 7, none⟩) (Kd.S_far (p := ⟨gb293, 6, none⟩) (Kd.S_far (p := ⟨gb293, 5, none⟩) (Kd.S_far (p := ⟨gb293, 4, none⟩) (Kd.S_far (p := ⟨gb293, 3, none⟩) (Kd.S_far (p := ⟨gb293, 2, none⟩) (Kd.S_far (p := ⟨gb293, 1, none⟩) (Kd.S_far (p := ⟨gb293, 0, none⟩) (Kd.S_far (p := ⟨gb294, 7, none⟩) (Kd.S_types (Kd.S_types HO_295006.out BK294.out (by decide)) BK293.out (by decide)) (fun _ hk => hk.1.2) (.slice Ao16 t296.length co16)) (fun _ hk => hk.2) (.string ⟨#[]⟩)) (fun _ hk => hk.2) (.bool true)) (fun _ hk => hk.2) (.int .i64 0)) (fun _ hk => hk.2) (.int .i64 0)) (fun _ hk => hk.2) (.string ⟨#[]⟩)) (fun _ hk => hk.2) (.slice none 0 0)) (fun _ hk => hk.2) (.slice Ao20 x295006_1.length co20)) (fun _ hk => hk.2) (.slice Ao16 t296.length co16)) (fun _ hk => ⟨(by simp [Value.ownBlock]), hk.1.1.2⟩), by (with_reducible repeat (first | apply Kd.R_alloc | apply Kd.R_drewN | apply Kd.R_drew)); exact Kd.R_mono (Kd.R_far (p := ⟨gb293, 7, none⟩) (Kd.R_far (p := ⟨gb293, 6, none⟩) (Kd.R_far (p := ⟨gb293, 5, none⟩) (Kd.R_far (p := ⟨gb293, 4, none⟩) (Kd.R_far (p := ⟨gb293, 3, none⟩) (Kd.R_far (p := ⟨gb293, 2, none⟩) (Kd.R_far (p := ⟨gb293, 1, none⟩) (Kd.R_far (p := ⟨gb293, 0, none⟩) (Kd.R_far (p := ⟨gb294, 7, none⟩) (Kd.R_types (Kd.R_types HO300.out BK294.out (by decide)) BK293.out (by decide)) (fun _ hk => hk.1.2) (.slice Ao16 t296.length co16)) (fun _ hk => hk.2) (.string ⟨#[]⟩)) (fun _ hk => hk.2) (.bool true)) (fun _ hk => hk.2) (.int .i64 0)) (fun _ hk => hk.2) (.int .i64 0)) (fun _ hk => hk.2) (.string ⟨#[]⟩)) (fun _ hk => hk.2) (.slice none 0 0)) (fun _ hk => hk.2) (.slice Ao20 x295006_1.length co20)) (fun _ hk => hk.2) (.slice Ao16 t296.length co16)) (fun _ hk => (by simp [Value.ownBlock])), by repeat (first | (with_reducible first | exact HB.out | apply below_alloc | apply pw_below_drewN | apply below_drew1 | refine below_set ?_ GE293.out | refine below_set ?_ GE294.out) | exact HB.out)⟩
      ·rw [if_neg c13] at H
       exact absurd H (by simp)
     ·rw [if_neg c12] at H
      obtain ⟨c12b0, c12b1⟩ := eF_ c12
      have HC21 := Aside0.mk H
      clear H
      go_upto_region 9 with (first | ((with_reducible refine gate_callee (f := 73) rfl ?_); refine goesL_ (some 15) rfl rfl Tryz.func73 (by kernel_rfl) rfl #[.string x0_1] rfl (by simp only [List.map_toArray, List.map_cons, List.map_nil] <;> rfl) ?_; (with_reducible refine (glacisref05_Blank.calls k1 x0_1 t295 _ A6.out).mono ?_); rintro e w' ⟨rfl, ⟨nd, rfl⟩⟩; refine ⟨_, rfl, ?_⟩; have p11 : 0 ≤ (0 : Int) := (by omega); have q11 : 0 < t295.size := (by have : (0 : Int) < (t295.size : Int) := of_decide_eq_true (by assumption); omega); have hx11 : ∀ h : 0 < t295.size, ((t295[0]'h).toNat : Int) = bt t295 0 := bt_at t295 0; clear p11; have qi11 : (0 < (t295.size : Int)) = True := eq_true (of_decide_eq_true (by assumption)); replace q11 := eq_true q11))
      (try simp only [Act.put, List.setIfInBounds_toArray, List.set_cons_zero, List.set_cons_succ])
      go_cut [45] (fun v45 wc => ∃ (kq : Nat) (x45_20 : Bool), v45 = .bool x45_20 ∧ Aside0 (glacisref06_inner.j1 kq t295 x45_20 (⟨#[]⟩ : ByteArray) true 0 0 (⟨#[]⟩ : ByteArray) x295006_1 = some (r1, r2, r3, r4, r5, r6, r7, r8, r9, r10)) ∧ Aside0 (kq ≤ k1) ∧ Aside0 (Kd.S k31 31 wc w.heap.size (fun _ => True) u295006 x295006_1) ∧ Aside0 (wc.heap[gb293]? = some (.cells #[.string x294000_1, .bool x294001_1, .int .i64 x294002_1, .int .i64 x294003_1, .string x294004_1, (.slice none 0 0), (.slice none 0 0), (.slice none 0 0)] 34 (0, 0))) ∧ Aside0 (wc.heap[gb294]? = some (.cells #[.string ⟨#[]⟩, .bool true, .int .i64 0, .int .i64 0, .string ⟨#[]⟩, (.slice none 0 0), u295006, (.slice none 0 0)] 34 (0, 0))) ∧ Aside0 (Below w.heap.size w wc))
      case first =>
       have H := HC21.out
       clear HC21
       by_cases c22 : (x295006_1.length : Int) > 0
       ·rw [if_pos c22] at H
        have c22b0 : decide (0 < (x295006_1.length : Int)) = true := decide_eq_true c22
        have c22b1 : decide (0 < x295006_1.length) = true := decide_eq_true (by omega)
        clear c22
        (first | rw [c22b0] | (simp only [i64_w, i32_w]; rw [c22b0]) | skip)
        have H' := Aside0.mk H
        clear H
        have hnb23 := NB294_293.out
        have hnc23 := NB293_294.out
        have hcz24_0 : wr.cell? ⟨gb294, 0, none⟩ = some (.string ⟨#[]⟩) := (blk_cell BK294.out 0).trans rfl
        have hcz24_1 : wr.cell? ⟨gb294, 1, none⟩ = some (.bool true) := (blk_cell BK294.out 1).trans rfl
        have hcz24_2 : wr.cell? ⟨gb294, 2, none⟩ = some (.int .i64 0) := (blk_cell BK294.out 2).trans rfl
        have hcz24_3 : wr.cell? ⟨gb294, 3, none⟩ = some (.int .i64 0) := (blk_cell BK294.out 3).trans rfl
        have hcz24_4 : wr.cell? ⟨gb294, 4, none⟩ = some (.string ⟨#[]⟩) := (blk_cell BK294.out 4).trans rfl
        have hcz24_5 : wr.cell? ⟨gb294, 5, none⟩ = some (.slice none 0 0) := (blk_cell BK294.out 5).trans rfl
        have hcz24_6 : wr.cell? ⟨gb294, 6, none⟩ = some (u295006) := (blk_cell BK294.out 6).trans rfl
        have hcz24_7 : wr.cell? ⟨gb294, 7, none⟩ = some (.slice none 0 0) := (blk_cell BK294.out 7).trans rfl
        have hfz24_0 := blk_frozen BK294.out 0
        have hfz24_1 := blk_frozen BK294.out 1
        have hfz24_2 := blk_frozen BK294.out 2
        have hfz24_3 := blk_frozen BK294.out 3
        have hfz24_4 := blk_frozen BK294.out 4
        have hfz24_5 := blk_frozen BK294.out 5
        have hfz24_6 := blk_frozen BK294.out 6
        have hfz24_7 := blk_frozen BK294.out 7
        obtain ⟨Ao25, co25, eo25⟩ := Kd.S_slice HO_295006.out
        subst eo25
        go_wp2
        go_meet
        case rel => exact ⟨_, (((t295.size : Int) == (x0_1.size : Int))), (by first | rfl | simp [*]), H', ⟨by have := HK1.out; first | omega | exact Nat.le_refl _⟩, ⟨by (with_reducible repeat (first | apply Kd.S_alloc | apply Kd.S_drewN | apply Kd.S_drew)); exact HO_295006.out⟩, ⟨by (repeat refine kq_ ?_); exact BK293.out⟩, ⟨by (repeat refine kq_ ?_); exact BK294.out⟩, ⟨by repeat (first | (with_reducible first | exact HB.out | apply below_alloc | apply pw_below_drewN | apply below_drew1 | refine below_set ?_ GE293.out | refine below_set ?_ GE294.out) | exact HB.out)⟩⟩
       ·rw [if_neg c22] at H
        have c22b0 : decide (0 < (x295006_1.length : Int)) = false := decide_eq_false c22
        have c22b1 : decide (0 < x295006_1.length) = false := decide_eq_false (by omega)
        clear c22
        (first | rw [c22b0] | (simp only [i64_w, i32_w]; rw [c22b0]) | skip)
        have H' := Aside0.mk H
        clear H
        have hnb26 := NB294_293.out
        have hnc26 := NB293_294.out
        have hcz27_0 : wr.cell? ⟨gb294, 0, none⟩ = some (.string ⟨#[]⟩) := (blk_cell BK294.out 0).trans rfl
        have hcz27_1 : wr.cell? ⟨gb294, 1, none⟩ = some (.bool true) := (blk_cell BK294.out 1).trans rfl
        have hcz27_2 : wr.cell? ⟨gb294, 2, none⟩ = some (.int .i64 0) := (blk_cell BK294.out 2).trans rfl
        have hcz27_3 : wr.cell? ⟨gb294, 3, none⟩ = some (.int .i64 0) := (blk_cell BK294.out 3).trans rfl
        have hcz27_4 : wr.cell? ⟨gb294, 4, none⟩ = some (.string ⟨#[]⟩) := (blk_cell BK294.out 4).trans rfl
        have hcz27_5 : wr.cell? ⟨gb294, 5, none⟩ = some (.slice none 0 0) := (blk_cell BK294.out 5).trans rfl
        have hcz27_6 : wr.cell? ⟨gb294, 6, none⟩ = some (u295006) := (blk_cell BK294.out 6).trans rfl
        have hcz27_7 : wr.cell? ⟨gb294, 7, none⟩ = some (.slice none 0 0) := (blk_cell BK294.out 7).trans rfl
        have hfz27_0 := blk_frozen BK294.out 0
        have hfz27_1 := blk_frozen BK294.out 1
        have hfz27_2 := blk_frozen BK294.out 2
        have hfz27_3 := blk_frozen BK294.out 3
        have hfz27_4 := blk_frozen BK294.out 4
        have hfz27_5 := blk_frozen BK294.out 5
        have hfz27_6 := blk_frozen BK294.out 6
        have hfz27_7 := blk_frozen BK294.out 7
        obtain ⟨Ao28, co28, eo28⟩ := Kd.S_slice HO_295006.out
        subst eo28
        go_wp2
        go_meet
        case rel => exact ⟨_, (false), (by first | rfl | simp [*]), H', ⟨by have := HK1.out; first | omega | exact Nat.le_refl _⟩, ⟨by (with_reducible repeat (first | apply Kd.S_alloc | apply Kd.S_drewN | apply Kd.S_drew)); exact HO_295006.out⟩, ⟨by (repeat refine kq_ ?_); exact BK293.out⟩, ⟨by (repeat refine kq_ ?_); exact BK294.out⟩, ⟨by repeat (first | (with_reducible first | exact HB.out | apply below_alloc | apply pw_below_drewN | apply below_drew1 | refine below_set ?_ GE293.out | refine below_set ?_ GE294.out) | exact HB.out)⟩⟩
      case rest =>
       clear HC21
       (try clear c1); (try clear p1); (try clear q1); (try clear hx1); (try clear qi1); (try clear c2); (try clear p2); (try clear c4); (try clear c7); (try clear c7b0); (try clear c7b1); (try clear c8); (try clear c10); (try clear c10b0); (try clear c10b1); (try clear p11); (try clear q11); (try clear hx11); (try clear qi11); (try clear c12); (try clear c12b0); (try clear c12b1); (try clear c13); (try clear c13b0); (try clear c13b1); (try clear c17); (try clear c22); (try clear c22b0); (try clear c22b1); (try clear c23); (try clear c26); (try clear hcz18_0); (try clear hcz18_1); (try clear hcz18_2); (try clear hcz18_3); (try clear hcz18_4); (try clear hcz18_5); (try clear hcz18_6); (try clear hcz18_7); (try clear hcz19_0); (try clear hcz19_1); (try clear hcz19_2); (try clear hcz19_3); (try clear hcz19_4); (try clear hcz19_5); (try clear hcz19_6); (try clear hcz19_7); (try clear hcz24_0); (try clear hcz24_1); (try clear hcz24_2); (try clear hcz24_3); (try clear hcz24_4); (try clear hcz24_5); (try clear hcz24_6); (try clear hcz24_7); (try clear hcz27_0); (try clear hcz27_1); (try clear hcz27_2); (try clear hcz27_3); (try clear hcz27_4); (try clear hcz27_5); (try clear hcz27_6); (try clear hcz27_7); (try clear hcz5_0); (try clear hcz5_1); (try clear hcz5_2); (try clear hcz5_3); (try clear hcz5_4); (try clear hcz5_5); (try clear hcz5_6); (try clear hcz5_7); (try clear hcz9_0); (try clear hcz9_1); (try clear hcz9_2); (try clear hcz9_3); (try clear hcz9_4); (try clear hcz9_5); (try clear hcz9_6); (try clear hcz9_7); (try clear hfz18_0); (try clear hfz18_1); (try clear hfz18_2); (try clear hfz18_3); (try clear hfz18_4); (try clear hfz18_5); (try clear hfz18_6); (try clear hfz18_7); (try clear hfz19_0); (try clear hfz19_1); (try clear hfz19_2); (try clear hfz19_3); (try clear hfz19_4); (try clear hfz19_5); (try clear hfz19_6); (try clear hfz19_7); (try clear hfz24_0); (try clear hfz24_1); (try clear hfz24_2); (try clear hfz24_3); (try clear hfz24_4); (try clear hfz24_5); (try clear hfz24_6); (try clear hfz24_7); (try clear hfz27_0); (try clear hfz27_1); (try clear hfz27_2); (try clear hfz27_3); (try clear hfz27_4); (try clear hfz27_5); (try clear hfz27_6); (try clear hfz27_7); (try clear hfz5_0); (try clear hfz5_1); (try clear hfz5_2); (try clear hfz5_3); (try clear hfz5_4); (try clear hfz5_5); (try clear hfz5_6); (try clear hfz5_7); (try clear hfz9_0); (try clear hfz9_1); (try clear hfz9_2); (try clear hfz9_3); (try clear hfz9_4); (try clear hfz9_5); (try clear hfz9_6); (try clear hfz9_7); (try clear p11); (try clear p2); (try clear q11)
       obtain ⟨kq, x45_20, rfl, HA, HJ20, HO_295006, BK293, BK294, HB⟩ := hcut
       cases kq with
       | zero => exact absurd HA.out (by simp [glacisref06_inner.j1])
       | succ kj20 =>
        have H := HA.out
        clear HA
        simp only [glacisref06_inner.j1] at H
        by_cases c29 : x45_20 = true
        ·subst c29
         rw [if_pos rfl] at H
         simp only [Option.some.injEq, Prod.mk.injEq] at H
         obtain ⟨rfl, rfl, rfl, rfl, rfl, rfl, rfl, rfl, rfl, rfl⟩ := H
         have hnb30 := NB293_294.out
         have hnc30 := NB294_293.out
         have hcz31_0 : wc.cell? ⟨gb293, 0, none⟩ = some (.string x294000_1) := (blk_cell BK293.out 0).trans rfl
         have hcz31_1 : wc.cell? ⟨gb293, 1, none⟩ = some (.bool x294001_1) := (blk_cell BK293.out 1).trans rfl
         have hcz31_2 : wc.cell? ⟨gb293, 2, none⟩ = some (.int .i64 x294002_1) := (blk_cell BK293.out 2).trans rfl
         have hcz31_3 : wc.cell? ⟨gb293, 3, none⟩ = some (.int .i64 x294003_1) := (blk_cell BK293.out 3).trans rfl
         have hcz31_4 : wc.cell? ⟨gb293, 4, none⟩ = some (.string x294004_1) := (blk_cell BK293.out 4).trans rfl
         have hcz31_5 : wc.cell? ⟨gb293, 5, none⟩ = some (.slice none 0 0) := (blk_cell BK293.out 5).trans rfl
         have hcz31_6 : wc.cell? ⟨gb293, 6, none⟩ = some (.slice none 0 0) := (blk_cell BK293.out 6).trans rfl
         have hcz31_7 : wc.cell? ⟨gb293, 7, none⟩ = some (.slice none 0 0) := (blk_cell BK293.out 7).trans rfl
         have hfz31_0 := blk_frozen BK293.out 0
         have hfz31_1 := blk_frozen BK293.out 1
         have hfz31_2 := blk_frozen BK293.out 2
         have hfz31_3 := blk_frozen BK293.out 3
         have hfz31_4 := blk_frozen BK293.out 4
         have hfz31_5 := blk_frozen BK293.out 5
         have hfz31_6 := blk_frozen BK293.out 6
         have hfz31_7 := blk_frozen BK293.out 7
         go_wp2
         refine bodyPost_ret (results_ctt rfl _ _ gb293 34 #[.string ⟨#[]⟩, .bool false, .int .i64 0, .int .i64 0, .string ⟨#[]⟩, .slice none 0 0, .slice none 0 0, .slice none 0 0] (0, 0) _ rfl (by (repeat refine kq_ ?_); refine blk_put (cs := #[.string ⟨#[]⟩, .bool false, .int .i64 0, .int .i64 0, .string ⟨#[]⟩, .slice none 0 0, .slice none 0 0, .slice none 0 0]) ?_ 7 _ rfl; (repeat refine kq_ ?_); refine blk_put (cs := #[.string ⟨#[]⟩, .bool false, .int .i64 0, .int .i64 0, .string ⟨#[]⟩, .slice none 0 0, .slice none 0 0, .slice none 0 0]) ?_ 6 _ rfl; (repeat refine kq_ ?_); refine blk_put (cs := #[.string ⟨#[]⟩, .bool false, .int .i64 0, .int .i64 0, .string ⟨#[]⟩, .slice none 0 0, .slice none 0 0, .slice none 0 0]) ?_ 5 _ rfl; (repeat refine kq_ ?_); refine blk_put (cs := #[.string ⟨#[]⟩, .bool false, .int .i64 0, .int .i64 0, .string x294004_1, .slice none 0 0, .slice none 0 0, .slice none 0 0]) ?_ 4 _ rfl; (repeat refine kq_ ?_); refine blk_put (cs := #[.string ⟨#[]⟩, .bool false, .int .i64 0, .int .i64 x294003_1, .string x294004_1, .slice none 0 0, .slice none 0 0, .slice none 0 0]) ?_ 3 _ rfl; (repeat refine kq_ ?_); refine blk_put (cs := #[.string ⟨#[]⟩, .bool false, .int .i64 x294002_1, .int .i64 x294003_1, .string x294004_1, .slice none 0 0, .slice none 0 0, .slice none 0 0]) ?_ 2 _ rfl; (repeat refine kq_ ?_); refine blk_put (cs := #[.string ⟨#[]⟩, .bool x294001_1, .int .i64 x294002_1, .int .i64 x294003_1, .string x294004_1, .slice none 0 0, .slice none 0 0, .slice none 0 0]) ?_ 1 _ rfl; (repeat refine kq_ ?_); refine blk_put (cs := #[.string x294000_1, .bool x294001_1, .int .i64 x294002_1, .int .i64 x294003_1, .string x294004_1, .slice none 0 0, .slice none 0 0, .slice none 0 0]) ?_ 0 _ rfl; (repeat refine kq_ ?_); exact BK293.out) Tryz.underlying34 rfl (by kernel_rfl)) rfl ?_
         exact ⟨_, _, _, by first | rfl | simp [*], by first | exact Kd.R_nil _ _ _ _ _ | exact Kd.S_nil _ _ _ _ _, by first | exact Kd.S_nil _ _ _ _ _ | exact Kd.N_nil _ _ _ _ _ | exact Kd.V_nil _ _ _ _ _ | exact Kd.Q_nil _ _ _ _ _ | exact Kd.R_nil _ _ _ _ _, by first | exact Kd.R_nil _ _ _ _ _ | exact Kd.S_nil _ _ _ _ _, by repeat (first | (with_reducible first | exact HB.out | apply below_alloc | apply pw_below_drewN | apply below_drew1 | refine below_set ?_ GE293.out | refine below_set ?_ GE294.out) | exact HB.out)⟩
        ·replace c29 := Bool.eq_false_iff.mpr c29
         subst c29
         rw [if_neg (show ¬ (false = true) by decide)] at H
         replace H := Option.bind_eq_some_iff.mp H
         obtain ⟨⟨t301, t302, t303, t304, t307, t308⟩, A320, H⟩ := H
         (try dsimp only at H)
         have A32 := Aside0.mk A320
         clear A320
         by_cases c33 : t308 = 0
         ·rw [if_pos c33] at H
          obtain ⟨c33b0, c33b1⟩ := eT_ c33
          clear c33
          by_cases c34 : x295006_1.length < 2513169434916
          ·rw [if_pos c34] at H
           have LMc34 := Aside0.mk c34
           clear c34
           obtain ⟨y310, hy310⟩ : ∃ y_ : List (S31), y_ = (x295006_1 ++ [(⟨t301, t302, t303, t304⟩ : S31)]) := ⟨_, rfl⟩
           replace H : (glacisref06_inner.l0 kj20 t307 (⟨#[]⟩ : ByteArray) true 0 0 (⟨#[]⟩ : ByteArray) y310) = some (r1, r2, r3, r4, r5, r6, r7, r8, r9, r10) := by first | (rw [hy310]; with_reducible exact H) | (have H2_ := (Option.bind_some _ _).symm.trans H; rw [hy310]; with_reducible exact H2_) | (have H2_ := (Option.bind_some _ _).symm.trans H; with_reducible exact H2_) | with_reducible exact H | (rw [hy310]; exact H) | exact H
           have Ny310 := Aside0.mk hy310
           clear hy310
           have H' := Aside0.mk H
           clear H
           go_wp2_with (first | ((with_reducible refine gate_callee (f := 104) rfl ?_); refine goesL_ (some 49) rfl rfl Tryz.func104 (by kernel_rfl) rfl #[.string t295] rfl (by simp only [List.map_toArray, List.map_cons, List.map_nil] <;> rfl) ?_; (with_reducible refine (glacisref05_Next.calls kj20 t295 t301 t302 t303 t304 t307 t308 _ A32.out).mono ?_); rintro e w35 ⟨v305, rfl, ho0, hb⟩; refine ⟨_, rfl, ?_⟩; have n0_ := Aside0.mk (Kd.S_elder' (sl_ HO_295006.out) (Kd.R_base ho0) hb); have n1_ := Aside0.mk (Kd.R_lower ho0 (below_size (bl_ HB.out))); have n2_ := Aside0.mk (blk_below (kl_ BK293.out) hb); have n3_ := Aside0.mk (blk_below (g := gb294) (o := .cells #[.string ⟨#[]⟩, .bool true, .int .i64 0, .int .i64 0, .string ⟨#[]⟩, .slice none 0 0, u295006, .slice none 0 0] 34 (0, 0)) (kl_ BK294.out) hb); have n4_ := Aside0.mk (below_step (bl_ HB.out) hb); clear HO_295006; clear BK293; clear BK294; clear HB; have HO_295006 := n0_; have HO306 := n1_; have BK293 := n2_; have BK294 := n3_; have HB := n4_; clear n0_ n1_ n2_ n3_ n4_; (try clear hb); (try clear hb2); (try clear hk); (try clear hi); (try clear ho0)) | ((with_reducible refine gate_dst (N := 10) rfl ?_); (try (refine gate_guard (by rfl) ?_; dsimp only)); refine box_event ?hg (N := 10) ?hd (cs := #[.int .i64 0, .int .i64 0, .string ⟨#[]⟩, .slice none 0 0]) (t := 31) ?hr ?_; (case hd => rfl); (case hg => rfl); (case hr => first | (go_simp; done) | (go_simp; rfl)); intro gb309 hg w36 hbox hb; have n0_ := Aside0.mk (Kd.S_below (Kd.S_elderB (sl_ HO_295006.out) gb309 (Nat.le_of_eq hg.symm)) hb); have n1_ := Aside0.mk (Kd.R_below (rl_ HO306.out) hb); have n2_ := Aside0.mk (blk_below (kl_ BK293.out) hb); have n3_ := Aside0.mk (blk_below (g := gb294) (o := .cells #[.string ⟨#[]⟩, .bool true, .int .i64 0, .int .i64 0, .string ⟨#[]⟩, .slice none 0 0, u295006, .slice none 0 0] 34 (0, 0)) (kl_ BK294.out) hb); have n4_ := Aside0.mk (below_step (bl_ HB.out) hb); have n5_ := Aside0.mk (hbox); have n6_ := Aside0.mk ((hg_ hg (bl_ HB.out))); have n7_ := Aside0.mk ((hg_ hg (bl_ HB.out))); have n8_ := Aside0.mk ((by rw [hg]; exact Nat.ne_of_lt (blk_lt (kl_ BK293.out)) : gb293 ≠ gb309)); have n9_ := Aside0.mk ((by rw [hg]; exact Nat.ne_of_gt (blk_lt (kl_ BK293.out)) : gb309 ≠ gb293)); have n10_ := Aside0.mk ((by rw [hg]; exact Nat.ne_of_lt (blk_lt (g := gb294) (o := .cells #[.string ⟨#[]⟩, .bool true, .int .i64 0, .int .i64 0, .string ⟨#[]⟩, .slice none 0 0, u295006, .slice none 0 0] 34 (0, 0)) (kl_ BK294.out)) : gb294 ≠ gb309)); have n11_ := Aside0.mk ((by rw [hg]; exact Nat.ne_of_gt (blk_lt (g := gb294) (o := .cells #[.string ⟨#[]⟩, .bool true, .int .i64 0, .int .i64 0, .string ⟨#[]⟩, .slice none 0 0, u295006, .slice none 0 0] 34 (0, 0)) (kl_ BK294.out)) : gb309 ≠ gb294)); clear HO_295006; clear HO306; clear BK293; clear BK294; clear HB; have HO_295006 := n0_; have HO306 := n1_; have BK293 := n2_; have BK294 := n3_; have HB := n4_; have BK309 := n5_; have GW309 := n6_; have GE309 := n7_; have NB293_309 := n8_; have NB309_293 := n9_; have NB294_309 := n10_; have NB309_294 := n11_; clear n0_ n1_ n2_ n3_ n4_ n5_ n6_ n7_ n8_ n9_ n10_ n11_; clear hb hbox hg; have hnb37 := NB309_293.out; have hnc37 := NB293_309.out; have hnb38 := NB309_294.out; have hnc38 := NB294_309.out; obtain ⟨hcz39_0, hcz39_1, hcz39_2, hcz39_3⟩ := c4_ BK309.out; obtain ⟨hfz39_0, hfz39_1, hfz39_2, hfz39_3⟩ := f4_ BK309.out; obtain ⟨Ao40, co40, eo40⟩ := Kd.R_slice HO306.out; subst eo40) | ((with_reducible refine gate_store (t := 31) (p := 10) rfl ?_); refine store_event (t := 31) (p := 10) (v := ?vo_w41) (w1 := ((((w36.setCell ⟨gb309, 0, none⟩ (.int .i64 t301)).setCell ⟨gb309, 1, none⟩ (.int .i64 t302)).setCell ⟨gb309, 2, none⟩ (.string t303)).setCell ⟨gb309, 3, none⟩ (.slice Ao40 t304.length co40))) ?hg ?ho ?hn ?hr ?_; (case ho => rfl); (case hg => rfl); (case hn => rfl); (case hr => first | (go_simp; done) | (go_simp; rfl)); intro w41 hw; have n0_ : Aside0 (Kd.S k31 31 w41 w.heap.size (fun k_ => some k_ ≠ (.slice Ao40 t304.length co40 : Value).ownBlock ∧ k_ ≠ gb309) u295006 x295006_1) := ⟨(by rw [hw]; exact (by (with_reducible repeat (first | apply Kd.S_alloc | apply Kd.S_drewN | apply Kd.S_drew)); exact Kd.S_mono (Kd.S_far (p := ⟨gb309, 3, none⟩) (Kd.S_far (p := ⟨gb309, 2, none⟩) (Kd.S_far (p := ⟨gb309, 1, none⟩) (Kd.S_far (p := ⟨gb309, 0, none⟩) (Kd.S_mono HO_295006.out (fun k_ hk => (⟨hk, hk.2⟩ : _ ∧ k_ ≠ gb309))) (fun _ hk => hk.2) (.int .i64 t301)) (fun _ hk => hk.2) (.int .i64 t302)) (fun _ hk => hk.2) (.string t303)) (fun _ hk => hk.2) (.slice Ao40 t304.length co40)) (fun _ hk => ⟨hk.1.1.2, hk.1.2⟩)))⟩; have n1_ : Aside0 (Kd.R k60 60 w41 w.heap.size (fun _ => True) (.slice Ao40 t304.length co40) t304) := ⟨(by rw [hw]; exact (by (with_reducible repeat (first | apply Kd.R_alloc | apply Kd.R_drewN | apply Kd.R_drew)); exact Kd.R_mono (Kd.R_far (p := ⟨gb309, 3, none⟩) (Kd.R_far (p := ⟨gb309, 2, none⟩) (Kd.R_far (p := ⟨gb309, 1, none⟩) (Kd.R_far (p := ⟨gb309, 0, none⟩) (Kd.R_types HO306.out BK309.out (by decide)) (fun _ hk => hk.2) (.int .i64 t301)) (fun _ hk => hk.2) (.int .i64 t302)) (fun _ hk => hk.2) (.string t303)) (fun _ hk => hk.2) (.slice Ao40 t304.length co40)) (fun _ hk => trivial)))⟩; have n2_ : Aside0 (w41.heap[gb293]? = some (.cells #[.string x294000_1, .bool x294001_1, .int .i64 x294002_1, .int .i64 x294003_1, .string x294004_1, .slice none 0 0, .slice none 0 0, .slice none 0 0] 34 (0, 0))) := ⟨(by rw [hw]; exact (by repeat (first | refine blk_far ?_ NB293_309.out _ | exact BK293.out)))⟩; have n3_ : Aside0 (w41.heap[gb294]? = some (.cells #[.string ⟨#[]⟩, .bool true, .int .i64 0, .int .i64 0, .string ⟨#[]⟩, .slice none 0 0, u295006, .slice none 0 0] 34 (0, 0))) := ⟨(by rw [hw]; exact (by repeat (first | refine blk_far ?_ NB294_309.out _ | exact BK294.out)))⟩; have n4_ : Aside0 (w41.heap[gb309]? = some (.cells #[.int .i64 t301, .int .i64 t302, .string t303, .slice Ao40 t304.length co40] 31 (0, 0))) := ⟨(by rw [hw]; exact (by (repeat refine kq_ ?_); refine blk_put (cs := #[.int .i64 t301, .int .i64 t302, .string t303, .slice none 0 0]) ?_ 3 _ rfl; (repeat refine kq_ ?_); refine blk_put (cs := #[.int .i64 t301, .int .i64 t302, .string ⟨#[]⟩, .slice none 0 0]) ?_ 2 _ rfl; (repeat refine kq_ ?_); refine blk_put (cs := #[.int .i64 t301, .int .i64 0, .string ⟨#[]⟩, .slice none 0 0]) ?_ 1 _ rfl; (repeat refine kq_ ?_); refine blk_put (cs := #[.int .i64 0, .int .i64 0, .string ⟨#[]⟩, .slice none 0 0]) ?_ 0 _ rfl; (repeat refine kq_ ?_); exact BK309.out))⟩; have n5_ : Aside0 (Below w.heap.size w w41) := ⟨(by rw [hw]; exact (by repeat (first | (with_reducible first | exact HB.out | apply below_alloc | apply pw_below_drewN | apply below_drew1 | refine below_set ?_ GE293.out | refine below_set ?_ GE294.out | refine below_set ?_ GE309.out) | exact HB.out)))⟩; clear hw; clear HO_295006; clear HO306; clear BK293; clear BK294; clear BK309; clear HB; have HO_295006 := n0_; have HO306 := n1_; have BK293 := n2_; have BK294 := n3_; have BK309 := n4_; have HB := n5_; clear n0_ n1_ n2_ n3_ n4_ n5_; have hnb42 := NB294_293.out; have hnc42 := NB293_294.out; obtain ⟨hcz43_0, hcz43_1, hcz43_2, hcz43_3, hcz43_4, hcz43_5, hcz43_6, hcz43_7⟩ := c8_ BK294.out; obtain ⟨hfz43_0, hfz43_1, hfz43_2, hfz43_3, hfz43_4, hfz43_5, hfz43_6, hfz43_7⟩ := f8_ BK294.out; obtain ⟨hcz44_0, hcz44_1, hcz44_2, hcz44_3⟩ := c4_ BK309.out; obtain ⟨hfz44_0, hfz44_1, hfz44_2, hfz44_3⟩ := f4_ BK309.out) | ((with_reducible refine gate_builtin (b := .append) (xs := #[.tmp 57, .tmp 59]) rfl ?_); (try (refine gate_guard (by rfl) ?_; dsimp only)); at_builtin; refine Kd.S_append k31 (w0 := w) w.heap.size rfl (.tmp 57) (.tmp 59) 32 31 (.agg #[(.int .i64 0), (.int .i64 0), (.string ⟨#[]⟩), (.slice none 0 0)]) 56 rfl Tryz.underlying32 info31 rfl (by decide) (by omega) u295006 x295006_1 (⟨t301, t302, t303, t304⟩ : S31) [.int .i64 t301, .int .i64 t302, .string t303, .slice Ao40 t304.length co40] (fun k_ => k_ ≠ gb309) (fun k_ => some k_ = (.slice Ao40 t304.length co40 : Value).ownBlock) rfl rfl ?aP (fun k_ hk_ => ((Kd.R_mono (ok' := fun k_ => ((fun k_ => k_ ≠ gb309)) k_ ∧ some k_ ≠ (u295006 : Value).ownBlock) (Kd.R_types (Kd.R_apart' (HO306.out) (Kd.S_typed HO_295006.out) (by decide)) BK309.out (by decide)) (fun k_ hk => ⟨hk.2, hk.1.2⟩))).1 k_ hk_.symm) ?aF ?aO ?aB ?aS ?aL ?_; (case aP => exact k31_mkM _ _ _ (⟨t301, t302, t303, t304⟩ : S31) (Kd.R_mono (Kd.R_tight rfl (Kd.R_mono (ok' := fun k_ => ((fun k_ => k_ ≠ gb309)) k_ ∧ some k_ ≠ (u295006 : Value).ownBlock) (Kd.R_types (Kd.R_apart' (HO306.out) (Kd.S_typed HO_295006.out) (by decide)) BK309.out (by decide)) (fun k_ hk => ⟨hk.2, hk.1.2⟩))) (fun _ h_ => h_))); (case aB => exact (bl_ HB.out)); (case aF => exact (fun k_ hk => Kd.freshB (kl_ BK309.out) k_ hk)); (case aO => exact (by (with_reducible repeat (first | apply Kd.S_alloc | apply Kd.S_drewN | apply Kd.S_drew)); exact Kd.S_mono HO_295006.out (fun k_ hk => ⟨hk.2, fun e_ => hk.1 e_⟩))); (case aS => exact (below_size (bl_ HB.out))); (case aL => have := LMc34.out; omega); intro v311 w45 ho hb hg hat; rw [← Ny310.out] at ho; have n0_ := Aside0.mk (blk_grown (kl_ BK293.out) hg (Kd.S_ne HO_295006.out BK293.out (by decide))); have n1_ := Aside0.mk (blk_grown (g := gb294) (o := .cells #[.string ⟨#[]⟩, .bool true, .int .i64 0, .int .i64 0, .string ⟨#[]⟩, .slice none 0 0, u295006, .slice none 0 0] 34 (0, 0)) (kl_ BK294.out) hg (Kd.S_ne HO_295006.out BK294.out (by decide))); have n2_ := Aside0.mk (blk_grown (kl_ BK309.out) hg (Kd.S_away HO_295006.out (fun _ hk => hk.2))); have n3_ := Aside0.mk (hb); have n4_ := Aside0.mk (ho); clear BK293; clear BK294; clear BK309; clear HB; clear HO_295006; clear HO306; have BK293 := n0_; have BK294 := n1_; have BK309 := n2_; have HB := n3_; have HO312 := n4_; clear n0_ n1_ n2_ n3_ n4_; clear ho hb hg hat; obtain ⟨Ao46, co46, eo46⟩ := Kd.S_slice HO312.out; subst eo46; obtain ⟨hcz47_0, hcz47_1, hcz47_2, hcz47_3, hcz47_4, hcz47_5, hcz47_6, hcz47_7⟩ := c8_ BK294.out; obtain ⟨hfz47_0, hfz47_1, hfz47_2, hfz47_3, hfz47_4, hfz47_5, hfz47_6, hfz47_7⟩ := f8_ BK294.out))
           go_roundg kj20
           case measure => have := HK1.out; have := HJ20.out; omega
           case rel => exact ⟨(t307), (x294000_1), (x294001_1), (x294002_1), (x294003_1), (x294004_1), (y310), (.slice Ao46 y310.length co46), (by first | rfl | simp [*]), H', ⟨by have := HK1.out; have := HJ20.out; omega⟩, ⟨by (with_reducible repeat (first | apply Kd.S_alloc | apply Kd.S_drewN | apply Kd.S_drew)); exact Kd.S_mono (Kd.S_far (p := ⟨gb294, 6, none⟩) (Kd.S_types HO312.out BK294.out (by decide)) (fun _ hk => hk.2) (.slice Ao46 y310.length co46)) (fun _ hk => trivial)⟩, ⟨by (repeat refine kq_ ?_); refine blk_far ?_ NB293_294.out _; (repeat refine kq_ ?_); exact BK293.out⟩, ⟨by (repeat refine kq_ ?_); refine blk_put (cs := #[.string ⟨#[]⟩, .bool true, .int .i64 0, .int .i64 0, .string ⟨#[]⟩, .slice none 0 0, u295006, .slice none 0 0]) ?_ 6 _ rfl; (repeat refine kq_ ?_); exact BK294.out⟩, ⟨by repeat (first | (with_reducible first | exact HB.out | apply below_alloc | apply pw_below_drewN | apply below_drew1 | refine below_set ?_ GE293.out | refine below_set ?_ GE294.out | refine below_set ?_ GE309.out) | exact HB.out)⟩⟩
          ·rw [if_neg c34] at H
           exact absurd H (by simp)
         ·rw [if_neg c33] at H
          obtain ⟨c33b0, c33b1⟩ := eF_ c33
          simp only [Option.some.injEq, Prod.mk.injEq] at H
          obtain ⟨rfl, rfl, rfl, rfl, rfl, rfl, rfl, rfl, rfl, rfl⟩ := H
          go_wp2_with (first | ((with_reducible refine gate_callee (f := 104) rfl ?_); refine goesL_ (some 49) rfl rfl Tryz.func104 (by kernel_rfl) rfl #[.string t295] rfl (by simp only [List.map_toArray, List.map_cons, List.map_nil] <;> rfl) ?_; (with_reducible refine (glacisref05_Next.calls kj20 t295 t301 t302 t303 t304 t307 t308 _ A32.out).mono ?_); rintro e w48 ⟨v305, rfl, ho0, hb⟩; refine ⟨_, rfl, ?_⟩; have n0_ := Aside0.mk (Kd.S_elder' (sl_ HO_295006.out) (Kd.R_base ho0) hb); have n1_ := Aside0.mk (Kd.R_lower ho0 (below_size (bl_ HB.out))); have n2_ := Aside0.mk (blk_below (kl_ BK293.out) hb); have n3_ := Aside0.mk (blk_below (g := gb294) (o := .cells #[.string ⟨#[]⟩, .bool true, .int .i64 0, .int .i64 0, .string ⟨#[]⟩, .slice none 0 0, u295006, .slice none 0 0] 34 (0, 0)) (kl_ BK294.out) hb); have n4_ := Aside0.mk (below_step (bl_ HB.out) hb); clear HO_295006; clear BK293; clear BK294; clear HB; have HO_295006 := n0_; have HO306 := n1_; have BK293 := n2_; have BK294 := n3_; have HB := n4_; clear n0_ n1_ n2_ n3_ n4_; (try clear hb); (try clear hb2); (try clear hk); (try clear hi); (try clear ho0)) | ((with_reducible refine gate_dst (N := 10) rfl ?_); (try (refine gate_guard (by rfl) ?_; dsimp only)); refine box_event ?hg (N := 10) ?hd (cs := #[.int .i64 0, .int .i64 0, .string ⟨#[]⟩, .slice none 0 0]) (t := 31) ?hr ?_; (case hd => rfl); (case hg => rfl); (case hr => first | (go_simp; done) | (go_simp; rfl)); intro gb309 hg w49 hbox hb; have n0_ := Aside0.mk (Kd.S_below (Kd.S_elderB (sl_ HO_295006.out) gb309 (Nat.le_of_eq hg.symm)) hb); have n1_ := Aside0.mk (Kd.R_below (rl_ HO306.out) hb); have n2_ := Aside0.mk (blk_below (kl_ BK293.out) hb); have n3_ := Aside0.mk (blk_below (g := gb294) (o := .cells #[.string ⟨#[]⟩, .bool true, .int .i64 0, .int .i64 0, .string ⟨#[]⟩, .slice none 0 0, u295006, .slice none 0 0] 34 (0, 0)) (kl_ BK294.out) hb); have n4_ := Aside0.mk (below_step (bl_ HB.out) hb); have n5_ := Aside0.mk (hbox); have n6_ := Aside0.mk ((hg_ hg (bl_ HB.out))); have n7_ := Aside0.mk ((hg_ hg (bl_ HB.out))); have n8_ := Aside0.mk ((by rw [hg]; exact Nat.ne_of_lt (blk_lt (kl_ BK293.out)) : gb293 ≠ gb309)); have n9_ := Aside0.mk ((by rw [hg]; exact Nat.ne_of_gt (blk_lt (kl_ BK293.out)) : gb309 ≠ gb293)); have n10_ := Aside0.mk ((by rw [hg]; exact Nat.ne_of_lt (blk_lt (g := gb294) (o := .cells #[.string ⟨#[]⟩, .bool true, .int .i64 0, .int .i64 0, .string ⟨#[]⟩, .slice none 0 0, u295006, .slice none 0 0] 34 (0, 0)) (kl_ BK294.out)) : gb294 ≠ gb309)); have n11_ := Aside0.mk ((by rw [hg]; exact Nat.ne_of_gt (blk_lt (g := gb294) (o := .cells #[.string ⟨#[]⟩, .bool true, .int .i64 0, .int .i64 0, .string ⟨#[]⟩, .slice none 0 0, u295006, .slice none 0 0] 34 (0, 0)) (kl_ BK294.out)) : gb309 ≠ gb294)); clear HO_295006; clear HO306; clear BK293; clear BK294; clear HB; have HO_295006 := n0_; have HO306 := n1_; have BK293 := n2_; have BK294 := n3_; have HB := n4_; have BK309 := n5_; have GW309 := n6_; have GE309 := n7_; have NB293_309 := n8_; have NB309_293 := n9_; have NB294_309 := n10_; have NB309_294 := n11_; clear n0_ n1_ n2_ n3_ n4_ n5_ n6_ n7_ n8_ n9_ n10_ n11_; clear hb hbox hg; have hnb50 := NB309_293.out; have hnc50 := NB293_309.out; have hnb51 := NB309_294.out; have hnc51 := NB294_309.out; obtain ⟨hcz52_0, hcz52_1, hcz52_2, hcz52_3⟩ := c4_ BK309.out; obtain ⟨hfz52_0, hfz52_1, hfz52_2, hfz52_3⟩ := f4_ BK309.out; obtain ⟨Ao53, co53, eo53⟩ := Kd.R_slice HO306.out; subst eo53; have hnb54 := NB293_294.out; have hnc54 := NB294_293.out; obtain ⟨hcz55_0, hcz55_1, hcz55_2, hcz55_3, hcz55_4, hcz55_5, hcz55_6, hcz55_7⟩ := c8_ BK293.out; obtain ⟨hfz55_0, hfz55_1, hfz55_2, hfz55_3, hfz55_4, hfz55_5, hfz55_6, hfz55_7⟩ := f8_ BK293.out))
          refine bodyPost_ret (results_ctt rfl _ _ gb293 34 #[.string ⟨#[]⟩, .bool false, .int .i64 0, .int .i64 0, .string ⟨#[]⟩, .slice none 0 0, .slice none 0 0, .slice none 0 0] (0, 0) _ rfl (by (repeat refine kq_ ?_); refine blk_put (cs := #[.string ⟨#[]⟩, .bool false, .int .i64 0, .int .i64 0, .string ⟨#[]⟩, .slice none 0 0, .slice none 0 0, .slice none 0 0]) ?_ 7 _ rfl; (repeat refine kq_ ?_); refine blk_put (cs := #[.string ⟨#[]⟩, .bool false, .int .i64 0, .int .i64 0, .string ⟨#[]⟩, .slice none 0 0, .slice none 0 0, .slice none 0 0]) ?_ 6 _ rfl; (repeat refine kq_ ?_); refine blk_put (cs := #[.string ⟨#[]⟩, .bool false, .int .i64 0, .int .i64 0, .string ⟨#[]⟩, .slice none 0 0, .slice none 0 0, .slice none 0 0]) ?_ 5 _ rfl; (repeat refine kq_ ?_); refine blk_put (cs := #[.string ⟨#[]⟩, .bool false, .int .i64 0, .int .i64 0, .string x294004_1, .slice none 0 0, .slice none 0 0, .slice none 0 0]) ?_ 4 _ rfl; (repeat refine kq_ ?_); refine blk_put (cs := #[.string ⟨#[]⟩, .bool false, .int .i64 0, .int .i64 x294003_1, .string x294004_1, .slice none 0 0, .slice none 0 0, .slice none 0 0]) ?_ 3 _ rfl; (repeat refine kq_ ?_); refine blk_put (cs := #[.string ⟨#[]⟩, .bool false, .int .i64 x294002_1, .int .i64 x294003_1, .string x294004_1, .slice none 0 0, .slice none 0 0, .slice none 0 0]) ?_ 2 _ rfl; (repeat refine kq_ ?_); refine blk_put (cs := #[.string ⟨#[]⟩, .bool x294001_1, .int .i64 x294002_1, .int .i64 x294003_1, .string x294004_1, .slice none 0 0, .slice none 0 0, .slice none 0 0]) ?_ 1 _ rfl; (repeat refine kq_ ?_); refine blk_put (cs := #[.string x294000_1, .bool x294001_1, .int .i64 x294002_1, .int .i64 x294003_1, .string x294004_1, .slice none 0 0, .slice none 0 0, .slice none 0 0]) ?_ 0 _ rfl; repeat (first | refine blk_far ?_ NB293_309.out _ | exact BK293.out)) Tryz.underlying34 rfl (by kernel_rfl)) rfl ?_
          exact ⟨_, _, _, by first | rfl | simp [*], by first | exact Kd.R_nil _ _ _ _ _ | exact Kd.S_nil _ _ _ _ _, by first | exact Kd.S_nil _ _ _ _ _ | exact Kd.N_nil _ _ _ _ _ | exact Kd.V_nil _ _ _ _ _ | exact Kd.Q_nil _ _ _ _ _ | exact Kd.R_nil _ _ _ _ _, by first | exact Kd.R_nil _ _ _ _ _ | exact Kd.S_nil _ _ _ _ _, by repeat (first | (with_reducible first | exact HB.out | apply below_alloc | apply pw_below_drewN | apply below_drew1 | refine below_set ?_ GE293.out | refine below_set ?_ GE294.out | refine below_set ?_ GE309.out) | exact HB.out)⟩
    ·rw [if_neg c10] at H
     exact absurd H (by simp)
def glacisref06_member.j0 : Nat → ByteArray → Bool → Option (ByteArray × Bool × Int × Int × ByteArray × (List (S60)) × (List (S31)) × (List (S60)) × ByteArray × Bool)
 | 0, _, _ => none
 | k + 1, x0, x15 => if x15 = true then (if 1 ≤ (x0.size : Int) then ((glacisref06_inner.f k (x0.extract 1 x0.size)).bind fun bt314 => (some (bt314.1, bt314.2.1, bt314.2.2.1, bt314.2.2.2.1, bt314.2.2.2.2.1, bt314.2.2.2.2.2.1, bt314.2.2.2.2.2.2.1, bt314.2.2.2.2.2.2.2.1, bt314.2.2.2.2.2.2.2.2.1, bt314.2.2.2.2.2.2.2.2.2))) else (none)) else ((glacisref05_Next.f k x0).bind fun bt330 => (some ((⟨#[]⟩ : ByteArray), false, bt330.1, bt330.2.1, bt330.2.2.1, bt330.2.2.2.1, ([] : List (S31)), ([] : List (S60)), bt330.2.2.2.2.1, (bt330.2.2.2.2.2 == 0))))
def glacisref06_member.f (k : Nat) (a0 : ByteArray) : Option (ByteArray × Bool × Int × Int × ByteArray × (List (S60)) × (List (S31)) × (List (S60)) × ByteArray × Bool) := if (a0.size : Int) > 0 then (if 0 < (a0.size : Int) then (glacisref06_member.j0 k a0 ((bt a0 0) == 40)) else (none)) else (glacisref06_member.j0 k a0 false)
theorem glacisref06_member.calls (k : Nat) (a0 : ByteArray) (r1 : ByteArray) (r2 : Bool) (r3 : Int) (r4 : Int) (r5 : ByteArray) (r6 : List (S60)) (r7 : List (S31)) (r8 : List (S60)) (r9 : ByteArray) (r10 : Bool) (w : World) (h : glacisref06_member.f k a0 = some (r1, r2, r3, r4, r5, r6, r7, r8, r9, r10)) :
  Calls Tryz.prog 75 #[.string a0] w fun e w' => ∃ v5_ v6_ v7_ : Value, e = .returned (.tuple #[.agg #[.string r1, .bool r2, .int .i64 r3, .int .i64 r4, .string r5, v5_, v6_, v7_], .string r9, .bool r10]) ∧ Kd.R k60 60 w' w.heap.size (fun k_ => some k_ ≠ (v7_ : Value).ownBlock) v5_ r6 ∧ Kd.S k31 31 w' w.heap.size (fun k_ => some k_ ≠ (v5_ : Value).ownBlock ∧ some k_ ≠ (v7_ : Value).ownBlock) v6_ r7 ∧ Kd.R k60 60 w' w.heap.size (fun k_ => some k_ ≠ (v5_ : Value).ownBlock) v7_ r8 ∧ Below w.heap.size w w' := by
 have hu34 := Tryz.underlying34
 have hu31 := Tryz.underlying31
 have HB := Aside0.mk (Below.refl w.heap.size w)
 have H : (if (a0.size : Int) > 0 then (if 0 < (a0.size : Int) then (glacisref06_member.j0 k a0 ((bt a0 0) == 40)) else (none)) else (glacisref06_member.j0 k a0 false)) = some (r1, r2, r3, r4, r5, r6, r7, r8, r9, r10) := h
 clear h
 have HC2 := Aside0.mk H
 clear H
 go_enter Tryz.func75, Tryz.ntmps75
 go_upto_region 1 with (first | ((with_reducible refine gate_dst (N := 2) rfl ?_); refine box_event ?hg (N := 2) ?hd (cs := #[.string ⟨#[]⟩, .bool false, .int .i64 0, .int .i64 0, .string ⟨#[]⟩, .slice none 0 0, .slice none 0 0, .slice none 0 0]) (t := 34) ?hr ?_; (case hd => rfl); (case hg => rfl); (case hr => first | (go_simp; done) | (go_simp; rfl)); intro gb313 hg w3 hbox hb; have n0_ := Aside0.mk (below_step (bl_ HB.out) hb); have n1_ := Aside0.mk (hbox); have n2_ := Aside0.mk ((hg_ hg (bl_ HB.out))); have n3_ := Aside0.mk ((hg_ hg (bl_ HB.out))); clear HB; have HB := n0_; have BK313 := n1_; have GW313 := n2_; have GE313 := n3_; clear n0_ n1_ n2_ n3_; clear hb hbox hg))
 (try simp only [Act.put, List.setIfInBounds_toArray, List.set_cons_zero, List.set_cons_succ])
 go_cut [15] (fun v15 wc => ∃ (kq : Nat) (x15_1 : Bool), v15 = .bool x15_1 ∧ Aside0 (glacisref06_member.j0 kq a0 x15_1 = some (r1, r2, r3, r4, r5, r6, r7, r8, r9, r10)) ∧ Aside0 (kq ≤ k) ∧ Aside0 (wc.heap[gb313]? = some (.cells #[.string ⟨#[]⟩, .bool false, .int .i64 0, .int .i64 0, .string ⟨#[]⟩, (.slice none 0 0), (.slice none 0 0), (.slice none 0 0)] 34 (0, 0))) ∧ Aside0 (Below w.heap.size w wc))
 case first =>
  have H := HC2.out
  clear HC2
  by_cases c4 : (a0.size : Int) > 0
  ·rw [if_pos c4] at H
   have c4b0 : decide (0 < (a0.size : Int)) = true := decide_eq_true c4
   have c4b1 : decide (0 < a0.size) = true := decide_eq_true (by omega)
   clear c4
   (first | rw [c4b0] | (simp only [i64_w, i32_w]; rw [c4b0]) | skip)
   by_cases c5 : 0 < (a0.size : Int)
   ·rw [if_pos c5] at H
    have c5b0 : decide (0 < (a0.size : Int)) = true := decide_eq_true c5
    have c5b1 : decide (0 < a0.size) = true := decide_eq_true (by omega)
    clear c5
    have H' := Aside0.mk H
    clear H
    have p6 : 0 ≤ (0 : Int) := (by omega)
    have q6 : 0 < a0.size := (by have : (0 : Int) < (a0.size : Int) := of_decide_eq_true (by assumption); omega)
    have hx6 : ∀ h : 0 < a0.size, ((a0[0]'h).toNat : Int) = bt a0 0 := bt_at a0 0
    clear p6
    have qi6 : (0 < (a0.size : Int)) = True := eq_true (of_decide_eq_true (by assumption))
    replace q6 := eq_true q6
    go_wp2
    go_meet
    case rel => exact ⟨_, (((bt a0 0) == 40)), (by first | rfl | simp [*]), H', ⟨by first | omega | exact Nat.le_refl _⟩, ⟨by (repeat refine kq_ ?_); exact BK313.out⟩, ⟨by repeat (first | (with_reducible first | exact HB.out | apply below_alloc | apply pw_below_drewN | apply below_drew1 | refine below_set ?_ GE313.out) | exact HB.out)⟩⟩
   ·rw [if_neg c5] at H
    exact absurd H (by simp)
  ·rw [if_neg c4] at H
   have c4b0 : decide (0 < (a0.size : Int)) = false := decide_eq_false c4
   have c4b1 : decide (0 < a0.size) = false := decide_eq_false (by omega)
   clear c4
   (first | rw [c4b0] | (simp only [i64_w, i32_w]; rw [c4b0]) | skip)
   have H' := Aside0.mk H
   clear H
   go_wp2
   go_meet
   case rel => exact ⟨_, (false), (by first | rfl | simp [*]), H', ⟨by first | omega | exact Nat.le_refl _⟩, ⟨by (repeat refine kq_ ?_); exact BK313.out⟩, ⟨by repeat (first | (with_reducible first | exact HB.out | apply below_alloc | apply pw_below_drewN | apply below_drew1 | refine below_set ?_ GE313.out) | exact HB.out)⟩⟩
 case rest =>
  clear HC2
  (try clear p2); (try clear c4); (try clear c4b0); (try clear c4b1); (try clear c5); (try clear c5b0); (try clear c5b1); (try clear p6); (try clear q6); (try clear hx6); (try clear qi6); (try clear p6); (try clear q6)
  obtain ⟨kq, x15_1, rfl, HA, HJ1, BK313, HB⟩ := hcut
  cases kq with
  | zero => exact absurd HA.out (by simp [glacisref06_member.j0])
  | succ kj1 =>
   have H := HA.out
   clear HA
   simp only [glacisref06_member.j0] at H
   by_cases c7 : x15_1 = true
   ·subst c7
    rw [if_pos rfl] at H
    by_cases c8 : 1 ≤ (a0.size : Int)
    ·rw [if_pos c8] at H
     have c8b0 := eq_true c8
     have c8b1 : decide (1 ≤ (a0.size : Int)) = true := decide_eq_true c8
     clear c8
     replace H := Option.bind_eq_some_iff.mp H
     obtain ⟨⟨t314, t315, t316, t317, t318, t319, t322, t325, t328, t329⟩, A90, H⟩ := H
     (try dsimp only at H)
     have A9 := Aside0.mk A90
     clear A90
     simp only [Option.some.injEq, Prod.mk.injEq] at H
     obtain ⟨rfl, rfl, rfl, rfl, rfl, rfl, rfl, rfl, rfl, rfl⟩ := H
     go_wp2_with (first | ((with_reducible refine gate_callee (f := 103) rfl ?_); refine goesL_ (some 18) rfl rfl Tryz.func103 (by kernel_rfl) rfl #[.string (a0.extract 1 a0.size)] rfl (by simp only [List.map_toArray, List.map_cons, List.map_nil] <;> rfl) ?_; (with_reducible refine (glacisref06_inner.calls kj1 (a0.extract 1 a0.size) t314 t315 t316 t317 t318 t319 t322 t325 t328 t329 _ A9.out).mono ?_); rintro e w10 ⟨v320, v323, v326, rfl, ho0, ho1, ho2, hb⟩; refine ⟨_, rfl, ?_⟩; have n0_ := Aside0.mk (Kd.R_lower ho0 (below_size (bl_ HB.out))); have n1_ := Aside0.mk (Kd.S_lower ho1 (below_size (bl_ HB.out))); have n2_ := Aside0.mk (Kd.R_lower ho2 (below_size (bl_ HB.out))); have n3_ := Aside0.mk (blk_below (g := gb313) (o := .cells #[.string ⟨#[]⟩, .bool false, .int .i64 0, .int .i64 0, .string ⟨#[]⟩, .slice none 0 0, .slice none 0 0, .slice none 0 0] 34 (0, 0)) (kl_ BK313.out) hb); have n4_ := Aside0.mk (below_step (bl_ HB.out) hb); clear BK313; clear HB; have HO321 := n0_; have HO324 := n1_; have HO327 := n2_; have BK313 := n3_; have HB := n4_; clear n0_ n1_ n2_ n3_ n4_; (try clear hb); (try clear hb2); (try clear hk); (try clear hi); (try clear ho0); (try clear ho1); (try clear ho2); obtain ⟨hcz11_0, hcz11_1, hcz11_2, hcz11_3, hcz11_4, hcz11_5, hcz11_6, hcz11_7⟩ := c8_ BK313.out; obtain ⟨hfz11_0, hfz11_1, hfz11_2, hfz11_3, hfz11_4, hfz11_5, hfz11_6, hfz11_7⟩ := f8_ BK313.out; obtain ⟨Ao12, co12, eo12⟩ := Kd.R_slice HO321.out; subst eo12; obtain ⟨Ao13, co13, eo13⟩ := Kd.S_slice HO324.out; subst eo13; obtain ⟨Ao14, co14, eo14⟩ := Kd.R_slice HO327.out; subst eo14))
     refine bodyPost_ret (results_ctt rfl _ _ gb313 34 #[.string t314, .bool t315, .int .i64 t316, .int .i64 t317, .string t318, .slice Ao12 t319.length co12, .slice Ao13 t322.length co13, .slice Ao14 t325.length co14] (0, 0) _ rfl (by (repeat refine kq_ ?_); refine blk_put (cs := #[.string t314, .bool t315, .int .i64 t316, .int .i64 t317, .string t318, .slice Ao12 t319.length co12, .slice Ao13 t322.length co13, .slice none 0 0]) ?_ 7 _ rfl; (repeat refine kq_ ?_); refine blk_put (cs := #[.string t314, .bool t315, .int .i64 t316, .int .i64 t317, .string t318, .slice Ao12 t319.length co12, .slice none 0 0, .slice none 0 0]) ?_ 6 _ rfl; (repeat refine kq_ ?_); refine blk_put (cs := #[.string t314, .bool t315, .int .i64 t316, .int .i64 t317, .string t318, .slice none 0 0, .slice none 0 0, .slice none 0 0]) ?_ 5 _ rfl; (repeat refine kq_ ?_); refine blk_put (cs := #[.string t314, .bool t315, .int .i64 t316, .int .i64 t317, .string ⟨#[]⟩, .slice none 0 0, .slice none 0 0, .slice none 0 0]) ?_ 4 _ rfl; (repeat refine kq_ ?_); refine blk_put (cs := #[.string t314, .bool t315, .int .i64 t316, .int .i64 0, .string ⟨#[]⟩, .slice none 0 0, .slice none 0 0, .slice none 0 0]) ?_ 3 _ rfl; (repeat refine kq_ ?_); refine blk_put (cs := #[.string t314, .bool t315, .int .i64 0, .int .i64 0, .string ⟨#[]⟩, .slice none 0 0, .slice none 0 0, .slice none 0 0]) ?_ 2 _ rfl; (repeat refine kq_ ?_); refine blk_put (cs := #[.string t314, .bool false, .int .i64 0, .int .i64 0, .string ⟨#[]⟩, .slice none 0 0, .slice none 0 0, .slice none 0 0]) ?_ 1 _ rfl; (repeat refine kq_ ?_); refine blk_put (cs := #[.string ⟨#[]⟩, .bool false, .int .i64 0, .int .i64 0, .string ⟨#[]⟩, .slice none 0 0, .slice none 0 0, .slice none 0 0]) ?_ 0 _ rfl; (repeat refine kq_ ?_); exact BK313.out) Tryz.underlying34 rfl (by kernel_rfl)) rfl ?_
     exact ⟨_, _, _, by first | rfl | simp [*], by (with_reducible repeat (first | apply Kd.R_alloc | apply Kd.R_drewN | apply Kd.R_drew)); exact Kd.R_mono (Kd.R_far (p := ⟨gb313, 7, none⟩) (Kd.R_far (p := ⟨gb313, 6, none⟩) (Kd.R_far (p := ⟨gb313, 5, none⟩) (Kd.R_far (p := ⟨gb313, 4, none⟩) (Kd.R_far (p := ⟨gb313, 3, none⟩) (Kd.R_far (p := ⟨gb313, 2, none⟩) (Kd.R_far (p := ⟨gb313, 1, none⟩) (Kd.R_far (p := ⟨gb313, 0, none⟩) (Kd.R_types HO321.out BK313.out (by decide)) (fun _ hk => hk.2) (.string t314)) (fun _ hk => hk.2) (.bool t315)) (fun _ hk => hk.2) (.int .i64 t316)) (fun _ hk => hk.2) (.int .i64 t317)) (fun _ hk => hk.2) (.string t318)) (fun _ hk => hk.2) (.slice Ao12 t319.length co12)) (fun _ hk => hk.2) (.slice Ao13 t322.length co13)) (fun _ hk => hk.2) (.slice Ao14 t325.length co14)) (fun _ hk => hk.1), by (with_reducible repeat (first | apply Kd.S_alloc | apply Kd.S_drewN | apply Kd.S_drew)); exact Kd.S_mono (Kd.S_far (p := ⟨gb313, 7, none⟩) (Kd.S_far (p := ⟨gb313, 6, none⟩) (Kd.S_far (p := ⟨gb313, 5, none⟩) (Kd.S_far (p := ⟨gb313, 4, none⟩) (Kd.S_far (p := ⟨gb313, 3, none⟩) (Kd.S_far (p := ⟨gb313, 2, none⟩) (Kd.S_far (p := ⟨gb313, 1, none⟩) (Kd.S_far (p := ⟨gb313, 0, none⟩) (Kd.S_types HO324.out BK313.out (by decide)) (fun _ hk => hk.2) (.string t314)) (fun _ hk => hk.2) (.bool t315)) (fun _ hk => hk.2) (.int .i64 t316)) (fun _ hk => hk.2) (.int .i64 t317)) (fun _ hk => hk.2) (.string t318)) (fun _ hk => hk.2) (.slice Ao12 t319.length co12)) (fun _ hk => hk.2) (.slice Ao13 t322.length co13)) (fun _ hk => hk.2) (.slice Ao14 t325.length co14)) (fun _ hk => ⟨hk.1.1, hk.1.2⟩), by (with_reducible repeat (first | apply Kd.R_alloc | apply Kd.R_drewN | apply Kd.R_drew)); exact Kd.R_mono (Kd.R_far (p := ⟨gb313, 7, none⟩) (Kd.R_far (p := ⟨gb313, 6, none⟩) (Kd.R_far (p := ⟨gb313, 5, none⟩) (Kd.R_far (p := ⟨gb313, 4, none⟩) (Kd.R_far (p := ⟨gb313, 3, none⟩) (Kd.R_far (p := ⟨gb313, 2, none⟩) (Kd.R_far (p := ⟨gb313, 1, none⟩) (Kd.R_far (p := ⟨gb313, 0, none⟩) (Kd.R_types HO327.out BK313.out (by decide)) (fun _ hk => hk.2) (.string t314)) (fun _ hk => hk.2) (.bool t315)) (fun _ hk => hk.2) (.int .i64 t316)) (fun _ hk => hk.2) (.int .i64 t317)) (fun _ hk => hk.2) (.string t318)) (fun _ hk => hk.2) (.slice Ao12 t319.length co12)) (fun _ hk => hk.2) (.slice Ao13 t322.length co13)) (fun _ hk => hk.2) (.slice Ao14 t325.length co14)) (fun _ hk => hk.1), by repeat (first | (with_reducible first | exact HB.out | apply below_alloc | apply pw_below_drewN | apply below_drew1 | refine below_set ?_ GE313.out) | exact HB.out)⟩
    ·rw [if_neg c8] at H
     exact absurd H (by simp)
   ·replace c7 := Bool.eq_false_iff.mpr c7
    subst c7
    rw [if_neg (show ¬ (false = true) by decide)] at H
    replace H := Option.bind_eq_some_iff.mp H
    obtain ⟨⟨t330, t331, t332, t333, t336, t337⟩, A150, H⟩ := H
    (try dsimp only at H)
    have A15 := Aside0.mk A150
    clear A150
    simp only [Option.some.injEq, Prod.mk.injEq] at H
    obtain ⟨rfl, rfl, rfl, rfl, rfl, rfl, rfl, rfl, rfl, rfl⟩ := H
    go_wp2_with (first | ((with_reducible refine gate_callee (f := 104) rfl ?_); refine goesL_ (some 24) rfl rfl Tryz.func104 (by kernel_rfl) rfl #[.string a0] rfl (by simp only [List.map_toArray, List.map_cons, List.map_nil] <;> rfl) ?_; (with_reducible refine (glacisref05_Next.calls kj1 a0 t330 t331 t332 t333 t336 t337 _ A15.out).mono ?_); rintro e w16 ⟨v334, rfl, ho0, hb⟩; refine ⟨_, rfl, ?_⟩; have n0_ := Aside0.mk (Kd.R_lower ho0 (below_size (bl_ HB.out))); have n1_ := Aside0.mk (blk_below (g := gb313) (o := .cells #[.string ⟨#[]⟩, .bool false, .int .i64 0, .int .i64 0, .string ⟨#[]⟩, .slice none 0 0, .slice none 0 0, .slice none 0 0] 34 (0, 0)) (kl_ BK313.out) hb); have n2_ := Aside0.mk (below_step (bl_ HB.out) hb); clear BK313; clear HB; have HO335 := n0_; have BK313 := n1_; have HB := n2_; clear n0_ n1_ n2_; (try clear hb); (try clear hb2); (try clear hk); (try clear hi); (try clear ho0)) | ((with_reducible refine gate_dst (N := 5) rfl ?_); refine box_event ?hg (N := 5) ?hd (cs := #[.int .i64 0, .int .i64 0, .string ⟨#[]⟩, .slice none 0 0]) (t := 31) ?hr ?_; (case hd => rfl); (case hg => rfl); (case hr => first | (go_simp; done) | (go_simp; rfl)); intro gb338 hg w17 hbox hb; have n0_ := Aside0.mk (Kd.R_below (rl_ HO335.out) hb); have n1_ := Aside0.mk (blk_below (g := gb313) (o := .cells #[.string ⟨#[]⟩, .bool false, .int .i64 0, .int .i64 0, .string ⟨#[]⟩, .slice none 0 0, .slice none 0 0, .slice none 0 0] 34 (0, 0)) (kl_ BK313.out) hb); have n2_ := Aside0.mk (below_step (bl_ HB.out) hb); have n3_ := Aside0.mk (hbox); have n4_ := Aside0.mk ((hg_ hg (bl_ HB.out))); have n5_ := Aside0.mk ((hg_ hg (bl_ HB.out))); have n6_ := Aside0.mk ((by rw [hg]; exact Nat.ne_of_lt (blk_lt (g := gb313) (o := .cells #[.string ⟨#[]⟩, .bool false, .int .i64 0, .int .i64 0, .string ⟨#[]⟩, .slice none 0 0, .slice none 0 0, .slice none 0 0] 34 (0, 0)) (kl_ BK313.out)) : gb313 ≠ gb338)); have n7_ := Aside0.mk ((by rw [hg]; exact Nat.ne_of_gt (blk_lt (g := gb313) (o := .cells #[.string ⟨#[]⟩, .bool false, .int .i64 0, .int .i64 0, .string ⟨#[]⟩, .slice none 0 0, .slice none 0 0, .slice none 0 0] 34 (0, 0)) (kl_ BK313.out)) : gb338 ≠ gb313)); clear HO335; clear BK313; clear HB; have HO335 := n0_; have BK313 := n1_; have HB := n2_; have BK338 := n3_; have GW338 := n4_; have GE338 := n5_; have NB313_338 := n6_; have NB338_313 := n7_; clear n0_ n1_ n2_ n3_ n4_ n5_ n6_ n7_; clear hb hbox hg; have hnb18 := NB338_313.out; have hnc18 := NB313_338.out; obtain ⟨hcz19_0, hcz19_1, hcz19_2, hcz19_3⟩ := c4_ BK338.out; obtain ⟨hfz19_0, hfz19_1, hfz19_2, hfz19_3⟩ := f4_ BK338.out; obtain ⟨Ao20, co20, eo20⟩ := Kd.R_slice HO335.out; subst eo20; obtain ⟨hcz21_0, hcz21_1, hcz21_2, hcz21_3, hcz21_4, hcz21_5, hcz21_6, hcz21_7⟩ := c8_ BK313.out; obtain ⟨hfz21_0, hfz21_1, hfz21_2, hfz21_3, hfz21_4, hfz21_5, hfz21_6, hfz21_7⟩ := f8_ BK313.out))
    refine bodyPost_ret (results_ctt rfl _ _ gb313 34 #[.string ⟨#[]⟩, .bool false, .int .i64 t330, .int .i64 t331, .string t332, .slice Ao20 t333.length co20, .slice none 0 0, .slice none 0 0] (0, 0) _ rfl (by (repeat refine kq_ ?_); refine blk_put (cs := #[.string ⟨#[]⟩, .bool false, .int .i64 t330, .int .i64 t331, .string t332, .slice Ao20 t333.length co20, .slice none 0 0, .slice none 0 0]) ?_ 7 _ rfl; (repeat refine kq_ ?_); refine blk_put (cs := #[.string ⟨#[]⟩, .bool false, .int .i64 t330, .int .i64 t331, .string t332, .slice Ao20 t333.length co20, .slice none 0 0, .slice none 0 0]) ?_ 6 _ rfl; (repeat refine kq_ ?_); refine blk_put (cs := #[.string ⟨#[]⟩, .bool false, .int .i64 t330, .int .i64 t331, .string t332, .slice none 0 0, .slice none 0 0, .slice none 0 0]) ?_ 5 _ rfl; (repeat refine kq_ ?_); refine blk_put (cs := #[.string ⟨#[]⟩, .bool false, .int .i64 t330, .int .i64 t331, .string ⟨#[]⟩, .slice none 0 0, .slice none 0 0, .slice none 0 0]) ?_ 4 _ rfl; (repeat refine kq_ ?_); refine blk_put (cs := #[.string ⟨#[]⟩, .bool false, .int .i64 t330, .int .i64 0, .string ⟨#[]⟩, .slice none 0 0, .slice none 0 0, .slice none 0 0]) ?_ 3 _ rfl; (repeat refine kq_ ?_); refine blk_put (cs := #[.string ⟨#[]⟩, .bool false, .int .i64 0, .int .i64 0, .string ⟨#[]⟩, .slice none 0 0, .slice none 0 0, .slice none 0 0]) ?_ 2 _ rfl; (repeat refine kq_ ?_); refine blk_put (cs := #[.string ⟨#[]⟩, .bool false, .int .i64 0, .int .i64 0, .string ⟨#[]⟩, .slice none 0 0, .slice none 0 0, .slice none 0 0]) ?_ 1 _ rfl; (repeat refine kq_ ?_); refine blk_put (cs := #[.string ⟨#[]⟩, .bool false, .int .i64 0, .int .i64 0, .string ⟨#[]⟩, .slice none 0 0, .slice none 0 0, .slice none 0 0]) ?_ 0 _ rfl; repeat (first | refine blk_far ?_ NB313_338.out _ | exact BK313.out)) Tryz.underlying34 rfl (by kernel_rfl)) rfl ?_
    exact ⟨_, _, _, by first | rfl | simp [*], by (with_reducible repeat (first | apply Kd.R_alloc | apply Kd.R_drewN | apply Kd.R_drew)); exact Kd.R_mono (Kd.R_far (p := ⟨gb313, 7, none⟩) (Kd.R_far (p := ⟨gb313, 6, none⟩) (Kd.R_far (p := ⟨gb313, 5, none⟩) (Kd.R_far (p := ⟨gb313, 4, none⟩) (Kd.R_far (p := ⟨gb313, 3, none⟩) (Kd.R_far (p := ⟨gb313, 2, none⟩) (Kd.R_far (p := ⟨gb313, 1, none⟩) (Kd.R_far (p := ⟨gb313, 0, none⟩) (Kd.R_far (p := ⟨gb338, 3, none⟩) (Kd.R_far (p := ⟨gb338, 2, none⟩) (Kd.R_far (p := ⟨gb338, 1, none⟩) (Kd.R_far (p := ⟨gb338, 0, none⟩) (Kd.R_types (Kd.R_types HO335.out BK338.out (by decide)) BK313.out (by decide)) (fun _ hk => hk.1.2) (.int .i64 t330)) (fun _ hk => hk.1.2) (.int .i64 t331)) (fun _ hk => hk.1.2) (.string t332)) (fun _ hk => hk.1.2) (.slice Ao20 t333.length co20)) (fun _ hk => hk.2) (.string ⟨#[]⟩)) (fun _ hk => hk.2) (.bool false)) (fun _ hk => hk.2) (.int .i64 t330)) (fun _ hk => hk.2) (.int .i64 t331)) (fun _ hk => hk.2) (.string t332)) (fun _ hk => hk.2) (.slice Ao20 t333.length co20)) (fun _ hk => hk.2) (.slice none 0 0)) (fun _ hk => hk.2) (.slice none 0 0)) (fun _ hk => (by simp [Value.ownBlock])), by first | exact Kd.S_nil _ _ _ _ _ | exact Kd.N_nil _ _ _ _ _ | exact Kd.V_nil _ _ _ _ _ | exact Kd.Q_nil _ _ _ _ _ | exact Kd.R_nil _ _ _ _ _, by first | exact Kd.R_nil _ _ _ _ _ | exact Kd.S_nil _ _ _ _ _, by repeat (first | (with_reducible first | exact HB.out | apply below_alloc | apply pw_below_drewN | apply below_drew1 | refine below_set ?_ GE313.out | refine below_set ?_ GE338.out) | exact HB.out)⟩
def glacisref06_keyed.j0 : Nat → ByteArray → ByteArray → Bool → Option (ByteArray × Bool × Int × Int × ByteArray × (List (S60)) × (List (S31)) × (List (S60)) × ByteArray × Bool)
 | 0, _, _, _ => none
 | k + 1, x5, x6, x30 => if x30 = true then (if 1 ≤ (x6.size : Int) then ((glacisref06_member.f k (x6.extract 1 x6.size)).bind fun bt343 => (some (x5, bt343.2.1, bt343.2.2.1, bt343.2.2.2.1, bt343.2.2.2.2.1, bt343.2.2.2.2.2.1, bt343.2.2.2.2.2.2.1, bt343.2.2.2.2.2.2.2.1, bt343.2.2.2.2.2.2.2.2.1, bt343.2.2.2.2.2.2.2.2.2))) else (none)) else ((glacisref05_Params.f k x6).bind fun bt360 => (some (x5, false, 6, 1, (⟨#[]⟩ : ByteArray), bt360.1, ([] : List (S31)), ([] : List (S60)), bt360.2.1, (bt360.2.2 == 0))))
def glacisref06_keyed.f (k : Nat) (a0 : ByteArray) : Option (ByteArray × Bool × Int × Int × ByteArray × (List (S60)) × (List (S31)) × (List (S60)) × ByteArray × Bool) := (glacisref05_Key.f k a0).bind fun bt340 => (if bt340.2.2 = 0 then (if (bt340.2.1.size : Int) > 0 then (if 0 < (bt340.2.1.size : Int) then (glacisref06_keyed.j0 k bt340.1 bt340.2.1 ((bt bt340.2.1 0) == 61)) else (none)) else (glacisref06_keyed.j0 k bt340.1 bt340.2.1 false)) else (some ((⟨#[]⟩ : ByteArray), false, 0, 0, (⟨#[]⟩ : ByteArray), ([] : List (S60)), ([] : List (S31)), ([] : List (S60)), (⟨#[]⟩ : ByteArray), false)))
theorem glacisref06_keyed.calls (k : Nat) (a0 : ByteArray) (r1 : ByteArray) (r2 : Bool) (r3 : Int) (r4 : Int) (r5 : ByteArray) (r6 : List (S60)) (r7 : List (S31)) (r8 : List (S60)) (r9 : ByteArray) (r10 : Bool) (w : World) (h : glacisref06_keyed.f k a0 = some (r1, r2, r3, r4, r5, r6, r7, r8, r9, r10)) :
  Calls Tryz.prog 74 #[.string a0] w fun e w' => ∃ v5_ v6_ v7_ : Value, e = .returned (.tuple #[.agg #[.string r1, .bool r2, .int .i64 r3, .int .i64 r4, .string r5, v5_, v6_, v7_], .string r9, .bool r10]) ∧ Kd.R k60 60 w' w.heap.size (fun k_ => some k_ ≠ (v7_ : Value).ownBlock) v5_ r6 ∧ Kd.S k31 31 w' w.heap.size (fun k_ => some k_ ≠ (v5_ : Value).ownBlock ∧ some k_ ≠ (v7_ : Value).ownBlock) v6_ r7 ∧ Kd.R k60 60 w' w.heap.size (fun k_ => some k_ ≠ (v5_ : Value).ownBlock) v7_ r8 ∧ Below w.heap.size w w' := by
 have hu34 := Tryz.underlying34
 have hu31 := Tryz.underlying31
 have HB := Aside0.mk (Below.refl w.heap.size w)
 have H : ((glacisref05_Key.f k a0).bind fun bt340 => (if bt340.2.2 = 0 then (if (bt340.2.1.size : Int) > 0 then (if 0 < (bt340.2.1.size : Int) then (glacisref06_keyed.j0 k bt340.1 bt340.2.1 ((bt bt340.2.1 0) == 61)) else (none)) else (glacisref06_keyed.j0 k bt340.1 bt340.2.1 false)) else (some ((⟨#[]⟩ : ByteArray), false, 0, 0, (⟨#[]⟩ : ByteArray), ([] : List (S60)), ([] : List (S31)), ([] : List (S60)), (⟨#[]⟩ : ByteArray), false)))) = some (r1, r2, r3, r4, r5, r6, r7, r8, r9, r10) := h
 clear h
 replace H := Option.bind_eq_some_iff.mp H
 obtain ⟨⟨t340, t341, t342⟩, A20, H⟩ := H
 (try dsimp only at H)
 have A2 := Aside0.mk A20
 clear A20
 by_cases c3 : t342 = 0
 ·rw [if_pos c3] at H
  obtain ⟨c3b0, c3b1⟩ := eT_ c3
  clear c3
  have HC4 := Aside0.mk H
  clear H
  go_enter Tryz.func74, Tryz.ntmps74
  go_upto_region 4 with (first | ((with_reducible refine gate_dst (N := 2) rfl ?_); refine box_event ?hg (N := 2) ?hd (cs := #[.string ⟨#[]⟩, .bool false, .int .i64 0, .int .i64 0, .string ⟨#[]⟩, .slice none 0 0, .slice none 0 0, .slice none 0 0]) (t := 34) ?hr ?_; (case hd => rfl); (case hg => rfl); (case hr => first | (go_simp; done) | (go_simp; rfl)); intro gb339 hg w5 hbox hb; have n0_ := Aside0.mk (below_step (bl_ HB.out) hb); have n1_ := Aside0.mk (hbox); have n2_ := Aside0.mk ((hg_ hg (bl_ HB.out))); have n3_ := Aside0.mk ((hg_ hg (bl_ HB.out))); clear HB; have HB := n0_; have BK339 := n1_; have GW339 := n2_; have GE339 := n3_; clear n0_ n1_ n2_ n3_; clear hb hbox hg) | ((with_reducible refine gate_callee (f := 36) rfl ?_); refine goesL_ (some 16) rfl rfl Tryz.func36 (by kernel_rfl) rfl #[.string a0] rfl (by simp only [List.map_toArray, List.map_cons, List.map_nil] <;> rfl) ?_; (with_reducible refine (glacisref05_Key.calls k a0 t340 t341 t342 _ A2.out).mono ?_); rintro e w' ⟨rfl, ⟨nd, rfl⟩⟩; refine ⟨_, rfl, ?_⟩))
  (try simp only [Act.put, List.setIfInBounds_toArray, List.set_cons_zero, List.set_cons_succ])
  go_cut [30] (fun v30 wc => ∃ (kq : Nat) (x30_3 : Bool), v30 = .bool x30_3 ∧ Aside0 (glacisref06_keyed.j0 kq t340 t341 x30_3 = some (r1, r2, r3, r4, r5, r6, r7, r8, r9, r10)) ∧ Aside0 (kq ≤ k) ∧ Aside0 (wc.heap[gb339]? = some (.cells #[.string ⟨#[]⟩, .bool false, .int .i64 0, .int .i64 0, .string ⟨#[]⟩, (.slice none 0 0), (.slice none 0 0), (.slice none 0 0)] 34 (0, 0))) ∧ Aside0 (Below w.heap.size w wc))
  case first =>
   have H := HC4.out
   clear HC4
   by_cases c6 : (t341.size : Int) > 0
   ·rw [if_pos c6] at H
    have c6b0 : decide (0 < (t341.size : Int)) = true := decide_eq_true c6
    have c6b1 : decide (0 < t341.size) = true := decide_eq_true (by omega)
    clear c6
    (first | rw [c6b0] | (simp only [i64_w, i32_w]; rw [c6b0]) | skip)
    by_cases c7 : 0 < (t341.size : Int)
    ·rw [if_pos c7] at H
     have c7b0 : decide (0 < (t341.size : Int)) = true := decide_eq_true c7
     have c7b1 : decide (0 < t341.size) = true := decide_eq_true (by omega)
     clear c7
     have H' := Aside0.mk H
     clear H
     have p8 : 0 ≤ (0 : Int) := (by omega)
     have q8 : 0 < t341.size := (by have : (0 : Int) < (t341.size : Int) := of_decide_eq_true (by assumption); omega)
     have hx8 : ∀ h : 0 < t341.size, ((t341[0]'h).toNat : Int) = bt t341 0 := bt_at t341 0
     clear p8
     have qi8 : (0 < (t341.size : Int)) = True := eq_true (of_decide_eq_true (by assumption))
     replace q8 := eq_true q8
     go_wp2
     go_meet
     case rel => exact ⟨_, (((bt t341 0) == 61)), (by first | rfl | simp [*]), H', ⟨by first | omega | exact Nat.le_refl _⟩, ⟨by (repeat refine kq_ ?_); exact BK339.out⟩, ⟨by repeat (first | (with_reducible first | exact HB.out | apply below_alloc | apply pw_below_drewN | apply below_drew1 | refine below_set ?_ GE339.out) | exact HB.out)⟩⟩
    ·rw [if_neg c7] at H
     exact absurd H (by simp)
   ·rw [if_neg c6] at H
    have c6b0 : decide (0 < (t341.size : Int)) = false := decide_eq_false c6
    have c6b1 : decide (0 < t341.size) = false := decide_eq_false (by omega)
    clear c6
    (first | rw [c6b0] | (simp only [i64_w, i32_w]; rw [c6b0]) | skip)
    have H' := Aside0.mk H
    clear H
    go_wp2
    go_meet
    case rel => exact ⟨_, (false), (by first | rfl | simp [*]), H', ⟨by first | omega | exact Nat.le_refl _⟩, ⟨by (repeat refine kq_ ?_); exact BK339.out⟩, ⟨by repeat (first | (with_reducible first | exact HB.out | apply below_alloc | apply pw_below_drewN | apply below_drew1 | refine below_set ?_ GE339.out) | exact HB.out)⟩⟩
  case rest =>
   clear HC4
   (try clear p2); (try clear c3); (try clear c3b0); (try clear c3b1); (try clear c6); (try clear c6b0); (try clear c6b1); (try clear c7); (try clear c7b0); (try clear c7b1); (try clear p8); (try clear q8); (try clear hx8); (try clear qi8); (try clear p8); (try clear q8)
   obtain ⟨kq, x30_3, rfl, HA, HJ3, BK339, HB⟩ := hcut
   cases kq with
   | zero => exact absurd HA.out (by simp [glacisref06_keyed.j0])
   | succ kj3 =>
    have H := HA.out
    clear HA
    simp only [glacisref06_keyed.j0] at H
    by_cases c9 : x30_3 = true
    ·subst c9
     rw [if_pos rfl] at H
     by_cases c10 : 1 ≤ (t341.size : Int)
     ·rw [if_pos c10] at H
      have c10b0 := eq_true c10
      have c10b1 : decide (1 ≤ (t341.size : Int)) = true := decide_eq_true c10
      clear c10
      replace H := Option.bind_eq_some_iff.mp H
      obtain ⟨⟨t343, t344, t345, t346, t347, t348, t351, t354, t357, t358⟩, A110, H⟩ := H
      (try dsimp only at H)
      have A11 := Aside0.mk A110
      clear A110
      simp only [Option.some.injEq, Prod.mk.injEq] at H
      obtain ⟨rfl, rfl, rfl, rfl, rfl, rfl, rfl, rfl, rfl, rfl⟩ := H
      go_wp2_with (first | ((with_reducible refine gate_callee (f := 75) rfl ?_); refine goesL_ (some 34) rfl rfl Tryz.func75 (by kernel_rfl) rfl #[.string (t341.extract 1 t341.size)] rfl (by simp only [List.map_toArray, List.map_cons, List.map_nil] <;> rfl) ?_; (with_reducible refine (glacisref06_member.calls kj3 (t341.extract 1 t341.size) t343 t344 t345 t346 t347 t348 t351 t354 t357 t358 _ A11.out).mono ?_); rintro e w12 ⟨v349, v352, v355, rfl, ho0, ho1, ho2, hb⟩; refine ⟨_, rfl, ?_⟩; have n0_ := Aside0.mk (Kd.R_lower ho0 (below_size (bl_ HB.out))); have n1_ := Aside0.mk (Kd.S_lower ho1 (below_size (bl_ HB.out))); have n2_ := Aside0.mk (Kd.R_lower ho2 (below_size (bl_ HB.out))); have n3_ := Aside0.mk (blk_below (g := gb339) (o := .cells #[.string ⟨#[]⟩, .bool false, .int .i64 0, .int .i64 0, .string ⟨#[]⟩, .slice none 0 0, .slice none 0 0, .slice none 0 0] 34 (0, 0)) (kl_ BK339.out) hb); have n4_ := Aside0.mk (below_step (bl_ HB.out) hb); clear BK339; clear HB; have HO350 := n0_; have HO353 := n1_; have HO356 := n2_; have BK339 := n3_; have HB := n4_; clear n0_ n1_ n2_ n3_ n4_; (try clear hb); (try clear hb2); (try clear hk); (try clear hi); (try clear ho0); (try clear ho1); (try clear ho2)) | ((with_reducible refine gate_dst (N := 8) rfl ?_); refine box_event ?hg (N := 8) ?hd (cs := #[.string ⟨#[]⟩, .bool false, .int .i64 0, .int .i64 0, .string ⟨#[]⟩, .slice none 0 0, .slice none 0 0, .slice none 0 0]) (t := 34) ?hr ?_; (case hd => rfl); (case hg => rfl); (case hr => first | (go_simp; done) | (go_simp; rfl)); intro gb359 hg w13 hbox hb; have n0_ := Aside0.mk (Kd.R_below (rl_ HO350.out) hb); have n1_ := Aside0.mk (Kd.S_below (sl_ HO353.out) hb); have n2_ := Aside0.mk (Kd.R_below (rl_ HO356.out) hb); have n3_ := Aside0.mk (blk_below (g := gb339) (o := .cells #[.string ⟨#[]⟩, .bool false, .int .i64 0, .int .i64 0, .string ⟨#[]⟩, .slice none 0 0, .slice none 0 0, .slice none 0 0] 34 (0, 0)) (kl_ BK339.out) hb); have n4_ := Aside0.mk (below_step (bl_ HB.out) hb); have n5_ := Aside0.mk (hbox); have n6_ := Aside0.mk ((hg_ hg (bl_ HB.out))); have n7_ := Aside0.mk ((hg_ hg (bl_ HB.out))); have n8_ := Aside0.mk ((by rw [hg]; exact Nat.ne_of_lt (blk_lt (g := gb339) (o := .cells #[.string ⟨#[]⟩, .bool false, .int .i64 0, .int .i64 0, .string ⟨#[]⟩, .slice none 0 0, .slice none 0 0, .slice none 0 0] 34 (0, 0)) (kl_ BK339.out)) : gb339 ≠ gb359)); have n9_ := Aside0.mk ((by rw [hg]; exact Nat.ne_of_gt (blk_lt (g := gb339) (o := .cells #[.string ⟨#[]⟩, .bool false, .int .i64 0, .int .i64 0, .string ⟨#[]⟩, .slice none 0 0, .slice none 0 0, .slice none 0 0] 34 (0, 0)) (kl_ BK339.out)) : gb359 ≠ gb339)); clear HO350; clear HO353; clear HO356; clear BK339; clear HB; have HO350 := n0_; have HO353 := n1_; have HO356 := n2_; have BK339 := n3_; have HB := n4_; have BK359 := n5_; have GW359 := n6_; have GE359 := n7_; have NB339_359 := n8_; have NB359_339 := n9_; clear n0_ n1_ n2_ n3_ n4_ n5_ n6_ n7_ n8_ n9_; clear hb hbox hg; have hnb14 := NB359_339.out; have hnc14 := NB339_359.out; obtain ⟨hcz15_0, hcz15_1, hcz15_2, hcz15_3, hcz15_4, hcz15_5, hcz15_6, hcz15_7⟩ := c8_ BK359.out; obtain ⟨hfz15_0, hfz15_1, hfz15_2, hfz15_3, hfz15_4, hfz15_5, hfz15_6, hfz15_7⟩ := f8_ BK359.out; obtain ⟨Ao16, co16, eo16⟩ := Kd.R_slice HO350.out; subst eo16; obtain ⟨Ao17, co17, eo17⟩ := Kd.S_slice HO353.out; subst eo17; obtain ⟨Ao18, co18, eo18⟩ := Kd.R_slice HO356.out; subst eo18; obtain ⟨hcz19_0, hcz19_1, hcz19_2, hcz19_3, hcz19_4, hcz19_5, hcz19_6, hcz19_7⟩ := c8_ BK339.out; obtain ⟨hfz19_0, hfz19_1, hfz19_2, hfz19_3, hfz19_4, hfz19_5, hfz19_6, hfz19_7⟩ := f8_ BK339.out))
      refine bodyPost_ret (results_ctt rfl _ _ gb339 34 #[.string t340, .bool t344, .int .i64 t345, .int .i64 t346, .string t347, .slice Ao16 t348.length co16, .slice Ao17 t351.length co17, .slice Ao18 t354.length co18] (0, 0) _ rfl (by (repeat refine kq_ ?_); refine blk_put (cs := #[.string t340, .bool t344, .int .i64 t345, .int .i64 t346, .string t347, .slice Ao16 t348.length co16, .slice Ao17 t351.length co17, .slice none 0 0]) ?_ 7 _ rfl; (repeat refine kq_ ?_); refine blk_put (cs := #[.string t340, .bool t344, .int .i64 t345, .int .i64 t346, .string t347, .slice Ao16 t348.length co16, .slice none 0 0, .slice none 0 0]) ?_ 6 _ rfl; (repeat refine kq_ ?_); refine blk_put (cs := #[.string t340, .bool t344, .int .i64 t345, .int .i64 t346, .string t347, .slice none 0 0, .slice none 0 0, .slice none 0 0]) ?_ 5 _ rfl; (repeat refine kq_ ?_); refine blk_put (cs := #[.string t340, .bool t344, .int .i64 t345, .int .i64 t346, .string ⟨#[]⟩, .slice none 0 0, .slice none 0 0, .slice none 0 0]) ?_ 4 _ rfl; (repeat refine kq_ ?_); refine blk_put (cs := #[.string t340, .bool t344, .int .i64 t345, .int .i64 0, .string ⟨#[]⟩, .slice none 0 0, .slice none 0 0, .slice none 0 0]) ?_ 3 _ rfl; (repeat refine kq_ ?_); refine blk_put (cs := #[.string t340, .bool t344, .int .i64 0, .int .i64 0, .string ⟨#[]⟩, .slice none 0 0, .slice none 0 0, .slice none 0 0]) ?_ 2 _ rfl; (repeat refine kq_ ?_); refine blk_put (cs := #[.string t340, .bool false, .int .i64 0, .int .i64 0, .string ⟨#[]⟩, .slice none 0 0, .slice none 0 0, .slice none 0 0]) ?_ 1 _ rfl; (repeat refine kq_ ?_); refine blk_put (cs := #[.string ⟨#[]⟩, .bool false, .int .i64 0, .int .i64 0, .string ⟨#[]⟩, .slice none 0 0, .slice none 0 0, .slice none 0 0]) ?_ 0 _ rfl; repeat (first | refine blk_far ?_ NB339_359.out _ | exact BK339.out)) Tryz.underlying34 rfl (by kernel_rfl)) rfl ?_
      exact ⟨_, _, _, by first | rfl | simp [*], by (with_reducible repeat (first | apply Kd.R_alloc | apply Kd.R_drewN | apply Kd.R_drew)); exact Kd.R_mono (Kd.R_far (p := ⟨gb339, 7, none⟩) (Kd.R_far (p := ⟨gb339, 6, none⟩) (Kd.R_far (p := ⟨gb339, 5, none⟩) (Kd.R_far (p := ⟨gb339, 4, none⟩) (Kd.R_far (p := ⟨gb339, 3, none⟩) (Kd.R_far (p := ⟨gb339, 2, none⟩) (Kd.R_far (p := ⟨gb339, 1, none⟩) (Kd.R_far (p := ⟨gb339, 0, none⟩) (Kd.R_far (p := ⟨gb359, 0, none⟩) (Kd.R_far (p := ⟨gb359, 7, none⟩) (Kd.R_far (p := ⟨gb359, 6, none⟩) (Kd.R_far (p := ⟨gb359, 5, none⟩) (Kd.R_far (p := ⟨gb359, 4, none⟩) (Kd.R_far (p := ⟨gb359, 3, none⟩) (Kd.R_far (p := ⟨gb359, 2, none⟩) (Kd.R_far (p := ⟨gb359, 1, none⟩) (Kd.R_far (p := ⟨gb359, 0, none⟩) (Kd.R_types (Kd.R_types HO350.out BK359.out (by decide)) BK339.out (by decide)) (fun _ hk => hk.1.2) (.string t343)) (fun _ hk => hk.1.2) (.bool t344)) (fun _ hk => hk.1.2) (.int .i64 t345)) (fun _ hk => hk.1.2) (.int .i64 t346)) (fun _ hk => hk.1.2) (.string t347)) (fun _ hk => hk.1.2) (.slice Ao16 t348.length co16)) (fun _ hk => hk.1.2) (.slice Ao17 t351.length co17)) (fun _ hk => hk.1.2) (.slice Ao18 t354.length co18)) (fun _ hk => hk.1.2) (.string t340)) (fun _ hk => hk.2) (.string t340)) (fun _ hk => hk.2) (.bool t344)) (fun _ hk => hk.2) (.int .i64 t345)) (fun _ hk => hk.2) (.int .i64 t346)) (fun _ hk => hk.2) (.string t347)) (fun _ hk => hk.2) (.slice Ao16 t348.length co16)) (fun _ hk => hk.2) (.slice Ao17 t351.length co17)) (fun _ hk => hk.2) (.slice Ao18 t354.length co18)) (fun _ hk => hk.1.1), by (with_reducible repeat (first | apply Kd.S_alloc | apply Kd.S_drewN | apply Kd.S_drew)); exact Kd.S_mono (Kd.S_far (p := ⟨gb339, 7, none⟩) (Kd.S_far (p := ⟨gb339, 6, none⟩) (Kd.S_far (p := ⟨gb339, 5, none⟩) (Kd.S_far (p := ⟨gb339, 4, none⟩) (Kd.S_far (p := ⟨gb339, 3, none⟩) (Kd.S_far (p := ⟨gb339, 2, none⟩) (Kd.S_far (p := ⟨gb339, 1, none⟩) (Kd.S_far (p := ⟨gb339, 0, none⟩) (Kd.S_far (p := ⟨gb359, 0, none⟩) (Kd.S_far (p := ⟨gb359, 7, none⟩) (Kd.S_far (p := ⟨gb359, 6, none⟩) (Kd.S_far (p := ⟨gb359, 5, none⟩) (Kd.S_far (p := ⟨gb359, 4, none⟩) (Kd.S_far (p := ⟨gb359, 3, none⟩) (Kd.S_far (p := ⟨gb359, 2, none⟩) (Kd.S_far (p := ⟨gb359, 1, none⟩) (Kd.S_far (p := ⟨gb359, 0, none⟩) (Kd.S_types (Kd.S_types HO353.out BK359.out (by decide)) BK339.out (by decide)) (fun _ hk => hk.1.2) (.string t343)) (fun _ hk => hk.1.2) (.bool t344)) (fun _ hk => hk.1.2) (.int .i64 t345)) (fun _ hk => hk.1.2) (.int .i64 t346)) (fun _ hk => hk.1.2) (.string t347)) (fun _ hk => hk.1.2) (.slice Ao16 t348.length co16)) (fun _ hk => hk.1.2) (.slice Ao17 t351.length co17)) (fun _ hk => hk.1.2) (.slice Ao18 t354.length co18)) (fun _ hk => hk.1.2) (.string t340)) (fun _ hk => hk.2) (.string t340)) (fun _ hk => hk.2) (.bool t344)) (fun _ hk => hk.2) (.int .i64 t345)) (fun _ hk => hk.2) (.int .i64 t346)) (fun _ hk => hk.2) (.string t347)) (fun _ hk => hk.2) (.slice Ao16 t348.length co16)) (fun _ hk => hk.2) (.slice Ao17 t351.length co17)) (fun _ hk => hk.2) (.slice Ao18 t354.length co18)) (fun _ hk => ⟨hk.1.1.1, hk.1.1.2⟩), by (with_reducible repeat (first | apply Kd.R_alloc | apply Kd.R_drewN | apply Kd.R_drew)); exact Kd.R_mono (Kd.R_far (p := ⟨gb339, 7, none⟩) (Kd.R_far (p := ⟨gb339, 6, none⟩) (Kd.R_far (p := ⟨gb339, 5, none⟩) (Kd.R_far (p := ⟨gb339, 4, none⟩) (Kd.R_far (p := ⟨gb339, 3, none⟩) (Kd.R_far (p := ⟨gb339, 2, none⟩) (Kd.R_far (p := ⟨gb339, 1, none⟩) (Kd.R_far (p := ⟨gb339, 0, none⟩) (Kd.R_far (p := ⟨gb359, 0, none⟩) (Kd.R_far (p := ⟨gb359, 7, none⟩) (Kd.R_far (p := ⟨gb359, 6, none⟩) (Kd.R_far (p := ⟨gb359, 5, none⟩) (Kd.R_far (p := ⟨gb359, 4, none⟩) (Kd.R_far (p := ⟨gb359, 3, none⟩) (Kd.R_far (p := ⟨gb359, 2, none⟩) (Kd.R_far (p := ⟨gb359, 1, none⟩) (Kd.R_far (p := ⟨gb359, 0, none⟩) (Kd.R_types (Kd.R_types HO356.out BK359.out (by decide)) BK339.out (by decide)) (fun _ hk => hk.1.2) (.string t343)) (fun _ hk => hk.1.2) (.bool t344)) (fun _ hk => hk.1.2) (.int .i64 t345)) (fun _ hk => hk.1.2) (.int .i64 t346)) (fun _ hk => hk.1.2) (.string t347)) (fun _ hk => hk.1.2) (.slice Ao16 t348.length co16)) (fun _ hk => hk.1.2) (.slice Ao17 t351.length co17)) (fun _ hk => hk.1.2) (.slice Ao18 t354.length co18)) (fun _ hk => hk.1.2) (.string t340)) (fun _ hk => hk.2) (.string t340)) (fun _ hk => hk.2) (.bool t344)) (fun _ hk => hk.2) (.int .i64 t345)) (fun _ hk => hk.2) (.int .i64 t346)) (fun _ hk => hk.2) (.string t347)) (fun _ hk => hk.2) (.slice Ao16 t348.length co16)) (fun _ hk => hk.2) (.slice Ao17 t351.length co17)) (fun _ hk => hk.2) (.slice Ao18 t354.length co18)) (fun _ hk => hk.1.1), by repeat (first | (with_reducible first | exact HB.out | apply below_alloc | apply pw_below_drewN | apply below_drew1 | refine below_set ?_ GE339.out | refine below_set ?_ GE359.out) | exact HB.out)⟩
     ·rw [if_neg c10] at H
      exact absurd H (by simp)
    ·replace c9 := Bool.eq_false_iff.mpr c9
     subst c9
     rw [if_neg (show ¬ (false = true) by decide)] at H
     replace H := Option.bind_eq_some_iff.mp H
     obtain ⟨⟨t360, t361, t362⟩, A200, H⟩ := H
     (try dsimp only at H)
     have A20 := Aside0.mk A200
     clear A200
     simp only [Option.some.injEq, Prod.mk.injEq] at H
     obtain ⟨rfl, rfl, rfl, rfl, rfl, rfl, rfl, rfl, rfl, rfl⟩ := H
     go_wp2_with (first | ((with_reducible refine gate_callee (f := 102) rfl ?_); refine goesL_ (some 45) rfl rfl Tryz.func102 (by kernel_rfl) rfl #[.string t341] rfl (by simp only [List.map_toArray, List.map_cons, List.map_nil] <;> rfl) ?_; (with_reducible refine (glacisref05_Params.calls kj3 t341 t360 t361 t362 _ A20.out).mono ?_); rintro e w21 ⟨v363, rfl, ho0, hb⟩; refine ⟨_, rfl, ?_⟩; have n0_ := Aside0.mk (Kd.R_lower ho0 (below_size (bl_ HB.out))); have n1_ := Aside0.mk (blk_below (g := gb339) (o := .cells #[.string ⟨#[]⟩, .bool false, .int .i64 0, .int .i64 0, .string ⟨#[]⟩, .slice none 0 0, .slice none 0 0, .slice none 0 0] 34 (0, 0)) (kl_ BK339.out) hb); have n2_ := Aside0.mk (below_step (bl_ HB.out) hb); clear BK339; clear HB; have HO364 := n0_; have BK339 := n1_; have HB := n2_; clear n0_ n1_ n2_; (try clear hb); (try clear hb2); (try clear hk); (try clear hi); (try clear ho0); obtain ⟨Ao22, co22, eo22⟩ := Kd.R_slice HO364.out; subst eo22; obtain ⟨hcz23_0, hcz23_1, hcz23_2, hcz23_3, hcz23_4, hcz23_5, hcz23_6, hcz23_7⟩ := c8_ BK339.out; obtain ⟨hfz23_0, hfz23_1, hfz23_2, hfz23_3, hfz23_4, hfz23_5, hfz23_6, hfz23_7⟩ := f8_ BK339.out))
     refine bodyPost_ret (results_ctt rfl _ _ gb339 34 #[.string t340, .bool false, .int .i64 6, .int .i64 1, .string ⟨#[]⟩, .slice Ao22 t360.length co22, .slice none 0 0, .slice none 0 0] (0, 0) _ rfl (by (repeat refine kq_ ?_); refine blk_put (cs := #[.string t340, .bool false, .int .i64 6, .int .i64 1, .string ⟨#[]⟩, .slice Ao22 t360.length co22, .slice none 0 0, .slice none 0 0]) ?_ 7 _ rfl; (repeat refine kq_ ?_); refine blk_put (cs := #[.string t340, .bool false, .int .i64 6, .int .i64 1, .string ⟨#[]⟩, .slice Ao22 t360.length co22, .slice none 0 0, .slice none 0 0]) ?_ 6 _ rfl; (repeat refine kq_ ?_); refine blk_put (cs := #[.string t340, .bool false, .int .i64 6, .int .i64 1, .string ⟨#[]⟩, .slice none 0 0, .slice none 0 0, .slice none 0 0]) ?_ 5 _ rfl; (repeat refine kq_ ?_); refine blk_put (cs := #[.string t340, .bool false, .int .i64 6, .int .i64 1, .string ⟨#[]⟩, .slice none 0 0, .slice none 0 0, .slice none 0 0]) ?_ 4 _ rfl; (repeat refine kq_ ?_); refine blk_put (cs := #[.string t340, .bool false, .int .i64 6, .int .i64 0, .string ⟨#[]⟩, .slice none 0 0, .slice none 0 0, .slice none 0 0]) ?_ 3 _ rfl; (repeat refine kq_ ?_); refine blk_put (cs := #[.string t340, .bool false, .int .i64 0, .int .i64 0, .string ⟨#[]⟩, .slice none 0 0, .slice none 0 0, .slice none 0 0]) ?_ 2 _ rfl; (repeat refine kq_ ?_); refine blk_put (cs := #[.string t340, .bool false, .int .i64 0, .int .i64 0, .string ⟨#[]⟩, .slice none 0 0, .slice none 0 0, .slice none 0 0]) ?_ 1 _ rfl; (repeat refine kq_ ?_); refine blk_put (cs := #[.string ⟨#[]⟩, .bool false, .int .i64 0, .int .i64 0, .string ⟨#[]⟩, .slice none 0 0, .slice none 0 0, .slice none 0 0]) ?_ 0 _ rfl; (repeat refine kq_ ?_); exact BK339.out) Tryz.underlying34 rfl (by kernel_rfl)) rfl ?_
     exact ⟨_, _, _, by first | rfl | simp [*], by (with_reducible repeat (first | apply Kd.R_alloc | apply Kd.R_drewN | apply Kd.R_drew)); exact Kd.R_mono (Kd.R_far (p := ⟨gb339, 7, none⟩) (Kd.R_far (p := ⟨gb339, 6, none⟩) (Kd.R_far (p := ⟨gb339, 5, none⟩) (Kd.R_far (p := ⟨gb339, 4, none⟩) (Kd.R_far (p := ⟨gb339, 3, none⟩) (Kd.R_far (p := ⟨gb339, 2, none⟩) (Kd.R_far (p := ⟨gb339, 1, none⟩) (Kd.R_far (p := ⟨gb339, 0, none⟩) (Kd.R_types HO364.out BK339.out (by decide)) (fun _ hk => hk.2) (.string t340)) (fun _ hk => hk.2) (.bool false)) (fun _ hk => hk.2) (.int .i64 6)) (fun _ hk => hk.2) (.int .i64 1)) (fun _ hk => hk.2) (.string ⟨#[]⟩)) (fun _ hk => hk.2) (.slice Ao22 t360.length co22)) (fun _ hk => hk.2) (.slice none 0 0)) (fun _ hk => hk.2) (.slice none 0 0)) (fun _ hk => (by simp [Value.ownBlock])), by first | exact Kd.S_nil _ _ _ _ _ | exact Kd.N_nil _ _ _ _ _ | exact Kd.V_nil _ _ _ _ _ | exact Kd.Q_nil _ _ _ _ _ | exact Kd.R_nil _ _ _ _ _, by first | exact Kd.R_nil _ _ _ _ _ | exact Kd.S_nil _ _ _ _ _, by repeat (first | (with_reducible first | exact HB.out | apply below_alloc | apply pw_below_drewN | apply below_drew1 | refine below_set ?_ GE339.out) | exact HB.out)⟩
 ·rw [if_neg c3] at H
  obtain ⟨c3b0, c3b1⟩ := eF_ c3
  simp only [Option.some.injEq, Prod.mk.injEq] at H
  obtain ⟨rfl, rfl, rfl, rfl, rfl, rfl, rfl, rfl, rfl, rfl⟩ := H
  go_enter Tryz.func74, Tryz.ntmps74
  go_wp2_with (first | ((with_reducible refine gate_dst (N := 2) rfl ?_); refine box_event ?hg (N := 2) ?hd (cs := #[.string ⟨#[]⟩, .bool false, .int .i64 0, .int .i64 0, .string ⟨#[]⟩, .slice none 0 0, .slice none 0 0, .slice none 0 0]) (t := 34) ?hr ?_; (case hd => rfl); (case hg => rfl); (case hr => first | (go_simp; done) | (go_simp; rfl)); intro gb339 hg w24 hbox hb; have n0_ := Aside0.mk (below_step (bl_ HB.out) hb); have n1_ := Aside0.mk (hbox); have n2_ := Aside0.mk ((hg_ hg (bl_ HB.out))); have n3_ := Aside0.mk ((hg_ hg (bl_ HB.out))); clear HB; have HB := n0_; have BK339 := n1_; have GW339 := n2_; have GE339 := n3_; clear n0_ n1_ n2_ n3_; clear hb hbox hg) | ((with_reducible refine gate_callee (f := 36) rfl ?_); refine goesL_ (some 16) rfl rfl Tryz.func36 (by kernel_rfl) rfl #[.string a0] rfl (by simp only [List.map_toArray, List.map_cons, List.map_nil] <;> rfl) ?_; (with_reducible refine (glacisref05_Key.calls k a0 t340 t341 t342 _ A2.out).mono ?_); rintro e w' ⟨rfl, ⟨nd, rfl⟩⟩; refine ⟨_, rfl, ?_⟩; (try (rw [drewN_self w24]; generalize hq_ : World.drewN w24 _ = w24; have l_ := lq_ hq_; have n0_ := Aside0.mk (kl_ (W := w24) BK339.out); have n1_ := Aside0.mk (bl_ (W := w24) HB.out); clear BK339 HB hq_ l_; have BK339 := n0_; have HB := n1_; clear n0_ n1_)); obtain ⟨hcz25_0, hcz25_1, hcz25_2, hcz25_3, hcz25_4, hcz25_5, hcz25_6, hcz25_7⟩ := c8_ BK339.out; obtain ⟨hfz25_0, hfz25_1, hfz25_2, hfz25_3, hfz25_4, hfz25_5, hfz25_6, hfz25_7⟩ := f8_ BK339.out))
  refine bodyPost_ret (results_ctt rfl _ _ gb339 34 #[.string ⟨#[]⟩, .bool false, .int .i64 0, .int .i64 0, .string ⟨#[]⟩, .slice none 0 0, .slice none 0 0, .slice none 0 0] (0, 0) _ rfl (by (repeat refine kq_ ?_); refine blk_put (cs := #[.string ⟨#[]⟩, .bool false, .int .i64 0, .int .i64 0, .string ⟨#[]⟩, .slice none 0 0, .slice none 0 0, .slice none 0 0]) ?_ 7 _ rfl; (repeat refine kq_ ?_); refine blk_put (cs := #[.string ⟨#[]⟩, .bool false, .int .i64 0, .int .i64 0, .string ⟨#[]⟩, .slice none 0 0, .slice none 0 0, .slice none 0 0]) ?_ 6 _ rfl; (repeat refine kq_ ?_); refine blk_put (cs := #[.string ⟨#[]⟩, .bool false, .int .i64 0, .int .i64 0, .string ⟨#[]⟩, .slice none 0 0, .slice none 0 0, .slice none 0 0]) ?_ 5 _ rfl; (repeat refine kq_ ?_); refine blk_put (cs := #[.string ⟨#[]⟩, .bool false, .int .i64 0, .int .i64 0, .string ⟨#[]⟩, .slice none 0 0, .slice none 0 0, .slice none 0 0]) ?_ 4 _ rfl; (repeat refine kq_ ?_); refine blk_put (cs := #[.string ⟨#[]⟩, .bool false, .int .i64 0, .int .i64 0, .string ⟨#[]⟩, .slice none 0 0, .slice none 0 0, .slice none 0 0]) ?_ 3 _ rfl; (repeat refine kq_ ?_); refine blk_put (cs := #[.string ⟨#[]⟩, .bool false, .int .i64 0, .int .i64 0, .string ⟨#[]⟩, .slice none 0 0, .slice none 0 0, .slice none 0 0]) ?_ 2 _ rfl; (repeat refine kq_ ?_); refine blk_put (cs := #[.string ⟨#[]⟩, .bool false, .int .i64 0, .int .i64 0, .string ⟨#[]⟩, .slice none 0 0, .slice none 0 0, .slice none 0 0]) ?_ 1 _ rfl; (repeat refine kq_ ?_); refine blk_put (cs := #[.string ⟨#[]⟩, .bool false, .int .i64 0, .int .i64 0, .string ⟨#[]⟩, .slice none 0 0, .slice none 0 0, .slice none 0 0]) ?_ 0 _ rfl; (repeat refine kq_ ?_); exact BK339.out) Tryz.underlying34 rfl (by kernel_rfl)) rfl ?_
  exact ⟨_, _, _, by first | rfl | simp [*], by first | exact Kd.R_nil _ _ _ _ _ | exact Kd.S_nil _ _ _ _ _, by first | exact Kd.S_nil _ _ _ _ _ | exact Kd.N_nil _ _ _ _ _ | exact Kd.V_nil _ _ _ _ _ | exact Kd.Q_nil _ _ _ _ _ | exact Kd.R_nil _ _ _ _ _, by first | exact Kd.R_nil _ _ _ _ _ | exact Kd.S_nil _ _ _ _ _, by repeat (first | (with_reducible first | exact HB.out | apply below_alloc | apply pw_below_drewN | apply below_drew1 | refine below_set ?_ GE339.out) | exact HB.out)⟩
def glacisref06_either.f (k : Nat) (a0 : ByteArray) (a1 : Bool) : Option (ByteArray × Bool × Int × Int × ByteArray × (List (S60)) × (List (S31)) × (List (S60)) × ByteArray × Bool) := if a1 = true then ((glacisref06_keyed.f k a0).bind fun bt366 => (some (bt366.1, bt366.2.1, bt366.2.2.1, bt366.2.2.2.1, bt366.2.2.2.2.1, bt366.2.2.2.2.2.1, bt366.2.2.2.2.2.2.1, bt366.2.2.2.2.2.2.2.1, bt366.2.2.2.2.2.2.2.2.1, bt366.2.2.2.2.2.2.2.2.2))) else ((glacisref06_member.f k a0).bind fun bt382 => (some (bt382.1, bt382.2.1, bt382.2.2.1, bt382.2.2.2.1, bt382.2.2.2.2.1, bt382.2.2.2.2.2.1, bt382.2.2.2.2.2.2.1, bt382.2.2.2.2.2.2.2.1, bt382.2.2.2.2.2.2.2.2.1, bt382.2.2.2.2.2.2.2.2.2)))
theorem glacisref06_either.calls (k : Nat) (a0 : ByteArray) (a1 : Bool) (r1 : ByteArray) (r2 : Bool) (r3 : Int) (r4 : Int) (r5 : ByteArray) (r6 : List (S60)) (r7 : List (S31)) (r8 : List (S60)) (r9 : ByteArray) (r10 : Bool) (w : World) (h : glacisref06_either.f k a0 a1 = some (r1, r2, r3, r4, r5, r6, r7, r8, r9, r10)) :
  Calls Tryz.prog 44 #[.string a0, .bool a1] w fun e w' => ∃ v5_ v6_ v7_ : Value, e = .returned (.tuple #[.agg #[.string r1, .bool r2, .int .i64 r3, .int .i64 r4, .string r5, v5_, v6_, v7_], .string r9, .bool r10]) ∧ Kd.R k60 60 w' w.heap.size (fun k_ => some k_ ≠ (v7_ : Value).ownBlock) v5_ r6 ∧ Kd.S k31 31 w' w.heap.size (fun k_ => some k_ ≠ (v5_ : Value).ownBlock ∧ some k_ ≠ (v7_ : Value).ownBlock) v6_ r7 ∧ Kd.R k60 60 w' w.heap.size (fun k_ => some k_ ≠ (v5_ : Value).ownBlock) v7_ r8 ∧ Below w.heap.size w w' := by
 have hu34 := Tryz.underlying34
 have HB := Aside0.mk (Below.refl w.heap.size w)
 have H : (if a1 = true then ((glacisref06_keyed.f k a0).bind fun bt366 => (some (bt366.1, bt366.2.1, bt366.2.2.1, bt366.2.2.2.1, bt366.2.2.2.2.1, bt366.2.2.2.2.2.1, bt366.2.2.2.2.2.2.1, bt366.2.2.2.2.2.2.2.1, bt366.2.2.2.2.2.2.2.2.1, bt366.2.2.2.2.2.2.2.2.2))) else ((glacisref06_member.f k a0).bind fun bt382 => (some (bt382.1, bt382.2.1, bt382.2.2.1, bt382.2.2.2.1, bt382.2.2.2.2.1, bt382.2.2.2.2.2.1, bt382.2.2.2.2.2.2.1, bt382.2.2.2.2.2.2.2.1, bt382.2.2.2.2.2.2.2.2.1, bt382.2.2.2.2.2.2.2.2.2)))) = some (r1, r2, r3, r4, r5, r6, r7, r8, r9, r10) := h
 clear h
 by_cases c3 : a1 = true
 ·subst c3
  rw [if_pos rfl] at H
  replace H := Option.bind_eq_some_iff.mp H
  obtain ⟨⟨t366, t367, t368, t369, t370, t371, t374, t377, t380, t381⟩, A40, H⟩ := H
  (try dsimp only at H)
  have A4 := Aside0.mk A40
  clear A40
  simp only [Option.some.injEq, Prod.mk.injEq] at H
  obtain ⟨rfl, rfl, rfl, rfl, rfl, rfl, rfl, rfl, rfl, rfl⟩ := H
  go_enter Tryz.func44, Tryz.ntmps44
  go_wp2_with (first | ((with_reducible refine gate_dst (N := 4) rfl ?_); refine box_event ?hg (N := 4) ?hd (cs := #[.string ⟨#[]⟩, .bool false, .int .i64 0, .int .i64 0, .string ⟨#[]⟩, .slice none 0 0, .slice none 0 0, .slice none 0 0]) (t := 34) ?hr ?_; (case hd => rfl); (case hg => rfl); (case hr => first | (go_simp; done) | (go_simp; rfl)); intro gb365 hg w5 hbox hb; have n0_ := Aside0.mk (below_step (bl_ HB.out) hb); have n1_ := Aside0.mk (hbox); have n2_ := Aside0.mk ((hg_ hg (bl_ HB.out))); have n3_ := Aside0.mk ((hg_ hg (bl_ HB.out))); clear HB; have HB := n0_; have BK365 := n1_; have GW365 := n2_; have GE365 := n3_; clear n0_ n1_ n2_ n3_; clear hb hbox hg) | ((with_reducible refine gate_callee (f := 74) rfl ?_); refine goesL_ (some 9) rfl rfl Tryz.func74 (by kernel_rfl) rfl #[.string a0] rfl (by simp only [List.map_toArray, List.map_cons, List.map_nil] <;> rfl) ?_; (with_reducible refine (glacisref06_keyed.calls k a0 t366 t367 t368 t369 t370 t371 t374 t377 t380 t381 _ A4.out).mono ?_); rintro e w6 ⟨v372, v375, v378, rfl, ho0, ho1, ho2, hb⟩; refine ⟨_, rfl, ?_⟩; have n0_ := Aside0.mk (Kd.R_lower ho0 (below_size (bl_ HB.out))); have n1_ := Aside0.mk (Kd.S_lower ho1 (below_size (bl_ HB.out))); have n2_ := Aside0.mk (Kd.R_lower ho2 (below_size (bl_ HB.out))); have n3_ := Aside0.mk (blk_below (g := gb365) (o := .cells #[.string ⟨#[]⟩, .bool false, .int .i64 0, .int .i64 0, .string ⟨#[]⟩, .slice none 0 0, .slice none 0 0, .slice none 0 0] 34 (0, 0)) (kl_ BK365.out) hb); have n4_ := Aside0.mk (below_step (bl_ HB.out) hb); clear BK365; clear HB; have HO373 := n0_; have HO376 := n1_; have HO379 := n2_; have BK365 := n3_; have HB := n4_; clear n0_ n1_ n2_ n3_ n4_; (try clear hb); (try clear hb2); (try clear hk); (try clear hi); (try clear ho0); (try clear ho1); (try clear ho2); obtain ⟨hcz7_0, hcz7_1, hcz7_2, hcz7_3, hcz7_4, hcz7_5, hcz7_6, hcz7_7⟩ := c8_ BK365.out; obtain ⟨hfz7_0, hfz7_1, hfz7_2, hfz7_3, hfz7_4, hfz7_5, hfz7_6, hfz7_7⟩ := f8_ BK365.out; obtain ⟨Ao8, co8, eo8⟩ := Kd.R_slice HO373.out; subst eo8; obtain ⟨Ao9, co9, eo9⟩ := Kd.S_slice HO376.out; subst eo9; obtain ⟨Ao10, co10, eo10⟩ := Kd.R_slice HO379.out; subst eo10))
  refine bodyPost_ret (results_ctt rfl _ _ gb365 34 #[.string t366, .bool t367, .int .i64 t368, .int .i64 t369, .string t370, .slice Ao8 t371.length co8, .slice Ao9 t374.length co9, .slice Ao10 t377.length co10] (0, 0) _ rfl (by (repeat refine kq_ ?_); refine blk_put (cs := #[.string t366, .bool t367, .int .i64 t368, .int .i64 t369, .string t370, .slice Ao8 t371.length co8, .slice Ao9 t374.length co9, .slice none 0 0]) ?_ 7 _ rfl; (repeat refine kq_ ?_); refine blk_put (cs := #[.string t366, .bool t367, .int .i64 t368, .int .i64 t369, .string t370, .slice Ao8 t371.length co8, .slice none 0 0, .slice none 0 0]) ?_ 6 _ rfl; (repeat refine kq_ ?_); refine blk_put (cs := #[.string t366, .bool t367, .int .i64 t368, .int .i64 t369, .string t370, .slice none 0 0, .slice none 0 0, .slice none 0 0]) ?_ 5 _ rfl; (repeat refine kq_ ?_); refine blk_put (cs := #[.string t366, .bool t367, .int .i64 t368, .int .i64 t369, .string ⟨#[]⟩, .slice none 0 0, .slice none 0 0, .slice none 0 0]) ?_ 4 _ rfl; (repeat refine kq_ ?_); refine blk_put (cs := #[.string t366, .bool t367, .int .i64 t368, .int .i64 0, .string ⟨#[]⟩, .slice none 0 0, .slice none 0 0, .slice none 0 0]) ?_ 3 _ rfl; (repeat refine kq_ ?_); refine blk_put (cs := #[.string t366, .bool t367, .int .i64 0, .int .i64 0, .string ⟨#[]⟩, .slice none 0 0, .slice none 0 0, .slice none 0 0]) ?_ 2 _ rfl; (repeat refine kq_ ?_); refine blk_put (cs := #[.string t366, .bool false, .int .i64 0, .int .i64 0, .string ⟨#[]⟩, .slice none 0 0, .slice none 0 0, .slice none 0 0]) ?_ 1 _ rfl; (repeat refine kq_ ?_); refine blk_put (cs := #[.string ⟨#[]⟩, .bool false, .int .i64 0, .int .i64 0, .string ⟨#[]⟩, .slice none 0 0, .slice none 0 0, .slice none 0 0]) ?_ 0 _ rfl; (repeat refine kq_ ?_); exact BK365.out) Tryz.underlying34 rfl (by kernel_rfl)) rfl ?_
  exact ⟨_, _, _, by first | rfl | simp [*], by (with_reducible repeat (first | apply Kd.R_alloc | apply Kd.R_drewN | apply Kd.R_drew)); exact Kd.R_mono (Kd.R_far (p := ⟨gb365, 7, none⟩) (Kd.R_far (p := ⟨gb365, 6, none⟩) (Kd.R_far (p := ⟨gb365, 5, none⟩) (Kd.R_far (p := ⟨gb365, 4, none⟩) (Kd.R_far (p := ⟨gb365, 3, none⟩) (Kd.R_far (p := ⟨gb365, 2, none⟩) (Kd.R_far (p := ⟨gb365, 1, none⟩) (Kd.R_far (p := ⟨gb365, 0, none⟩) (Kd.R_types HO373.out BK365.out (by decide)) (fun _ hk => hk.2) (.string t366)) (fun _ hk => hk.2) (.bool t367)) (fun _ hk => hk.2) (.int .i64 t368)) (fun _ hk => hk.2) (.int .i64 t369)) (fun _ hk => hk.2) (.string t370)) (fun _ hk => hk.2) (.slice Ao8 t371.length co8)) (fun _ hk => hk.2) (.slice Ao9 t374.length co9)) (fun _ hk => hk.2) (.slice Ao10 t377.length co10)) (fun _ hk => hk.1), by (with_reducible repeat (first | apply Kd.S_alloc | apply Kd.S_drewN | apply Kd.S_drew)); exact Kd.S_mono (Kd.S_far (p := ⟨gb365, 7, none⟩) (Kd.S_far (p := ⟨gb365, 6, none⟩) (Kd.S_far (p := ⟨gb365, 5, none⟩) (Kd.S_far (p := ⟨gb365, 4, none⟩) (Kd.S_far (p := ⟨gb365, 3, none⟩) (Kd.S_far (p := ⟨gb365, 2, none⟩) (Kd.S_far (p := ⟨gb365, 1, none⟩) (Kd.S_far (p := ⟨gb365, 0, none⟩) (Kd.S_types HO376.out BK365.out (by decide)) (fun _ hk => hk.2) (.string t366)) (fun _ hk => hk.2) (.bool t367)) (fun _ hk => hk.2) (.int .i64 t368)) (fun _ hk => hk.2) (.int .i64 t369)) (fun _ hk => hk.2) (.string t370)) (fun _ hk => hk.2) (.slice Ao8 t371.length co8)) (fun _ hk => hk.2) (.slice Ao9 t374.length co9)) (fun _ hk => hk.2) (.slice Ao10 t377.length co10)) (fun _ hk => ⟨hk.1.1, hk.1.2⟩), by (with_reducible repeat (first | apply Kd.R_alloc | apply Kd.R_drewN | apply Kd.R_drew)); exact Kd.R_mono (Kd.R_far (p := ⟨gb365, 7, none⟩) (Kd.R_far (p := ⟨gb365, 6, none⟩) (Kd.R_far (p := ⟨gb365, 5, none⟩) (Kd.R_far (p := ⟨gb365, 4, none⟩) (Kd.R_far (p := ⟨gb365, 3, none⟩) (Kd.R_far (p := ⟨gb365, 2, none⟩) (Kd.R_far (p := ⟨gb365, 1, none⟩) (Kd.R_far (p := ⟨gb365, 0, none⟩) (Kd.R_types HO379.out BK365.out (by decide)) (fun _ hk => hk.2) (.string t366)) (fun _ hk => hk.2) (.bool t367)) (fun _ hk => hk.2) (.int .i64 t368)) (fun _ hk => hk.2) (.int .i64 t369)) (fun _ hk => hk.2) (.string t370)) (fun _ hk => hk.2) (.slice Ao8 t371.length co8)) (fun _ hk => hk.2) (.slice Ao9 t374.length co9)) (fun _ hk => hk.2) (.slice Ao10 t377.length co10)) (fun _ hk => hk.1), by repeat (first | (with_reducible first | exact HB.out | apply below_alloc | apply pw_below_drewN | apply below_drew1 | refine below_set ?_ GE365.out) | exact HB.out)⟩
 ·replace c3 := Bool.eq_false_iff.mpr c3
  subst c3
  rw [if_neg (show ¬ (false = true) by decide)] at H
  replace H := Option.bind_eq_some_iff.mp H
  obtain ⟨⟨t382, t383, t384, t385, t386, t387, t390, t393, t396, t397⟩, A110, H⟩ := H
  (try dsimp only at H)
  have A11 := Aside0.mk A110
  clear A110
  simp only [Option.some.injEq, Prod.mk.injEq] at H
  obtain ⟨rfl, rfl, rfl, rfl, rfl, rfl, rfl, rfl, rfl, rfl⟩ := H
  go_enter Tryz.func44, Tryz.ntmps44
  go_wp2_with (first | ((with_reducible refine gate_dst (N := 4) rfl ?_); refine box_event ?hg (N := 4) ?hd (cs := #[.string ⟨#[]⟩, .bool false, .int .i64 0, .int .i64 0, .string ⟨#[]⟩, .slice none 0 0, .slice none 0 0, .slice none 0 0]) (t := 34) ?hr ?_; (case hd => rfl); (case hg => rfl); (case hr => first | (go_simp; done) | (go_simp; rfl)); intro gb365 hg w12 hbox hb; have n0_ := Aside0.mk (below_step (bl_ HB.out) hb); have n1_ := Aside0.mk (hbox); have n2_ := Aside0.mk ((hg_ hg (bl_ HB.out))); have n3_ := Aside0.mk ((hg_ hg (bl_ HB.out))); clear HB; have HB := n0_; have BK365 := n1_; have GW365 := n2_; have GE365 := n3_; clear n0_ n1_ n2_ n3_; clear hb hbox hg) | ((with_reducible refine gate_callee (f := 75) rfl ?_); refine goesL_ (some 14) rfl rfl Tryz.func75 (by kernel_rfl) rfl #[.string a0] rfl (by simp only [List.map_toArray, List.map_cons, List.map_nil] <;> rfl) ?_; (with_reducible refine (glacisref06_member.calls k a0 t382 t383 t384 t385 t386 t387 t390 t393 t396 t397 _ A11.out).mono ?_); rintro e w13 ⟨v388, v391, v394, rfl, ho0, ho1, ho2, hb⟩; refine ⟨_, rfl, ?_⟩; have n0_ := Aside0.mk (Kd.R_lower ho0 (below_size (bl_ HB.out))); have n1_ := Aside0.mk (Kd.S_lower ho1 (below_size (bl_ HB.out))); have n2_ := Aside0.mk (Kd.R_lower ho2 (below_size (bl_ HB.out))); have n3_ := Aside0.mk (blk_below (g := gb365) (o := .cells #[.string ⟨#[]⟩, .bool false, .int .i64 0, .int .i64 0, .string ⟨#[]⟩, .slice none 0 0, .slice none 0 0, .slice none 0 0] 34 (0, 0)) (kl_ BK365.out) hb); have n4_ := Aside0.mk (below_step (bl_ HB.out) hb); clear BK365; clear HB; have HO389 := n0_; have HO392 := n1_; have HO395 := n2_; have BK365 := n3_; have HB := n4_; clear n0_ n1_ n2_ n3_ n4_; (try clear hb); (try clear hb2); (try clear hk); (try clear hi); (try clear ho0); (try clear ho1); (try clear ho2); obtain ⟨hcz14_0, hcz14_1, hcz14_2, hcz14_3, hcz14_4, hcz14_5, hcz14_6, hcz14_7⟩ := c8_ BK365.out; obtain ⟨hfz14_0, hfz14_1, hfz14_2, hfz14_3, hfz14_4, hfz14_5, hfz14_6, hfz14_7⟩ := f8_ BK365.out; obtain ⟨Ao15, co15, eo15⟩ := Kd.R_slice HO389.out; subst eo15; obtain ⟨Ao16, co16, eo16⟩ := Kd.S_slice HO392.out; subst eo16; obtain ⟨Ao17, co17, eo17⟩ := Kd.R_slice HO395.out; subst eo17))
  refine bodyPost_ret (results_ctt rfl _ _ gb365 34 #[.string t382, .bool t383, .int .i64 t384, .int .i64 t385, .string t386, .slice Ao15 t387.length co15, .slice Ao16 t390.length co16, .slice Ao17 t393.length co17] (0, 0) _ rfl (by (repeat refine kq_ ?_); refine blk_put (cs := #[.string t382, .bool t383, .int .i64 t384, .int .i64 t385, .string t386, .slice Ao15 t387.length co15, .slice Ao16 t390.length co16, .slice none 0 0]) ?_ 7 _ rfl; (repeat refine kq_ ?_); refine blk_put (cs := #[.string t382, .bool t383, .int .i64 t384, .int .i64 t385, .string t386, .slice Ao15 t387.length co15, .slice none 0 0, .slice none 0 0]) ?_ 6 _ rfl; (repeat refine kq_ ?_); refine blk_put (cs := #[.string t382, .bool t383, .int .i64 t384, .int .i64 t385, .string t386, .slice none 0 0, .slice none 0 0, .slice none 0 0]) ?_ 5 _ rfl; (repeat refine kq_ ?_); refine blk_put (cs := #[.string t382, .bool t383, .int .i64 t384, .int .i64 t385, .string ⟨#[]⟩, .slice none 0 0, .slice none 0 0, .slice none 0 0]) ?_ 4 _ rfl; (repeat refine kq_ ?_); refine blk_put (cs := #[.string t382, .bool t383, .int .i64 t384, .int .i64 0, .string ⟨#[]⟩, .slice none 0 0, .slice none 0 0, .slice none 0 0]) ?_ 3 _ rfl; (repeat refine kq_ ?_); refine blk_put (cs := #[.string t382, .bool t383, .int .i64 0, .int .i64 0, .string ⟨#[]⟩, .slice none 0 0, .slice none 0 0, .slice none 0 0]) ?_ 2 _ rfl; (repeat refine kq_ ?_); refine blk_put (cs := #[.string t382, .bool false, .int .i64 0, .int .i64 0, .string ⟨#[]⟩, .slice none 0 0, .slice none 0 0, .slice none 0 0]) ?_ 1 _ rfl; (repeat refine kq_ ?_); refine blk_put (cs := #[.string ⟨#[]⟩, .bool false, .int .i64 0, .int .i64 0, .string ⟨#[]⟩, .slice none 0 0, .slice none 0 0, .slice none 0 0]) ?_ 0 _ rfl; (repeat refine kq_ ?_); exact BK365.out) Tryz.underlying34 rfl (by kernel_rfl)) rfl ?_
  exact ⟨_, _, _, by first | rfl | simp [*], by (with_reducible repeat (first | apply Kd.R_alloc | apply Kd.R_drewN | apply Kd.R_drew)); exact Kd.R_mono (Kd.R_far (p := ⟨gb365, 7, none⟩) (Kd.R_far (p := ⟨gb365, 6, none⟩) (Kd.R_far (p := ⟨gb365, 5, none⟩) (Kd.R_far (p := ⟨gb365, 4, none⟩) (Kd.R_far (p := ⟨gb365, 3, none⟩) (Kd.R_far (p := ⟨gb365, 2, none⟩) (Kd.R_far (p := ⟨gb365, 1, none⟩) (Kd.R_far (p := ⟨gb365, 0, none⟩) (Kd.R_types HO389.out BK365.out (by decide)) (fun _ hk => hk.2) (.string t382)) (fun _ hk => hk.2) (.bool t383)) (fun _ hk => hk.2) (.int .i64 t384)) (fun _ hk => hk.2) (.int .i64 t385)) (fun _ hk => hk.2) (.string t386)) (fun _ hk => hk.2) (.slice Ao15 t387.length co15)) (fun _ hk => hk.2) (.slice Ao16 t390.length co16)) (fun _ hk => hk.2) (.slice Ao17 t393.length co17)) (fun _ hk => hk.1), by (with_reducible repeat (first | apply Kd.S_alloc | apply Kd.S_drewN | apply Kd.S_drew)); exact Kd.S_mono (Kd.S_far (p := ⟨gb365, 7, none⟩) (Kd.S_far (p := ⟨gb365, 6, none⟩) (Kd.S_far (p := ⟨gb365, 5, none⟩) (Kd.S_far (p := ⟨gb365, 4, none⟩) (Kd.S_far (p := ⟨gb365, 3, none⟩) (Kd.S_far (p := ⟨gb365, 2, none⟩) (Kd.S_far (p := ⟨gb365, 1, none⟩) (Kd.S_far (p := ⟨gb365, 0, none⟩) (Kd.S_types HO392.out BK365.out (by decide)) (fun _ hk => hk.2) (.string t382)) (fun _ hk => hk.2) (.bool t383)) (fun _ hk => hk.2) (.int .i64 t384)) (fun _ hk => hk.2) (.int .i64 t385)) (fun _ hk => hk.2) (.string t386)) (fun _ hk => hk.2) (.slice Ao15 t387.length co15)) (fun _ hk => hk.2) (.slice Ao16 t390.length co16)) (fun _ hk => hk.2) (.slice Ao17 t393.length co17)) (fun _ hk => ⟨hk.1.1, hk.1.2⟩), by (with_reducible repeat (first | apply Kd.R_alloc | apply Kd.R_drewN | apply Kd.R_drew)); exact Kd.R_mono (Kd.R_far (p := ⟨gb365, 7, none⟩) (Kd.R_far (p := ⟨gb365, 6, none⟩) (Kd.R_far (p := ⟨gb365, 5, none⟩) (Kd.R_far (p := ⟨gb365, 4, none⟩) (Kd.R_far (p := ⟨gb365, 3, none⟩) (Kd.R_far (p := ⟨gb365, 2, none⟩) (Kd.R_far (p := ⟨gb365, 1, none⟩) (Kd.R_far (p := ⟨gb365, 0, none⟩) (Kd.R_types HO395.out BK365.out (by decide)) (fun _ hk => hk.2) (.string t382)) (fun _ hk => hk.2) (.bool t383)) (fun _ hk => hk.2) (.int .i64 t384)) (fun _ hk => hk.2) (.int .i64 t385)) (fun _ hk => hk.2) (.string t386)) (fun _ hk => hk.2) (.slice Ao15 t387.length co15)) (fun _ hk => hk.2) (.slice Ao16 t390.length co16)) (fun _ hk => hk.2) (.slice Ao17 t393.length co17)) (fun _ hk => hk.1), by repeat (first | (with_reducible first | exact HB.out | apply below_alloc | apply pw_below_drewN | apply below_drew1 | refine below_set ?_ GE365.out) | exact HB.out)⟩
attribute [local go_sem high] eqA60
def glacisref06_tabs.l0 : Nat → ByteArray → Option (ByteArray)
 | 0, _ => none
 | k + 1, x0 => if (x0.size : Int) > 0 then (if 0 < (x0.size : Int) then (if (bt x0 0) = 32 then (if 1 ≤ (x0.size : Int) then (glacisref06_tabs.l0 k (x0.extract 1 x0.size)) else (none)) else (if (bt x0 0) = 9 then (if 1 ≤ (x0.size : Int) then (glacisref06_tabs.l0 k (x0.extract 1 x0.size)) else (none)) else (some x0))) else (none)) else (some x0)
def glacisref06_tabs.f (k : Nat) (a0 : ByteArray) : Option (ByteArray) := glacisref06_tabs.l0 k a0
theorem glacisref06_tabs.calls (k : Nat) (a0 : ByteArray) (r : ByteArray) (w : World) (h : glacisref06_tabs.f k a0 = some r) :
  Calls Tryz.prog 46 #[.string a0] w fun e w' => e = .returned (.string r) ∧ Drawn0 w w' := by
 have H : (glacisref06_tabs.l0 k a0) = some r := h
 clear h
 have H' := Aside0.mk H
 clear H
 go_enter Tryz.func46, Tryz.ntmps46
 go_wp2
 go_loopg [0] k (fun kq v0 w' => ∃ (x0_1 : ByteArray), v0 = .string x0_1 ∧ Aside0 (glacisref06_tabs.l0 kq x0_1 = some r) ∧ Aside0 (kq ≤ k) ∧ Drawn0 w w')
 case atStart => exact ⟨(a0), (by first | rfl | simp [*]), H', ⟨Nat.le_refl _⟩, by repeat (first | exact Drawn0.refl _ | apply Drawn0.step)⟩
 case round =>
  clear H'
  obtain ⟨x0_1, rfl, HA, HK1, ⟨m1, rfl⟩⟩ := hrel
  cases gk with
  | zero => exact absurd HA.out (by simp [glacisref06_tabs.l0])
  | succ k1 =>
   have H := HA.out
   clear HA
   simp only [glacisref06_tabs.l0] at H
   by_cases c2 : (x0_1.size : Int) > 0
   ·rw [if_pos c2] at H
    have c2b0 : decide (0 < (x0_1.size : Int)) = true := decide_eq_true c2
    have c2b1 : decide (0 < x0_1.size) = true := decide_eq_true (by omega)
    clear c2
    by_cases c3 : 0 < (x0_1.size : Int)
    ·rw [if_pos c3] at H
     have c3b0 : decide (0 < (x0_1.size : Int)) = true := decide_eq_true c3
     have c3b1 : decide (0 < x0_1.size) = true := decide_eq_true (by omega)
     clear c3
     by_cases c5 : (bt x0_1 0) = 32
     ·rw [if_pos c5] at H
      obtain ⟨c5b0, c5b1⟩ := eT_ c5
      clear c5
      by_cases c6 : 1 ≤ (x0_1.size : Int)
      ·rw [if_pos c6] at H
       have c6b0 := eq_true c6
       have c6b1 : decide (1 ≤ (x0_1.size : Int)) = true := decide_eq_true c6
       clear c6
       have H' := Aside0.mk H
       clear H
       have p4 : 0 ≤ (0 : Int) := (by omega)
       have q4 : 0 < x0_1.size := (by have : (0 : Int) < (x0_1.size : Int) := of_decide_eq_true (by assumption); omega)
       have hx4 : ∀ h : 0 < x0_1.size, ((x0_1[0]'h).toNat : Int) = bt x0_1 0 := bt_at x0_1 0
       clear p4
       have qi4 : (0 < (x0_1.size : Int)) = True := eq_true (of_decide_eq_true (by assumption))
       replace q4 := eq_true q4
       go_wp2
       go_roundg k1
       case measure => have := HK1.out; omega
       case rel => exact ⟨(x0_1.extract 1 x0_1.size), (by first | rfl | simp [*]), H', ⟨by have := HK1.out; omega⟩, by repeat (first | exact Drawn0.refl _ | apply Drawn0.step)⟩
      ·rw [if_neg c6] at H
       exact absurd H (by simp)
     ·rw [if_neg c5] at H
      obtain ⟨c5b0, c5b1⟩ := eF_ c5
      by_cases c8 : (bt x0_1 0) = 9
      ·rw [if_pos c8] at H
       obtain ⟨c8b0, c8b1⟩ := eT_ c8
       clear c8
       by_cases c9 : 1 ≤ (x0_1.size : Int)
       ·rw [if_pos c9] at H
        have c9b0 := eq_true c9
        have c9b1 : decide (1 ≤ (x0_1.size : Int)) = true := decide_eq_true c9
        clear c9
        have H' := Aside0.mk H
        clear H
        have p4 : 0 ≤ (0 : Int) := (by omega)
        have q4 : 0 < x0_1.size := (by have : (0 : Int) < (x0_1.size : Int) := of_decide_eq_true (by assumption); omega)
        have hx4 : ∀ h : 0 < x0_1.size, ((x0_1[0]'h).toNat : Int) = bt x0_1 0 := bt_at x0_1 0
        clear p4
        have qi4 : (0 < (x0_1.size : Int)) = True := eq_true (of_decide_eq_true (by assumption))
        replace q4 := eq_true q4
        have p7 : 0 ≤ (0 : Int) := (by omega)
        have q7 : 0 < x0_1.size := (by have : (0 : Int) < (x0_1.size : Int) := of_decide_eq_true (by assumption); omega)
        have hx7 : ∀ h : 0 < x0_1.size, ((x0_1[0]'h).toNat : Int) = bt x0_1 0 := bt_at x0_1 0
        clear p7
        have qi7 : (0 < (x0_1.size : Int)) = True := eq_true (of_decide_eq_true (by assumption))
        replace q7 := eq_true q7
        go_wp2
        go_roundg k1
        case measure => have := HK1.out; omega
        case rel => exact ⟨(x0_1.extract 1 x0_1.size), (by first | rfl | simp [*]), H', ⟨by have := HK1.out; omega⟩, by repeat (first | exact Drawn0.refl _ | apply Drawn0.step)⟩
       ·rw [if_neg c9] at H
        exact absurd H (by simp)
      ·rw [if_neg c8] at H
       obtain ⟨c8b0, c8b1⟩ := eF_ c8
       obtain rfl := Option.some.inj H
       have p4 : 0 ≤ (0 : Int) := (by omega)
       have q4 : 0 < x0_1.size := (by have : (0 : Int) < (x0_1.size : Int) := of_decide_eq_true (by assumption); omega)
       have hx4 : ∀ h : 0 < x0_1.size, ((x0_1[0]'h).toNat : Int) = bt x0_1 0 := bt_at x0_1 0
       clear p4
       have qi4 : (0 < (x0_1.size : Int)) = True := eq_true (of_decide_eq_true (by assumption))
       replace q4 := eq_true q4
       have p7 : 0 ≤ (0 : Int) := (by omega)
       have q7 : 0 < x0_1.size := (by have : (0 : Int) < (x0_1.size : Int) := of_decide_eq_true (by assumption); omega)
       have hx7 : ∀ h : 0 < x0_1.size, ((x0_1[0]'h).toNat : Int) = bt x0_1 0 := bt_at x0_1 0
       clear p7
       have qi7 : (0 < (x0_1.size : Int)) = True := eq_true (of_decide_eq_true (by assumption))
       replace q7 := eq_true q7
       go_wp2
       go_ret
       exact ⟨by first | rfl | simp [*], by repeat (first | exact Drawn0.refl _ | apply Drawn0.step)⟩
    ·rw [if_neg c3] at H
     exact absurd H (by simp)
   ·rw [if_neg c2] at H
    have c2b0 : decide (0 < (x0_1.size : Int)) = false := decide_eq_false c2
    have c2b1 : decide (0 < x0_1.size) = false := decide_eq_false (by omega)
    clear c2
    obtain rfl := Option.some.inj H
    go_wp2
    go_ret
    exact ⟨by first | rfl | simp [*], by repeat (first | exact Drawn0.refl _ | apply Drawn0.step)⟩
def mapK (m : S34) (l : List S34) : List S34 := l.map (fun q => if q.f0 = m.f0 then m else q)
def anyK (m : S34) (l : List S34) : Bool := l.any (fun q => decide (q.f0 = m.f0))
def withM (l : List S34) (m : S34) : List S34 := if anyK m l = true then mapK m l else mapK m l ++ [m]
theorem take_succM (l : List S34) (n : Nat) (h : n < l.length) : l.take (n + 1) = l.take n ++ [l[n]] := by rw [List.take_succ_eq_append_getElem h]
theorem ba_toList {a b : ByteArray} : a.toList = b.toList ↔ a = b := by
  rw [Lib.toList_data, Lib.toList_data]
  constructor
  · intro h; exact ByteArray.ext (Array.toList_inj.1 h)
  · rintro rfl; rfl
theorem with_R (B : Nat) (A0 : Option Addr) (c0 : Nat) (l : List S34) (m : S34) (A5 : Option Addr) (c5 : Nat) (A6 : Option Addr) (c6 : Nat) (A7 : Option Addr) (c7 : Nat) (w : World) (ok okm : Nat → Prop) (hl : Kd.R k34 34 w B ok (.slice A0 l.length c0) l)
    (hm : (k34).M w B okm m [.string m.f0, .bool m.f1, .int .i64 m.f2.f0, .int .i64 m.f2.f1, .string m.f2.f2, .slice A5 m.f2.f3.length c5, .slice A6 m.f3.length c6, .slice A7 m.f4.length c7]) (hB : B ≤ w.heap.size) (hlen : l.length ≤ 1000000) :
    Calls Tryz.prog 45 #[.slice A0 l.length c0, .agg #[.string m.f0, .bool m.f1, .int .i64 m.f2.f0, .int .i64 m.f2.f1, .string m.f2.f2, .slice A5 m.f2.f3.length c5, .slice A6 m.f3.length c6, .slice A7 m.f4.length c7]] w fun e w' => ∃ v0_ : Value, e = .returned v0_ ∧ Kd.R k34 34 w' B (fun _ => True) v0_ (withM l m) ∧ Below w.heap.size w w' := by
  have hu34 := Tryz.underlying34
  have HL := Aside0.mk (Kd.R_mono (ok' := fun k => k < w.heap.size) (Kd.R_bound hl) (fun k hk => hk.2.2.1))
  have HM := Aside0.mk ((k34).M_mono (ok' := fun k => k < w.heap.size) (fun k hk => hk.2.2.1) ((k34).M_bound hm))
  have hP0 : MB (w.alloc (.cells #[.string m.f0, .bool m.f1, .int .i64 m.f2.f0, .int .i64 m.f2.f1, .string m.f2.f2, .slice A5 m.f2.f3.length c5, .slice A6 m.f3.length c6, .slice A7 m.f4.length c7] 34)) w.heap.size m (.slice A5 m.f2.f3.length c5) (.slice A6 m.f3.length c6) (.slice A7 m.f4.length c7) := blk_new w _
  have HP := Aside0.mk hP0
  have HB := Aside0.mk (below_alloc (Below.refl w.heap.size w) (.cells #[.string m.f0, .bool m.f1, .int .i64 m.f2.f0, .int .i64 m.f2.f1, .string m.f2.f2, .slice A5 m.f2.f3.length c5, .slice A6 m.f3.length c6, .slice A7 m.f4.length c7] 34))
  clear hl hm hP0
  go_enter Tryz.func45, Tryz.ntmps45
  go_wp2
  generalize w.alloc (.cells #[.string m.f0, .bool m.f1, .int .i64 m.f2.f0, .int .i64 m.f2.f1, .string m.f2.f2, .slice A5 m.f2.f3.length c5, .slice A6 m.f3.length c6, .slice A7 m.f4.length c7] 34) = w1 at *
  go_loopw [5, 6, 7] (fun v5 v6 v7 wr => ∃ (n : Nat), n ≤ l.length ∧ v7 = .int .i64 n ∧ v6 = .bool (anyK m (l.take n)) ∧ Aside0 (Kd.R k34 34 wr B (fun _ => True) v5 (mapK m (l.take n))) ∧ Aside0 (∀ k, v5.ownBlock = some k → w.heap.size < k) ∧ Aside0 (Below w.heap.size w wr) ∧ Aside0 (MB wr w.heap.size m (.slice A5 m.f2.f3.length c5) (.slice A6 m.f3.length c6) (.slice A7 m.f4.length c7))) (fun _ _ v7 _ => l.length - (intOf v7).toNat)
  case atStart => exact ⟨0, Nat.zero_le _, rfl, rfl, ⟨Kd.R_nil _ _ _ _ _⟩, ⟨fun k h => by cases h⟩, HB, HP⟩
  case round =>
    clear HB HP
    obtain ⟨n, hn, rfl, rfl, HO, HOB, HB, HP⟩ := hrel
    by_cases hlt : n < l.length
    · have hltd : decide ((n : Int) < (l.length : Int)) = true := decide_eq_true (by omega)
      have hLr := Kd.R_below HL.out HB.out
      obtain ⟨g, cap, hvg, hgb, hgl, hcl⟩ := Kd.R_form hLr (by omega)
      injection hvg with hA0 _ hc0
      subst hA0 hc0
      obtain ⟨cs, hcs, hMe, hcc, _⟩ := Kd.R_elem hLr z34 (n : Int) (by omega) (by omega)
      have hqe : l.getD (n : Int).toNat z34 = l[n] := by simp [List.getD_eq_getElem?_getD, hlt]
      rw [hqe] at hMe
      have htk := take_succM l n hlt
      generalize l[n] = q at *
      obtain ⟨t5, t6, t7, rfl, r5, r6, r7⟩ := k34_openM hMe
      obtain ⟨B5, d5, e5⟩ := Kd.R_slice r5
      obtain ⟨B6, d6, e6⟩ := Kd.R_slice r6
      obtain ⟨B7, d7, e7⟩ := Kd.R_slice r7
      subst e5 e6 e7
      have q0 : wr.cell? ⟨g, n * 8, none⟩ = some (.string q.f0) := hcc 0 _ rfl
      have q1 : wr.cell? ⟨g, n * 8 + 1, none⟩ = some (.bool q.f1) := hcc 1 _ rfl
      have q2 : wr.cell? ⟨g, n * 8 + 2, none⟩ = some (.int .i64 q.f2.f0) := hcc 2 _ rfl
      have q3 : wr.cell? ⟨g, n * 8 + 3, none⟩ = some (.int .i64 q.f2.f1) := hcc 3 _ rfl
      have q4 : wr.cell? ⟨g, n * 8 + 4, none⟩ = some (.string q.f2.f2) := hcc 4 _ rfl
      have q5 : wr.cell? ⟨g, n * 8 + 5, none⟩ = some (.slice B5 q.f2.f3.length d5) := hcc 5 _ rfl
      have q6 : wr.cell? ⟨g, n * 8 + 6, none⟩ = some (.slice B6 q.f3.length d6) := hcc 6 _ rfl
      have q7 : wr.cell? ⟨g, n * 8 + 7, none⟩ = some (.slice B7 q.f4.length d7) := hcc 7 _ rfl
      have HME := Aside0.mk ((k34).M_mono (ok' := fun k => k < w.heap.size) (fun k hk => hk.1) hMe)
      have HTK := Aside0.mk htk
      clear hLr hcc hMe r5 r6 r7 hqe htk hcs hcl
      have p1 : (0 ≤ (n : Int)) = True := eq_true (by omega)
      have p2 : ((n : Int) < (l.length : Int)) = True := eq_true (by omega)
      obtain ⟨k0, k1, k2, k3, k4, k5, k6, k7⟩ := HP.out.c
      go_upto_region 6 with (fail)
      go_region
      have hd : Below wr.heap.size wr wr.drew := below_drew (Below.refl _ _)
      replace q0 := pw_cell_below hd q0
      replace q1 := pw_cell_below hd q1
      replace q2 := pw_cell_below hd q2
      replace q3 := pw_cell_below hd q3
      replace q4 := pw_cell_below hd q4
      replace q5 := pw_cell_below hd q5
      replace q6 := pw_cell_below hd q6
      replace q7 := pw_cell_below hd q7
      have HOd := Aside0.mk (Kd.R_below HO.out hd)
      have HBd := Aside0.mk (below_then HB.out HB.out.size hd)
      have HPd : Aside0 (MB wr.drew w.heap.size m (.slice A5 m.f2.f3.length c5) (.slice A6 m.f3.length c6) (.slice A7 m.f4.length c7)) := ⟨blk_below HP.out hd⟩
      have HMEd := Aside0.mk (Kd.M_below HME.out hd)
      clear k0 k1 k2 k3 k4 k5 k6 k7 hd HO HB HP HME
      generalize wr.drew = wd at *
      have HMd := Aside0.mk (Kd.M_below HM.out HBd.out)
      obtain ⟨k0, k1, k2, k3, k4, k5, k6, k7⟩ := HPd.out.c
      by_cases hk : q.f0 = m.f0
      · have b1 : (q.f0.toList == m.f0.toList) = true := beq_iff_eq.2 (ba_toList.2 hk)
        have HT1 : Aside0 (anyK m (l.take (n + 1)) = true) := ⟨by rw [HTK.out]; simp [anyK, hk]⟩
        have HT2 : Aside0 (mapK m (l.take (n + 1)) = mapK m (l.take n) ++ [m]) := ⟨by rw [HTK.out]; simp [mapK, hk]⟩
        clear hk q0 q1 q2 q3 q4 q5 q6 q7
        rw [b1]
        go_wp2_with (first | ((with_reducible refine gate_builtin (b := .append) (xs := #[.tmp 22, .tmp 24]) rfl ?_); at_builtin; refine Kd.R_append k34 (w0 := wd) (W := wd) B rfl (.tmp 22) (.tmp 24) 23 34 (.agg #[(.string ⟨#[]⟩), (.bool false), (.int .i64 0), (.int .i64 0), (.string ⟨#[]⟩), (.slice none 0 0), (.slice none 0 0), (.slice none 0 0)]) 128 rfl Tryz.underlying23 info34 rfl (by decide) (by omega) u5 (mapK m (l.take n)) m [.string m.f0, .bool m.f1, .int .i64 m.f2.f0, .int .i64 m.f2.f1, .string m.f2.f2, .slice A5 m.f2.f3.length c5, .slice A6 m.f3.length c6, .slice A7 m.f4.length c7] (fun _ => True) (fun k => k < w.heap.size) rfl rfl HMd.out (fun k hk => ⟨trivial, fun e => by have := HOB.out k e.symm; omega⟩) (fun _ _ => trivial) HOd.out (below_base (by have := HBd.out.size; omega)) (by have := HBd.out.size; omega) (by simp only [mapK, List.length_map, List.length_take]; omega) ?_; intro v8 w8 ho hb hg hat; have hPb := HPd.out; have HB8 := Aside0.mk (HBd.out.grown hg HBd.out.size (fun k e => by have := HOB.out k e; omega)); have HO8 := Aside0.mk ho; have HOB8 : Aside0 (∀ k, v8.ownBlock = some k → w.heap.size < k) := ⟨fun k e => by rcases hat with hat | ⟨b, hb1, hb2⟩; exact HOB.out k (hat ▸ e); (have := blk_lt hPb; rw [hb1] at e; injection e with e; omega)⟩; have HP8 : Aside0 (MB w8 w.heap.size m (.slice A5 m.f2.f3.length c5) (.slice A6 m.f3.length c6) (.slice A7 m.f4.length c7)) := ⟨(hg.block _ (blk_lt hPb) (fun e => by have := HOB.out _ e.symm; omega)).trans hPb⟩; clear ho hb hg hat hPb))
        go_roundw
        case rel => exact ⟨n + 1, by omega, by go_num, by rw [HT1.out], ⟨by rw [HT2.out]; exact HO8.out⟩, HOB8, HB8, HP8⟩
        case measure => simp [intOf]; omega
      · have b1 : (q.f0.toList == m.f0.toList) = false := beq_eq_false_iff_ne.2 (fun h => hk (ba_toList.1 h))
        have HT1 : Aside0 (anyK m (l.take (n + 1)) = anyK m (l.take n)) := ⟨by rw [HTK.out]; simp [anyK, hk]⟩
        have HT2 : Aside0 (mapK m (l.take (n + 1)) = mapK m (l.take n) ++ [q]) := ⟨by rw [HTK.out]; simp [mapK, hk]⟩
        clear hk k0 k1 k2 k3 k4 k5 k6 k7
        rw [b1]
        go_wp2_with (first | ((with_reducible refine gate_builtin (b := .append) (xs := #[.tmp 26, .tmp 31]) rfl ?_); at_builtin; refine Kd.R_append k34 (w0 := wd) (W := wd) B rfl (.tmp 26) (.tmp 31) 23 34 (.agg #[(.string ⟨#[]⟩), (.bool false), (.int .i64 0), (.int .i64 0), (.string ⟨#[]⟩), (.slice none 0 0), (.slice none 0 0), (.slice none 0 0)]) 128 rfl Tryz.underlying23 info34 rfl (by decide) (by omega) u5 (mapK m (l.take n)) q [.string q.f0, .bool q.f1, .int .i64 q.f2.f0, .int .i64 q.f2.f1, .string q.f2.f2, .slice B5 q.f2.f3.length d5, .slice B6 q.f3.length d6, .slice B7 q.f4.length d7] (fun _ => True) (fun k => k < w.heap.size) rfl rfl HMEd.out (fun k hk => ⟨trivial, fun e => by have := HOB.out k e.symm; omega⟩) (fun _ _ => trivial) HOd.out (below_base (by have := HBd.out.size; omega)) (by have := HBd.out.size; omega) (by simp only [mapK, List.length_map, List.length_take]; omega) ?_; intro v8 w8 ho hb hg hat; have hPb := HPd.out; have HB8 := Aside0.mk (HBd.out.grown hg HBd.out.size (fun k e => by have := HOB.out k e; omega)); have HO8 := Aside0.mk ho; have HOB8 : Aside0 (∀ k, v8.ownBlock = some k → w.heap.size < k) := ⟨fun k e => by rcases hat with hat | ⟨b, hb1, hb2⟩; exact HOB.out k (hat ▸ e); (have := blk_lt hPb; rw [hb1] at e; injection e with e; omega)⟩; have HP8 : Aside0 (MB w8 w.heap.size m (.slice A5 m.f2.f3.length c5) (.slice A6 m.f3.length c6) (.slice A7 m.f4.length c7)) := ⟨(hg.block _ (blk_lt hPb) (fun e => by have := HOB.out _ e.symm; omega)).trans hPb⟩; clear ho hb hg hat hPb))
        go_roundw
        case rel => exact ⟨n + 1, by omega, by go_num, by rw [HT1.out], ⟨by rw [HT2.out]; exact HO8.out⟩, HOB8, HB8, HP8⟩
        case measure => simp [intOf]; omega
    · obtain rfl : n = l.length := by omega
      have hltd : decide ((l.length : Int) < (l.length : Int)) = false := decide_eq_false (by omega)
      rw [List.take_length] at *
      obtain ⟨k0, k1, k2, k3, k4, k5, k6, k7⟩ := HP.out.c
      have HMd := Aside0.mk (Kd.M_below HM.out HB.out)
      cases ha : anyK m l with
      | true =>
        have HW : Aside0 (withM l m = mapK m l) := ⟨by unfold withM; rw [if_pos ha]⟩
        clear ha
        go_wp2
        go_ret
        exact ⟨_, rfl, by rw [HW.out]; exact HO.out, HB.out⟩
      | false =>
        have HW : Aside0 (withM l m = mapK m l ++ [m]) := ⟨by unfold withM; rw [if_neg (by rw [ha]; decide)]⟩
        clear ha
        go_wp2_with (first | ((with_reducible refine gate_builtin (b := .append) (xs := #[.tmp 35, .tmp 37]) rfl ?_); at_builtin; refine Kd.R_append k34 (w0 := wr) (W := wr) B rfl (.tmp 35) (.tmp 37) 23 34 (.agg #[(.string ⟨#[]⟩), (.bool false), (.int .i64 0), (.int .i64 0), (.string ⟨#[]⟩), (.slice none 0 0), (.slice none 0 0), (.slice none 0 0)]) 128 rfl Tryz.underlying23 info34 rfl (by decide) (by omega) u5 (mapK m l) m [.string m.f0, .bool m.f1, .int .i64 m.f2.f0, .int .i64 m.f2.f1, .string m.f2.f2, .slice A5 m.f2.f3.length c5, .slice A6 m.f3.length c6, .slice A7 m.f4.length c7] (fun _ => True) (fun k => k < w.heap.size) rfl rfl HMd.out (fun k hk => ⟨trivial, fun e => by have := HOB.out k e.symm; omega⟩) (fun _ _ => trivial) HO.out (below_base (by have := HB.out.size; omega)) (by have := HB.out.size; omega) (by simp only [mapK, List.length_map]; omega) ?_; intro v8 w8 ho hb hg hat; have hPb := HP.out; have HB8 := Aside0.mk (HB.out.grown hg HB.out.size (fun k e => by have := HOB.out k e; omega)); have HO8 := Aside0.mk ho; have HOB8 : Aside0 (∀ k, v8.ownBlock = some k → w.heap.size < k) := ⟨fun k e => by rcases hat with hat | ⟨b, hb1, hb2⟩; exact HOB.out k (hat ▸ e); (have := blk_lt hPb; rw [hb1] at e; injection e with e; omega)⟩; have HP8 : Aside0 (MB w8 w.heap.size m (.slice A5 m.f2.f3.length c5) (.slice A6 m.f3.length c6) (.slice A7 m.f4.length c7)) := ⟨(hg.block _ (blk_lt hPb) (fun e => by have := HOB.out _ e.symm; omega)).trans hPb⟩; clear ho hb hg hat hPb))
        go_ret
        exact ⟨_, rfl, by rw [HW.out]; exact HO8.out, HB8.out⟩
abbrev TenB := ByteArray × Bool × Int × Int × ByteArray × (List S60) × (List S31) × (List S60) × ByteArray × Bool
def memB (x : TenB) : S34 := ⟨x.1, x.2.1, ⟨x.2.2.1, x.2.2.2.1, x.2.2.2.2.1, x.2.2.2.2.2.1⟩, x.2.2.2.2.2.2.1, x.2.2.2.2.2.2.2.1⟩
def readL (k : Nat) (dict : Bool) : Nat → ByteArray → List S34 → Option (List S34 × Int)
  | 0, _, _ => none
  | d + 1, s, out => if s.toList = [] then some (out, 0) else (glacisref06_either.f k s dict).bind fun x =>
    if x.2.2.2.2.2.2.2.2.2 = false then some ([], 50) else if ¬ out.length < 1000000 then none else
    (glacisref06_tabs.f k x.2.2.2.2.2.2.2.2.1).bind fun r =>
    if r.toList = [] then some (if dict = true then withM out (memB x) else out ++ [memB x], 0) else if bt r 0 ≠ 44 then some ([], 50) else
    (glacisref06_tabs.f k (r.extract 1 r.size)).bind fun t => if t.toList = [] then some ([], 50) else if t.size < s.size then readL k dict d t (if dict = true then withM out (memB x) else out ++ [memB x]) else none
def glacisref06_read.f (k : Nat) (s : ByteArray) (dict : Bool) : Option (List S34 × Int) :=
  if (s.size : Int) > 4000 then some ([], 50) else (glacisref05_Trim.f k s).bind fun t => readL k dict k t []
def strSz6 : Value → Nat
  | .string s => s.size
  | _ => 0
theorem glacisref06_read.calls (k : Nat) (a0 : ByteArray) (a1 : Bool) (r1 : List S34) (r2 : Int) (w : World) (h : glacisref06_read.f k a0 a1 = some (r1, r2)) :
    Calls Tryz.prog 25 #[.string a0, .bool a1] w fun e w' => ∃ v0_ : Value, e = .returned (.tuple #[v0_, .int .i64 r2]) ∧ Kd.R k34 34 w' w.heap.size (fun _ => True) v0_ r1 ∧ Below w.heap.size w w' := by
  have hu34 := Tryz.underlying34
  unfold glacisref06_read.f at h
  by_cases h4 : (a0.size : Int) > 4000
  · rw [if_pos h4] at h
    obtain ⟨rfl, rfl⟩ := Prod.mk.inj (Option.some.inj h)
    have hd : decide ((a0.size : Int) > 4000) = true := decide_eq_true h4
    have hd2 : decide (4000 < (a0.size : Int)) = true := decide_eq_true h4
    clear h h4
    go_enter Tryz.func25, Tryz.ntmps25
    go_wp2
    go_ret2
    exact ⟨_, rfl, Kd.R_nil _ _ _ _ _, Below.refl _ _⟩
  · rw [if_neg h4] at h
    have hd : decide ((a0.size : Int) > 4000) = false := decide_eq_false h4
    have hd2 : decide (4000 < (a0.size : Int)) = false := decide_eq_false h4
    obtain ⟨t0, ht0, h⟩ := Option.bind_eq_some_iff.1 h
    have HH := Aside0.mk h
    have HT := Aside0.mk (fun W => glacisref05_Trim.calls k a0 t0 W ht0)
    clear h h4 ht0
    go_enter Tryz.func25, Tryz.ntmps25
    go_wp2_with (first | (go_at_call 43; refine (HT.out _).mono ?_; rintro e w1 ⟨rfl, hD1⟩))
    have HB1 : Aside0 (Below w.heap.size w w1) := ⟨by obtain ⟨q, rfl⟩ := hD1; exact pw_below_drewN (Below.refl _ _) q⟩
    clear hD1 HT
    go_loopw [0, 6, 7, 8, 9] (fun v0 v6 v7 v8 v9 wr => ∃ (d : Nat) (t : ByteArray) (out : List S34), v0 = .string t ∧ Aside0 (readL k a1 d t out = some (r1, r2)) ∧ Aside0 (Kd.R k34 34 wr w.heap.size (fun _ => True) v6 out) ∧ Aside0 (Below w.heap.size w wr)) (fun v0 _ _ _ _ _ => strSz6 v0)
    case atStart => exact ⟨k, t0, [], rfl, HH, ⟨Kd.R_nil _ _ _ _ _⟩, HB1⟩
    case round =>
      clear HH HB1
      obtain ⟨d, t, out, rfl, HH, HO, HB⟩ := hrel
      cases d with
      | zero => exact absurd HH.out (by simp [readL])
      | succ d =>
        by_cases ht : t.toList = []
        · have hH := HH.out
          rw [readL, if_pos ht] at hH
          obtain ⟨rfl, rfl⟩ := Prod.mk.inj (Option.some.inj hH)
          have b1 : (t.toList != ([] : List UInt8)) = false := by simp [ht]
          have b2 : t.toList.isEmpty = true := by rw [ht]; rfl
          clear hH ht HH
          go_wp2
          go_ret2
          exact ⟨_, rfl, HO.out, HB.out⟩
        · have hH := HH.out
          rw [readL, if_neg ht] at hH
          obtain ⟨x, hx, hH⟩ := Option.bind_eq_some_iff.1 hH
          obtain ⟨x1, x2, x3, x4, x5, x6, x7, x8, x9, x10⟩ := x
          have HE := Aside0.mk (fun W => glacisref06_either.calls k t a1 x1 x2 x3 x4 x5 x6 x7 x8 x9 x10 W hx)
          have b1 : (t.toList != ([] : List UInt8)) = true := by simp [ht]
          have b2 : t.toList.isEmpty = false := by simpa using ht
          have HH2 := Aside0.mk hH
          obtain ⟨A6, c6, hv6⟩ := Kd.R_slice HO.out
          subst hv6
          clear hH hx ht HH
          go_upto_region 7 with (first | (go_at_call 44; refine (HE.out _).mono ?_; rintro e w3 ⟨v5, v6, v7, rfl, h5, h6, h7, hB3⟩; obtain ⟨B5, d5, hv5⟩ := Kd.R_slice h5; obtain ⟨B6, d6, hv6⟩ := Kd.R_slice (Kd.S_R h6); obtain ⟨B7, d7, hv7⟩ := Kd.R_slice h7; subst hv5 hv6 hv7))
          have hP0 : MB (w3.alloc (.cells #[.string x1, .bool x2, .int .i64 x3, .int .i64 x4, .string x5, .slice B5 x6.length d5, .slice B6 x7.length d6, .slice B7 x8.length d7] 34)) w3.heap.size (⟨x1, x2, ⟨x3, x4, x5, x6⟩, x7, x8⟩ : S34) (.slice B5 x6.length d5) (.slice B6 x7.length d6) (.slice B7 x8.length d7) := blk_new w3 _
          have hba := below_alloc (Below.refl w3.heap.size w3) (.cells #[.string x1, .bool x2, .int .i64 x3, .int .i64 x4, .string x5, .slice B5 x6.length d5, .slice B6 x7.length d6, .slice B7 x8.length d7] 34)
          have hbw := below_then hB3 hB3.size hba
          have HB4 := Aside0.mk (below_then HB.out HB.out.size hbw)
          have HO4 := Aside0.mk (Kd.R_below HO.out hbw)
          have HLT : Aside0 (∀ k, (Value.slice A6 out.length c6).ownBlock = some k → k < wr.heap.size) := ⟨Kd.R_lt HO.out⟩
          have hsz := HB.out.size
          have HM4 : Aside0 ((k34).M (w3.alloc (.cells #[.string x1, .bool x2, .int .i64 x3, .int .i64 x4, .string x5, .slice B5 x6.length d5, .slice B6 x7.length d6, .slice B7 x8.length d7] 34)) w.heap.size (fun k => wr.heap.size ≤ k) (⟨x1, x2, ⟨x3, x4, x5, x6⟩, x7, x8⟩ : S34) [.string x1, .bool x2, .int .i64 x3, .int .i64 x4, .string x5, .slice B5 x6.length d5, .slice B6 x7.length d6, .slice B7 x8.length d7]) := ⟨k34_mkM _ _ _ (⟨x1, x2, ⟨x3, x4, x5, x6⟩, x7, x8⟩ : S34) (Kd.R_alloc (Kd.R_lower (Kd.R_mono (Kd.R_bound h5) (fun k hk => hk.2.1)) hsz) _) (Kd.R_alloc (Kd.R_lower (Kd.R_mono (Kd.R_bound (Kd.S_R h6)) (fun k hk => hk.2.1)) hsz) _) (Kd.R_alloc (Kd.R_lower (Kd.R_mono (Kd.R_bound h7) (fun k hk => hk.2.1)) hsz) _)⟩
          clear h5 h6 h7 hB3 hba hbw HE HO HB
          generalize (w3.alloc (.cells #[.string x1, .bool x2, .int .i64 x3, .int .i64 x4, .string x5, .slice B5 x6.length d5, .slice B6 x7.length d6, .slice B7 x8.length d7] 34)) = w4 at *
          generalize w3.heap.size = mb at *
          cases x10 with
          | false =>
            have hH := HH2.out
            rw [if_pos rfl] at hH
            obtain ⟨rfl, rfl⟩ := Prod.mk.inj (Option.some.inj hH)
            clear hH HH2
            go_wp2
            go_ret2
            exact ⟨_, rfl, Kd.R_nil _ _ _ _ _, HB4.out⟩
          | true =>
            have hH := HH2.out
            rw [if_neg (by decide)] at hH
            have hlo : out.length < 1000000 := Classical.byContradiction fun hn => by rw [if_pos hn] at hH; cases hH
            rw [if_neg (fun h => h hlo)] at hH
            obtain ⟨r, hr, hH⟩ := Option.bind_eq_some_iff.1 hH
            dsimp only [memB] at hH
            obtain ⟨o2, ho2⟩ : ∃ o2, o2 = (if a1 = true then withM out (⟨x1, x2, ⟨x3, x4, x5, x6⟩, x7, x8⟩ : S34) else out ++ [(⟨x1, x2, ⟨x3, x4, x5, x6⟩, x7, x8⟩ : S34)]) := ⟨_, rfl⟩
            rw [← ho2] at hH
            have HH := Aside0.mk hH
            have HO2 := Aside0.mk ho2
            have HTb := Aside0.mk (fun W => glacisref06_tabs.calls k x9 r W hr)
            clear hH ho2 hr HH2
            obtain ⟨k0, k1, k2, k3, k4, k5, k6, k7⟩ := hP0.c
            go_upto_if 26 with (fail)
            go_cut [6] (fun v6 wc => Aside0 (Kd.R k34 34 wc w.heap.size (fun _ => True) v6 o2) ∧ Aside0 (Below w.heap.size w wc))
            case first =>
              cases a1 with
              | true =>
                have hw := HO2.out
                rw [if_pos rfl] at hw
                have HW := Aside0.mk hw
                have HWi := Aside0.mk (with_R w.heap.size A6 c6 out (⟨x1, x2, ⟨x3, x4, x5, x6⟩, x7, x8⟩ : S34) B5 d5 B6 d6 B7 d7 w4 _ _ HO4.out HM4.out HB4.out.size (by omega))
                clear hw HO2
                go_wp2_with (first | (go_at_call 45; refine HWi.out.mono ?_; rintro e w5 ⟨v8, rfl, hR8, hB8⟩; have HR8 := Aside0.mk hR8; have HB8 := Aside0.mk hB8; clear hR8 hB8))
                go_meet
                case rel => exact ⟨⟨by rw [HW.out]; exact HR8.out⟩, ⟨below_then HB4.out HB4.out.size HB8.out⟩⟩
              | false =>
                have hw := HO2.out
                rw [if_neg (by decide)] at hw
                have HW := Aside0.mk hw
                clear hw HO2
                go_wp2_with (first | ((with_reducible refine gate_builtin (b := .append) (xs := #[.tmp 30, .tmp 32]) rfl ?_); at_builtin; refine Kd.R_append k34 (w0 := w4) (W := w4) w.heap.size rfl (.tmp 30) (.tmp 32) 23 34 (.agg #[(.string ⟨#[]⟩), (.bool false), (.int .i64 0), (.int .i64 0), (.string ⟨#[]⟩), (.slice none 0 0), (.slice none 0 0), (.slice none 0 0)]) 128 rfl Tryz.underlying23 info34 rfl (by decide) (by omega) (.slice A6 out.length c6) out (⟨x1, x2, ⟨x3, x4, x5, x6⟩, x7, x8⟩ : S34) [.string x1, .bool x2, .int .i64 x3, .int .i64 x4, .string x5, .slice B5 x6.length d5, .slice B6 x7.length d6, .slice B7 x8.length d7] (fun _ => True) (fun k => wr.heap.size ≤ k) rfl rfl HM4.out (fun k hk => ⟨trivial, fun e => by have := HLT.out k e.symm; omega⟩) (fun _ _ => trivial) HO4.out (below_base (by have := HB4.out.size; omega)) (by have := HB4.out.size; omega) (by omega) ?_; intro v8 w8 ho hb hg hat; have HR8 := Aside0.mk ho; have HB8 := Aside0.mk (HB4.out.grown hg HB4.out.size (fun k e => Kd.R_base HO4.out k e)); clear ho hb hg hat))
                go_meet
                case rel => exact ⟨⟨by rw [HW.out]; exact HR8.out⟩, HB8⟩
            case rest =>
              clear HO2 HM4 HO4 HB4 HLT k0 k1 k2 k3 k4 k5 k6 k7 hP0
              obtain ⟨HO6, HB6⟩ := hcut
              by_cases hr0 : r.toList = []
              · have hH := HH.out
                rw [if_pos hr0] at hH
                obtain ⟨rfl, rfl⟩ := Prod.mk.inj (Option.some.inj hH)
                have b3 : (r.toList == ([] : List UInt8)) = true := by simp [hr0]
                have b4 : r.toList.isEmpty = true := by rw [hr0]; rfl
                clear hH HH hr0
                go_wp2_with (first | (go_at_call 46; (with_reducible refine (HTb.out _).mono ?_); rintro e w6 ⟨rfl, hD⟩; have HB7 : Aside0 (Below w.heap.size w w6) := ⟨by obtain ⟨q, rfl⟩ := hD; exact pw_below_drewN HB6.out q⟩; have HO7 : Aside0 (Kd.R k34 34 w6 w.heap.size (fun _ => True) u6 o2) := ⟨by obtain ⟨q, rfl⟩ := hD; exact Kd.R_drewN HO6.out q⟩; clear hD))
                go_ret2
                exact ⟨_, rfl, HO7.out, HB7.out⟩
              · have hH := HH.out
                rw [if_neg hr0] at hH
                have b3 : (r.toList == ([] : List UInt8)) = false := by simp [hr0]
                have b4 : r.toList.isEmpty = false := by simpa using hr0
                have hp : 0 < r.size := by
                  rcases Nat.eq_zero_or_pos r.size with h0 | h0
                  · exact absurd (by rw [Lib.toList_data]; exact List.eq_nil_of_length_eq_zero (by rw [Array.length_toList]; exact h0)) hr0
                  · exact h0
                have hx4 : ∀ h : 0 < r.size, ((r[0]'h).toNat : Int) = bt r 0 := bt_at r 0
                have q4 : (0 < r.size) = True := eq_true hp
                have qi4 : (0 < (r.size : Int)) = True := eq_true (by omega)
                have qi5 : (1 ≤ (r.size : Int)) = True := eq_true (by omega)
                have qd5 : decide (1 ≤ (r.size : Int)) = true := decide_eq_true (by omega)
                by_cases h44 : bt r 0 = 44
                · rw [if_neg (fun h => h h44)] at hH
                  have b5 : (bt r 0 == 44) = true := by simp [h44]
                  have b6 : (bt r 0 != 44) = false := by simp [h44]
                  obtain ⟨t2, ht2, hH⟩ := Option.bind_eq_some_iff.1 hH
                  have HTb2 := Aside0.mk (fun W => glacisref06_tabs.calls k (r.extract 1 r.size) t2 W ht2)
                  by_cases ht0 : t2.toList = []
                  · rw [if_pos ht0] at hH
                    obtain ⟨rfl, rfl⟩ := Prod.mk.inj (Option.some.inj hH)
                    have b7 : (t2.toList == ([] : List UInt8)) = true := by simp [ht0]
                    have b8 : t2.toList.isEmpty = true := by rw [ht0]; rfl
                    clear hH HH hr0 ht0 ht2 h44 hp
                    go_wp2_with (first | (go_at_call 46; (with_reducible refine (HTb2.out _).mono ?_); rintro e w7 ⟨rfl, hD⟩; have HB9 : Aside0 (Below w.heap.size w w7) := ⟨by obtain ⟨q, rfl⟩ := hD; exact pw_below_drewN HB7.out q⟩; have HO9 : Aside0 (Kd.R k34 34 w7 w.heap.size (fun _ => True) u6 o2) := ⟨by obtain ⟨q, rfl⟩ := hD; exact Kd.R_drewN HO7.out q⟩; clear hD) | (go_at_call 46; (with_reducible refine (HTb.out _).mono ?_); rintro e w6 ⟨rfl, hD⟩; have HB7 : Aside0 (Below w.heap.size w w6) := ⟨by obtain ⟨q, rfl⟩ := hD; exact pw_below_drewN HB6.out q⟩; have HO7 : Aside0 (Kd.R k34 34 w6 w.heap.size (fun _ => True) u6 o2) := ⟨by obtain ⟨q, rfl⟩ := hD; exact Kd.R_drewN HO6.out q⟩; clear hD))
                    go_ret2
                    exact ⟨_, rfl, Kd.R_nil _ _ _ _ _, HB9.out⟩
                  · rw [if_neg ht0] at hH
                    have b7 : (t2.toList == ([] : List UInt8)) = false := by simp [ht0]
                    have b8 : t2.toList.isEmpty = false := by simpa using ht0
                    by_cases hsz2 : t2.size < t.size
                    · rw [if_pos hsz2] at hH
                      have HH3 := Aside0.mk hH
                      have HSZ := Aside0.mk hsz2
                      clear hH HH hr0 ht0 ht2 h44 hp hsz2
                      go_wp2_with (first | (go_at_call 46; (with_reducible refine (HTb2.out _).mono ?_); rintro e w7 ⟨rfl, hD⟩; have HB9 : Aside0 (Below w.heap.size w w7) := ⟨by obtain ⟨q, rfl⟩ := hD; exact pw_below_drewN HB7.out q⟩; have HO9 : Aside0 (Kd.R k34 34 w7 w.heap.size (fun _ => True) u6 o2) := ⟨by obtain ⟨q, rfl⟩ := hD; exact Kd.R_drewN HO7.out q⟩; clear hD) | (go_at_call 46; (with_reducible refine (HTb.out _).mono ?_); rintro e w6 ⟨rfl, hD⟩; have HB7 : Aside0 (Below w.heap.size w w6) := ⟨by obtain ⟨q, rfl⟩ := hD; exact pw_below_drewN HB6.out q⟩; have HO7 : Aside0 (Kd.R k34 34 w6 w.heap.size (fun _ => True) u6 o2) := ⟨by obtain ⟨q, rfl⟩ := hD; exact Kd.R_drewN HO6.out q⟩; clear hD))
                      go_roundw
                      case rel => exact ⟨d, t2, o2, rfl, HH3, HO9, HB9⟩
                      case measure => exact HSZ.out
                    · rw [if_neg hsz2] at hH; cases hH
                · rw [if_pos h44] at hH
                  obtain ⟨rfl, rfl⟩ := Prod.mk.inj (Option.some.inj hH)
                  have b5 : (bt r 0 == 44) = false := by simp [h44]
                  have b6 : (bt r 0 != 44) = true := by simp [h44]
                  clear hH HH hr0 h44 hp
                  go_wp2_with (first | (go_at_call 46; (with_reducible refine (HTb.out _).mono ?_); rintro e w6 ⟨rfl, hD⟩; have HB7 : Aside0 (Below w.heap.size w w6) := ⟨by obtain ⟨q, rfl⟩ := hD; exact pw_below_drewN HB6.out q⟩; have HO7 : Aside0 (Kd.R k34 34 w6 w.heap.size (fun _ => True) u6 o2) := ⟨by obtain ⟨q, rfl⟩ := hD; exact Kd.R_drewN HO6.out q⟩; clear hD))
                  go_ret2
                  exact ⟨_, rfl, Kd.R_nil _ _ _ _ _, HB7.out⟩
def glacisref06_List.f (k : Nat) (a0 : ByteArray) : Option ((List (S34)) × Int) := (glacisref06_read.f k a0 false).bind fun bt398 => (some (bt398.1, bt398.2))
theorem glacisref06_List.calls (k : Nat) (a0 : ByteArray) (r1 : List (S34)) (r2 : Int) (w : World) (h : glacisref06_List.f k a0 = some (r1, r2)) :
  Calls Tryz.prog 11 #[.string a0] w fun e w' => ∃ v0_ : Value, e = .returned (.tuple #[v0_, .int .i64 r2]) ∧ Kd.R k34 34 w' w.heap.size (fun _ => True) v0_ r1 ∧ Below w.heap.size w w' := by
 have HB := Aside0.mk (Below.refl w.heap.size w)
 have H : ((glacisref06_read.f k a0 false).bind fun bt398 => (some (bt398.1, bt398.2))) = some (r1, r2) := h
 clear h
 replace H := Option.bind_eq_some_iff.mp H
 obtain ⟨⟨t398, t399⟩, A20, H⟩ := H
 (try dsimp only at H)
 have A2 := Aside0.mk A20
 clear A20
 simp only [Option.some.injEq, Prod.mk.injEq] at H
 obtain ⟨rfl, rfl⟩ := H
 go_enter Tryz.func11, Tryz.ntmps11
 go_wp2_with (first | ((with_reducible refine gate_callee (f := 25) rfl ?_); refine goesL_ (some 5) rfl rfl Tryz.func25 (by kernel_rfl) rfl #[.string a0, .bool false] rfl (by simp only [List.map_toArray, List.map_cons, List.map_nil] <;> rfl) ?_; (with_reducible refine (glacisref06_read.calls k a0 false t398 t399 _ A2.out).mono ?_); rintro e w3 ⟨v400, rfl, ho0, hb⟩; refine ⟨_, rfl, ?_⟩; have n0_ := Aside0.mk (Kd.R_lower ho0 (below_size (bl_ HB.out))); have n1_ := Aside0.mk (below_step (bl_ HB.out) hb); clear HB; have HO401 := n0_; have HB := n1_; clear n0_ n1_; (try clear hb); (try clear hb2); (try clear hk); (try clear hi); (try clear ho0)))
 go_ret2
 exact ⟨_, by first | rfl | simp [*], by (with_reducible repeat (first | apply Kd.R_alloc | apply Kd.R_drewN | apply Kd.R_drew)); exact HO401.out, bl_ HB.out⟩
def glacisref06_Dict.f (k : Nat) (a0 : ByteArray) : Option ((List (S34)) × Int) := (glacisref06_read.f k a0 true).bind fun bt402 => (some (bt402.1, bt402.2))
theorem glacisref06_Dict.calls (k : Nat) (a0 : ByteArray) (r1 : List (S34)) (r2 : Int) (w : World) (h : glacisref06_Dict.f k a0 = some (r1, r2)) :
  Calls Tryz.prog 13 #[.string a0] w fun e w' => ∃ v0_ : Value, e = .returned (.tuple #[v0_, .int .i64 r2]) ∧ Kd.R k34 34 w' w.heap.size (fun _ => True) v0_ r1 ∧ Below w.heap.size w w' := by
 have HB := Aside0.mk (Below.refl w.heap.size w)
 have H : ((glacisref06_read.f k a0 true).bind fun bt402 => (some (bt402.1, bt402.2))) = some (r1, r2) := h
 clear h
 replace H := Option.bind_eq_some_iff.mp H
 obtain ⟨⟨t402, t403⟩, A20, H⟩ := H
 (try dsimp only at H)
 have A2 := Aside0.mk A20
 clear A20
 simp only [Option.some.injEq, Prod.mk.injEq] at H
 obtain ⟨rfl, rfl⟩ := H
 go_enter Tryz.func13, Tryz.ntmps13
 go_wp2_with (first | ((with_reducible refine gate_callee (f := 25) rfl ?_); refine goesL_ (some 5) rfl rfl Tryz.func25 (by kernel_rfl) rfl #[.string a0, .bool true] rfl (by simp only [List.map_toArray, List.map_cons, List.map_nil] <;> rfl) ?_; (with_reducible refine (glacisref06_read.calls k a0 true t402 t403 _ A2.out).mono ?_); rintro e w3 ⟨v404, rfl, ho0, hb⟩; refine ⟨_, rfl, ?_⟩; have n0_ := Aside0.mk (Kd.R_lower ho0 (below_size (bl_ HB.out))); have n1_ := Aside0.mk (below_step (bl_ HB.out) hb); clear HB; have HO405 := n0_; have HB := n1_; clear n0_ n1_; (try clear hb); (try clear hb2); (try clear hk); (try clear hi); (try clear ho0)))
 go_ret2
 exact ⟨_, by first | rfl | simp [*], by (with_reducible repeat (first | apply Kd.R_alloc | apply Kd.R_drewN | apply Kd.R_drew)); exact HO405.out, bl_ HB.out⟩
def glacisref05_SameParams.l0 : Nat → List (S60) → List (S60) → Int → Option (Bool)
 | 0, _, _, _ => none
 | k + 1, x0, x1, x5 => if x5 < (x0.length : Int) then (if 0 ≤ x5 then (if x5 < (x1.length : Int) then (if (!((((rd_T60 x0 x5).f0).toList) == (((rd_T60 x1 x5).f0).toList)) || (!(((rd_T60 x0 x5).f1) == ((rd_T60 x1 x5).f1)) || (!(((rd_T60 x0 x5).f2) == ((rd_T60 x1 x5).f2)) || (!((((rd_T60 x0 x5).f3).toList) == (((rd_T60 x1 x5).f3).toList)))))) = true then (some false) else (glacisref05_SameParams.l0 k x0 x1 (wrap64 (x5 + 1)))) else (none)) else (none)) else (some true)
def glacisref05_SameParams.f (k : Nat) (l0 : List (S60)) (l1 : List (S60)) : Option (Bool) := if (l0.length : Int) = (l1.length : Int) then (glacisref05_SameParams.l0 k l0 l1 0) else (some false)
theorem glacisref05_SameParams.calls (k : Nat) (A0 : Option Addr) (c0 : Nat) (l0 : List (S60)) (A1 : Option Addr) (c1 : Nat) (l1 : List (S60)) (r : Bool) (w : World) (hr0 : Kd.C k60 w A0 l0.length l0) (hc0 : l0.length ≤ c0) (hr1 : Kd.C k60 w A1 l1.length l1) (hc1 : l1.length ≤ c1) (h : glacisref05_SameParams.f k l0 l1 = some r) :
  Calls Tryz.prog 29 #[.slice A0 l0.length c0, .slice A1 l1.length c1] w fun e w' => e = .returned (.bool r) ∧ Drawn0 w w' := by
 have hu60 := Tryz.underlying60
 have HR0 := Aside0.mk hr0
 have HC0 := Aside0.mk hc0
 clear hr0 hc0
 have HR1 := Aside0.mk hr1
 have HC1 := Aside0.mk hc1
 clear hr1 hc1
 have H : (if (l0.length : Int) = (l1.length : Int) then (glacisref05_SameParams.l0 k l0 l1 0) else (some false)) = some r := h
 clear h
 by_cases c3 : (l0.length : Int) = (l1.length : Int)
 ·rw [if_pos c3] at H
  obtain ⟨c3b0, c3b1⟩ := eT_ c3
  have c3b2 : (l0.length == l1.length) = true := by first | simpa using c3 | (simp at c3 ⊢; omega)
  clear c3
  have H' := Aside0.mk H
  clear H
  go_enter Tryz.func29, Tryz.ntmps29
  go_wp2
  repeat (go_quiet (fail); try go_wp2)
  go_loopg [5] k (fun kq v5 w' => ∃ (x5_1 : Int), v5 = .int .i64 x5_1 ∧ Aside0 (glacisref05_SameParams.l0 kq l0 l1 x5_1 = some r) ∧ Aside0 (kq ≤ k) ∧ Drawn0 w w')
  case atStart => exact ⟨(0), (by first | rfl | simp [*]), H', ⟨Nat.le_refl _⟩, by repeat (first | exact Drawn0.refl _ | apply Drawn0.step)⟩
  case round =>
   clear H'
   (try clear c1); (try clear c2); (try clear p2); (try clear c3); (try clear c3b0); (try clear c3b1); (try clear c3b2)
   obtain ⟨x5_1, rfl, HA, HK1, ⟨m1, rfl⟩⟩ := hrel
   cases gk with
   | zero => exact absurd HA.out (by simp [glacisref05_SameParams.l0])
   | succ k1 =>
    have H := HA.out
    clear HA
    simp only [glacisref05_SameParams.l0] at H
    by_cases c4 : x5_1 < (l0.length : Int)
    ·rw [if_pos c4] at H
     have c4b0 : decide (x5_1 < (l0.length : Int)) = true := decide_eq_true c4
     clear c4
     by_cases c5 : 0 ≤ x5_1
     ·rw [if_pos c5] at H
      have c5b0 : decide (0 ≤ x5_1) = true := decide_eq_true c5
      clear c5
      by_cases c6 : x5_1 < (l1.length : Int)
      ·rw [if_pos c6] at H
       have c6b0 : decide (x5_1 < (l1.length : Int)) = true := decide_eq_true c6
       clear c6
       by_cases c7 : (!((((rd_T60 l0 x5_1).f0).toList) == (((rd_T60 l1 x5_1).f0).toList)) || (!(((rd_T60 l0 x5_1).f1) == ((rd_T60 l1 x5_1).f1)) || (!(((rd_T60 l0 x5_1).f2) == ((rd_T60 l1 x5_1).f2)) || (!((((rd_T60 l0 x5_1).f3).toList) == (((rd_T60 l1 x5_1).f3).toList)))))) = true
       ·rw [if_pos c7] at H
        have c7b0 : (!((((rd_T60 l0 x5_1).f0).toList) == (((rd_T60 l1 x5_1).f0).toList)) || (!(((rd_T60 l0 x5_1).f1) == ((rd_T60 l1 x5_1).f1)) || (!(((rd_T60 l0 x5_1).f2) == ((rd_T60 l1 x5_1).f2)) || (!((((rd_T60 l0 x5_1).f3).toList) == (((rd_T60 l1 x5_1).f3).toList)))))) = true := c7
        clear c7
        obtain rfl := Option.some.inj H
        have p406 : 0 ≤ (x5_1 : Int) := of_decide_eq_true (by assumption)
        have q406 : x5_1 < (l0.length : Int) := of_decide_eq_true (by assumption)
        obtain ⟨ad406, e406, hx406_0, hx406_1, hx406_2, hx406_3⟩ := at_T60 HR0.out x5_1 p406 q406
        cases e406
        replace p406 := eq_true p406
        replace q406 := eq_true q406
        have p407 : 0 ≤ (x5_1 : Int) := of_decide_eq_true (by assumption)
        have q407 : x5_1 < (l1.length : Int) := of_decide_eq_true (by assumption)
        obtain ⟨ad407, e407, hx407_0, hx407_1, hx407_2, hx407_3⟩ := at_T60 HR1.out x5_1 p407 q407
        cases e407
        replace p407 := eq_true p407
        replace q407 := eq_true q407
        go_wp2
        repeat (go_quiet (fail); try go_wp2)
        go_ret
        exact ⟨by first | rfl | simp [*], by repeat (first | exact Drawn0.refl _ | apply Drawn0.step)⟩
       ·rw [if_neg c7] at H
        have c7b0 : (!((((rd_T60 l0 x5_1).f0).toList) == (((rd_T60 l1 x5_1).f0).toList)) || (!(((rd_T60 l0 x5_1).f1) == ((rd_T60 l1 x5_1).f1)) || (!(((rd_T60 l0 x5_1).f2) == ((rd_T60 l1 x5_1).f2)) || (!((((rd_T60 l0 x5_1).f3).toList) == (((rd_T60 l1 x5_1).f3).toList)))))) = false := by simpa using c7
        clear c7
        have H' := Aside0.mk H
        clear H
        have p406 : 0 ≤ (x5_1 : Int) := of_decide_eq_true (by assumption)
        have q406 : x5_1 < (l0.length : Int) := of_decide_eq_true (by assumption)
        obtain ⟨ad406, e406, hx406_0, hx406_1, hx406_2, hx406_3⟩ := at_T60 HR0.out x5_1 p406 q406
        cases e406
        replace p406 := eq_true p406
        replace q406 := eq_true q406
        have p407 : 0 ≤ (x5_1 : Int) := of_decide_eq_true (by assumption)
        have q407 : x5_1 < (l1.length : Int) := of_decide_eq_true (by assumption)
        obtain ⟨ad407, e407, hx407_0, hx407_1, hx407_2, hx407_3⟩ := at_T60 HR1.out x5_1 p407 q407
        cases e407
        replace p407 := eq_true p407
        replace q407 := eq_true q407
        go_wp2
        repeat (go_quiet (fail); try go_wp2)
        go_roundg k1
        case measure => have := HK1.out; omega
        case rel => exact ⟨(wrap64 (x5_1 + 1)), (by first | rfl | simp [*]), H', ⟨by have := HK1.out; omega⟩, by repeat (first | exact Drawn0.refl _ | apply Drawn0.step)⟩
      ·rw [if_neg c6] at H
       exact absurd H (by simp)
     ·rw [if_neg c5] at H
      exact absurd H (by simp)
    ·rw [if_neg c4] at H
     have c4b0 : decide (x5_1 < (l0.length : Int)) = false := decide_eq_false c4
     clear c4
     obtain rfl := Option.some.inj H
     go_wp2
     repeat (go_quiet (fail); try go_wp2)
     go_ret
     exact ⟨by first | rfl | simp [*], by repeat (first | exact Drawn0.refl _ | apply Drawn0.step)⟩
 ·rw [if_neg c3] at H
  obtain ⟨c3b0, c3b1⟩ := eF_ c3
  have c3b2 : (l0.length == l1.length) = false := by first | simpa using c3 | (simp at c3 ⊢; omega)
  obtain rfl := Option.some.inj H
  go_enter Tryz.func29, Tryz.ntmps29
  go_wp2
  repeat (go_quiet (fail); try go_wp2)
  go_ret
  exact ⟨by first | rfl | simp [*], by repeat (first | exact Drawn0.refl _ | apply Drawn0.step)⟩
def glacisref05_Same.f (k : Nat) (a0_0 : Int) (a0_1 : Int) (a0_2 : ByteArray) (l0_3 : List (S60)) (a1_0 : Int) (a1_1 : Int) (a1_2 : ByteArray) (l1_3 : List (S60)) : Option (Bool) := (glacisref05_SameParams.f k l0_3 l1_3).bind fun t410 => (if t410 = true then (if a0_0 = a1_0 then (if a0_1 = a1_1 then (some (a0_2.toList == a1_2.toList)) else (some false)) else (some false)) else (some false))
theorem glacisref05_Same.calls (k : Nat) (a0_0 : Int) (a0_1 : Int) (a0_2 : ByteArray) (A0_3 : Option Addr) (c0_3 : Nat) (l0_3 : List (S60)) (a1_0 : Int) (a1_1 : Int) (a1_2 : ByteArray) (A1_3 : Option Addr) (c1_3 : Nat) (l1_3 : List (S60)) (r : Bool) (w : World) (hr0_3 : Kd.C k60 w A0_3 l0_3.length l0_3) (hc0_3 : l0_3.length ≤ c0_3) (hr1_3 : Kd.C k60 w A1_3 l1_3.length l1_3) (hc1_3 : l1_3.length ≤ c1_3) (h : glacisref05_Same.f k a0_0 a0_1 a0_2 l0_3 a1_0 a1_1 a1_2 l1_3 = some r) :
  Calls Tryz.prog 27 #[.agg #[.int .i64 a0_0, .int .i64 a0_1, .string a0_2, .slice A0_3 l0_3.length c0_3], .agg #[.int .i64 a1_0, .int .i64 a1_1, .string a1_2, .slice A1_3 l1_3.length c1_3]] w fun e w' => e = .returned (.bool r) ∧ Below w.heap.size w w' := by
 have hu31 := Tryz.underlying31
 have HR0_3 := Aside0.mk hr0_3
 have HC0_3 := Aside0.mk hc0_3
 clear hr0_3 hc0_3
 have HR1_3 := Aside0.mk hr1_3
 have HC1_3 := Aside0.mk hc1_3
 clear hr1_3 hc1_3
 have HB := Aside0.mk (Below.refl w.heap.size w)
 have H : ((glacisref05_SameParams.f k l0_3 l1_3).bind fun t410 => (if t410 = true then (if a0_0 = a1_0 then (if a0_1 = a1_1 then (some (a0_2.toList == a1_2.toList)) else (some false)) else (some false)) else (some false))) = some r := h
 clear h
 replace H := Option.bind_eq_some_iff.mp H
 obtain ⟨t410, A30, H⟩ := H
 (try dsimp only at H)
 have A3 := Aside0.mk A30
 clear A30
 by_cases c4 : t410 = true
 ·subst c4
  rw [if_pos rfl] at H
  by_cases c5 : a0_0 = a1_0
  ·rw [if_pos c5] at H
   obtain ⟨c5b0, c5b1⟩ := eT_ c5
   clear c5
   by_cases c6 : a0_1 = a1_1
   ·rw [if_pos c6] at H
    obtain ⟨c6b0, c6b1⟩ := eT_ c6
    clear c6
    obtain rfl := Option.some.inj H
    go_enter Tryz.func27, Tryz.ntmps27
    go_wp2_with (first | ((with_reducible refine gate_dst (N := 2) rfl ?_); refine box_event ?hg (N := 2) ?hd (cs := #[.int .i64 a0_0, .int .i64 a0_1, .string a0_2, .slice A0_3 l0_3.length c0_3]) (t := 31) ?hr ?_; (case hd => rfl); (case hg => rfl); (case hr => first | (go_simp; done) | (go_simp; rfl)); intro gb408 hg w7 hbox hb; have n0_ := Aside0.mk (below_step (bl_ HB.out) hb); have n1_ := Aside0.mk (hbox); have n2_ := Aside0.mk ((hg_ hg (bl_ HB.out))); have n3_ := Aside0.mk ((hg_ hg (bl_ HB.out))); clear HB; have HB := n0_; have BK408 := n1_; have GW408 := n2_; have GE408 := n3_; clear n0_ n1_ n2_ n3_; clear hb hbox hg) | ((with_reducible refine gate_dst (N := 3) rfl ?_); refine box_event ?hg (N := 3) ?hd (cs := #[.int .i64 a1_0, .int .i64 a1_1, .string a1_2, .slice A1_3 l1_3.length c1_3]) (t := 31) ?hr ?_; (case hd => rfl); (case hg => rfl); (case hr => first | (go_simp; done) | (go_simp; rfl)); intro gb409 hg w8 hbox hb; have n0_ := Aside0.mk (blk_below (kl_ BK408.out) hb); have n1_ := Aside0.mk (below_step (bl_ HB.out) hb); have n2_ := Aside0.mk (hbox); have n3_ := Aside0.mk ((hg_ hg (bl_ HB.out))); have n4_ := Aside0.mk ((hg_ hg (bl_ HB.out))); have n5_ := Aside0.mk ((by rw [hg]; exact Nat.ne_of_lt (blk_lt (kl_ BK408.out)) : gb408 ≠ gb409)); have n6_ := Aside0.mk ((by rw [hg]; exact Nat.ne_of_gt (blk_lt (kl_ BK408.out)) : gb409 ≠ gb408)); clear BK408; clear HB; have BK408 := n0_; have HB := n1_; have BK409 := n2_; have GW409 := n3_; have GE409 := n4_; have NB408_409 := n5_; have NB409_408 := n6_; clear n0_ n1_ n2_ n3_ n4_ n5_ n6_; clear hb hbox hg; have hnb9 := NB408_409.out; have hnc9 := NB409_408.out; obtain ⟨hcz10_0, hcz10_1, hcz10_2, hcz10_3⟩ := c4_ BK408.out; obtain ⟨hfz10_0, hfz10_1, hfz10_2, hfz10_3⟩ := f4_ BK408.out; obtain ⟨hcz11_0, hcz11_1, hcz11_2, hcz11_3⟩ := c4_ BK409.out; obtain ⟨hfz11_0, hfz11_1, hfz11_2, hfz11_3⟩ := f4_ BK409.out) | ((with_reducible refine gate_callee (f := 29) rfl ?_); refine goesL_ (some 10) rfl rfl Tryz.func29 (by kernel_rfl) rfl #[.slice A0_3 l0_3.length c0_3, .slice A1_3 l1_3.length c1_3] rfl (by simp only [List.map_toArray, List.map_cons, List.map_nil] <;> rfl) ?_; (with_reducible refine (glacisref05_SameParams.calls k _ _ l0_3 _ _ l1_3 true _ ?side1 ?side2 ?side3 ?side4 A3.out).mono ?_); (case side1 => exact cl_ (Kd.C_below HR0_3.out HB.out)); (case side2 => exact HC0_3.out); (case side3 => exact cl_ (Kd.C_below HR1_3.out HB.out)); (case side4 => exact HC1_3.out); rintro e w' ⟨rfl, ⟨nd, rfl⟩⟩; refine ⟨_, rfl, ?_⟩))
    go_ret
    exact ⟨by first | rfl | simp [*], by repeat (first | (with_reducible first | exact HB.out | apply below_alloc | apply pw_below_drewN | apply below_drew1 | refine below_set ?_ GE408.out | refine below_set ?_ GE409.out) | exact HB.out)⟩
   ·rw [if_neg c6] at H
    obtain ⟨c6b0, c6b1⟩ := eF_ c6
    obtain rfl := Option.some.inj H
    go_enter Tryz.func27, Tryz.ntmps27
    go_wp2_with (first | ((with_reducible refine gate_dst (N := 2) rfl ?_); refine box_event ?hg (N := 2) ?hd (cs := #[.int .i64 a0_0, .int .i64 a0_1, .string a0_2, .slice A0_3 l0_3.length c0_3]) (t := 31) ?hr ?_; (case hd => rfl); (case hg => rfl); (case hr => first | (go_simp; done) | (go_simp; rfl)); intro gb408 hg w12 hbox hb; have n0_ := Aside0.mk (below_step (bl_ HB.out) hb); have n1_ := Aside0.mk (hbox); have n2_ := Aside0.mk ((hg_ hg (bl_ HB.out))); have n3_ := Aside0.mk ((hg_ hg (bl_ HB.out))); clear HB; have HB := n0_; have BK408 := n1_; have GW408 := n2_; have GE408 := n3_; clear n0_ n1_ n2_ n3_; clear hb hbox hg) | ((with_reducible refine gate_dst (N := 3) rfl ?_); refine box_event ?hg (N := 3) ?hd (cs := #[.int .i64 a1_0, .int .i64 a1_1, .string a1_2, .slice A1_3 l1_3.length c1_3]) (t := 31) ?hr ?_; (case hd => rfl); (case hg => rfl); (case hr => first | (go_simp; done) | (go_simp; rfl)); intro gb409 hg w13 hbox hb; have n0_ := Aside0.mk (blk_below (kl_ BK408.out) hb); have n1_ := Aside0.mk (below_step (bl_ HB.out) hb); have n2_ := Aside0.mk (hbox); have n3_ := Aside0.mk ((hg_ hg (bl_ HB.out))); have n4_ := Aside0.mk ((hg_ hg (bl_ HB.out))); have n5_ := Aside0.mk ((by rw [hg]; exact Nat.ne_of_lt (blk_lt (kl_ BK408.out)) : gb408 ≠ gb409)); have n6_ := Aside0.mk ((by rw [hg]; exact Nat.ne_of_gt (blk_lt (kl_ BK408.out)) : gb409 ≠ gb408)); clear BK408; clear HB; have BK408 := n0_; have HB := n1_; have BK409 := n2_; have GW409 := n3_; have GE409 := n4_; have NB408_409 := n5_; have NB409_408 := n6_; clear n0_ n1_ n2_ n3_ n4_ n5_ n6_; clear hb hbox hg; have hnb14 := NB408_409.out; have hnc14 := NB409_408.out; obtain ⟨hcz15_0, hcz15_1, hcz15_2, hcz15_3⟩ := c4_ BK408.out; obtain ⟨hfz15_0, hfz15_1, hfz15_2, hfz15_3⟩ := f4_ BK408.out; obtain ⟨hcz16_0, hcz16_1, hcz16_2, hcz16_3⟩ := c4_ BK409.out; obtain ⟨hfz16_0, hfz16_1, hfz16_2, hfz16_3⟩ := f4_ BK409.out) | ((with_reducible refine gate_callee (f := 29) rfl ?_); refine goesL_ (some 10) rfl rfl Tryz.func29 (by kernel_rfl) rfl #[.slice A0_3 l0_3.length c0_3, .slice A1_3 l1_3.length c1_3] rfl (by simp only [List.map_toArray, List.map_cons, List.map_nil] <;> rfl) ?_; (with_reducible refine (glacisref05_SameParams.calls k _ _ l0_3 _ _ l1_3 true _ ?side1 ?side2 ?side3 ?side4 A3.out).mono ?_); (case side1 => exact cl_ (Kd.C_below HR0_3.out HB.out)); (case side2 => exact HC0_3.out); (case side3 => exact cl_ (Kd.C_below HR1_3.out HB.out)); (case side4 => exact HC1_3.out); rintro e w' ⟨rfl, ⟨nd, rfl⟩⟩; refine ⟨_, rfl, ?_⟩))
    go_ret
    exact ⟨by first | rfl | simp [*], by repeat (first | (with_reducible first | exact HB.out | apply below_alloc | apply pw_below_drewN | apply below_drew1 | refine below_set ?_ GE408.out | refine below_set ?_ GE409.out) | exact HB.out)⟩
  ·rw [if_neg c5] at H
   obtain ⟨c5b0, c5b1⟩ := eF_ c5
   obtain rfl := Option.some.inj H
   go_enter Tryz.func27, Tryz.ntmps27
   go_wp2_with (first | ((with_reducible refine gate_dst (N := 2) rfl ?_); refine box_event ?hg (N := 2) ?hd (cs := #[.int .i64 a0_0, .int .i64 a0_1, .string a0_2, .slice A0_3 l0_3.length c0_3]) (t := 31) ?hr ?_; (case hd => rfl); (case hg => rfl); (case hr => first | (go_simp; done) | (go_simp; rfl)); intro gb408 hg w17 hbox hb; have n0_ := Aside0.mk (below_step (bl_ HB.out) hb); have n1_ := Aside0.mk (hbox); have n2_ := Aside0.mk ((hg_ hg (bl_ HB.out))); have n3_ := Aside0.mk ((hg_ hg (bl_ HB.out))); clear HB; have HB := n0_; have BK408 := n1_; have GW408 := n2_; have GE408 := n3_; clear n0_ n1_ n2_ n3_; clear hb hbox hg) | ((with_reducible refine gate_dst (N := 3) rfl ?_); refine box_event ?hg (N := 3) ?hd (cs := #[.int .i64 a1_0, .int .i64 a1_1, .string a1_2, .slice A1_3 l1_3.length c1_3]) (t := 31) ?hr ?_; (case hd => rfl); (case hg => rfl); (case hr => first | (go_simp; done) | (go_simp; rfl)); intro gb409 hg w18 hbox hb; have n0_ := Aside0.mk (blk_below (kl_ BK408.out) hb); have n1_ := Aside0.mk (below_step (bl_ HB.out) hb); have n2_ := Aside0.mk (hbox); have n3_ := Aside0.mk ((hg_ hg (bl_ HB.out))); have n4_ := Aside0.mk ((hg_ hg (bl_ HB.out))); have n5_ := Aside0.mk ((by rw [hg]; exact Nat.ne_of_lt (blk_lt (kl_ BK408.out)) : gb408 ≠ gb409)); have n6_ := Aside0.mk ((by rw [hg]; exact Nat.ne_of_gt (blk_lt (kl_ BK408.out)) : gb409 ≠ gb408)); clear BK408; clear HB; have BK408 := n0_; have HB := n1_; have BK409 := n2_; have GW409 := n3_; have GE409 := n4_; have NB408_409 := n5_; have NB409_408 := n6_; clear n0_ n1_ n2_ n3_ n4_ n5_ n6_; clear hb hbox hg; have hnb19 := NB408_409.out; have hnc19 := NB409_408.out; obtain ⟨hcz20_0, hcz20_1, hcz20_2, hcz20_3⟩ := c4_ BK408.out; obtain ⟨hfz20_0, hfz20_1, hfz20_2, hfz20_3⟩ := f4_ BK408.out; obtain ⟨hcz21_0, hcz21_1, hcz21_2, hcz21_3⟩ := c4_ BK409.out; obtain ⟨hfz21_0, hfz21_1, hfz21_2, hfz21_3⟩ := f4_ BK409.out) | ((with_reducible refine gate_callee (f := 29) rfl ?_); refine goesL_ (some 10) rfl rfl Tryz.func29 (by kernel_rfl) rfl #[.slice A0_3 l0_3.length c0_3, .slice A1_3 l1_3.length c1_3] rfl (by simp only [List.map_toArray, List.map_cons, List.map_nil] <;> rfl) ?_; (with_reducible refine (glacisref05_SameParams.calls k _ _ l0_3 _ _ l1_3 true _ ?side1 ?side2 ?side3 ?side4 A3.out).mono ?_); (case side1 => exact cl_ (Kd.C_below HR0_3.out HB.out)); (case side2 => exact HC0_3.out); (case side3 => exact cl_ (Kd.C_below HR1_3.out HB.out)); (case side4 => exact HC1_3.out); rintro e w' ⟨rfl, ⟨nd, rfl⟩⟩; refine ⟨_, rfl, ?_⟩))
   go_ret
   exact ⟨by first | rfl | simp [*], by repeat (first | (with_reducible first | exact HB.out | apply below_alloc | apply pw_below_drewN | apply below_drew1 | refine below_set ?_ GE408.out | refine below_set ?_ GE409.out) | exact HB.out)⟩
 ·replace c4 := Bool.eq_false_iff.mpr c4
  subst c4
  rw [if_neg (show ¬ (false = true) by decide)] at H
  obtain rfl := Option.some.inj H
  go_enter Tryz.func27, Tryz.ntmps27
  go_wp2_with (first | ((with_reducible refine gate_dst (N := 2) rfl ?_); refine box_event ?hg (N := 2) ?hd (cs := #[.int .i64 a0_0, .int .i64 a0_1, .string a0_2, .slice A0_3 l0_3.length c0_3]) (t := 31) ?hr ?_; (case hd => rfl); (case hg => rfl); (case hr => first | (go_simp; done) | (go_simp; rfl)); intro gb408 hg w22 hbox hb; have n0_ := Aside0.mk (below_step (bl_ HB.out) hb); have n1_ := Aside0.mk (hbox); have n2_ := Aside0.mk ((hg_ hg (bl_ HB.out))); have n3_ := Aside0.mk ((hg_ hg (bl_ HB.out))); clear HB; have HB := n0_; have BK408 := n1_; have GW408 := n2_; have GE408 := n3_; clear n0_ n1_ n2_ n3_; clear hb hbox hg) | ((with_reducible refine gate_dst (N := 3) rfl ?_); refine box_event ?hg (N := 3) ?hd (cs := #[.int .i64 a1_0, .int .i64 a1_1, .string a1_2, .slice A1_3 l1_3.length c1_3]) (t := 31) ?hr ?_; (case hd => rfl); (case hg => rfl); (case hr => first | (go_simp; done) | (go_simp; rfl)); intro gb409 hg w23 hbox hb; have n0_ := Aside0.mk (blk_below (kl_ BK408.out) hb); have n1_ := Aside0.mk (below_step (bl_ HB.out) hb); have n2_ := Aside0.mk (hbox); have n3_ := Aside0.mk ((hg_ hg (bl_ HB.out))); have n4_ := Aside0.mk ((hg_ hg (bl_ HB.out))); have n5_ := Aside0.mk ((by rw [hg]; exact Nat.ne_of_lt (blk_lt (kl_ BK408.out)) : gb408 ≠ gb409)); have n6_ := Aside0.mk ((by rw [hg]; exact Nat.ne_of_gt (blk_lt (kl_ BK408.out)) : gb409 ≠ gb408)); clear BK408; clear HB; have BK408 := n0_; have HB := n1_; have BK409 := n2_; have GW409 := n3_; have GE409 := n4_; have NB408_409 := n5_; have NB409_408 := n6_; clear n0_ n1_ n2_ n3_ n4_ n5_ n6_; clear hb hbox hg; have hnb24 := NB408_409.out; have hnc24 := NB409_408.out; obtain ⟨hcz25_0, hcz25_1, hcz25_2, hcz25_3⟩ := c4_ BK408.out; obtain ⟨hfz25_0, hfz25_1, hfz25_2, hfz25_3⟩ := f4_ BK408.out; obtain ⟨hcz26_0, hcz26_1, hcz26_2, hcz26_3⟩ := c4_ BK409.out; obtain ⟨hfz26_0, hfz26_1, hfz26_2, hfz26_3⟩ := f4_ BK409.out) | ((with_reducible refine gate_callee (f := 29) rfl ?_); refine goesL_ (some 10) rfl rfl Tryz.func29 (by kernel_rfl) rfl #[.slice A0_3 l0_3.length c0_3, .slice A1_3 l1_3.length c1_3] rfl (by simp only [List.map_toArray, List.map_cons, List.map_nil] <;> rfl) ?_; (with_reducible refine (glacisref05_SameParams.calls k _ _ l0_3 _ _ l1_3 false _ ?side1 ?side2 ?side3 ?side4 A3.out).mono ?_); (case side1 => exact cl_ (Kd.C_below HR0_3.out HB.out)); (case side2 => exact HC0_3.out); (case side3 => exact cl_ (Kd.C_below HR1_3.out HB.out)); (case side4 => exact HC1_3.out); rintro e w' ⟨rfl, ⟨nd, rfl⟩⟩; refine ⟨_, rfl, ?_⟩))
  go_ret
  exact ⟨by first | rfl | simp [*], by repeat (first | (with_reducible first | exact HB.out | apply below_alloc | apply pw_below_drewN | apply below_drew1 | refine below_set ?_ GE408.out | refine below_set ?_ GE409.out) | exact HB.out)⟩
end Go.Proofs.YtjdbiicjfpgjkaaGreatDoor.Q
