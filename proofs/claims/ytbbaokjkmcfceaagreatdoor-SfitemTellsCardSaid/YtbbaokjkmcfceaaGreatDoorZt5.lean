/- The law SfitemTells: its row and card. Its conditions: the row's own. -/
import Derived.Test.YtbbaokjkmcfceaaGreatDoorZt4
import Derived.Carry
import Derived.Deep.Slices
import Derived.Lib.LaidTab
import Derived.Lib.SmallJoins
import Derived.Stop.LaidErr
namespace Go.Proofs.YtbbaokjkmcfceaaGreatDoor.Q
open Go.RowKit Go.Proofs.YtbbaokjkmcfceaaGreatDoorW.PrintWords Go.Proofs.YtbbaokjkmcfceaaGreatDoorW.PrintLast Go.Proofs.YtbbaokjkmcfceaaGreatDoorW.PrintMore
set_option linter.unusedVariables false
set_option linter.unusedSimpArgs false
def glacislaw05_SfitemTells.f (k : Nat) (a0_0 : Int) (a0_1 : Int) (a0_2 : ByteArray) (l0_3 : List (S43)) : Option (Bool) := (glacislaw05_awake.f).bind fun t342 => ((glacislaw05_few.f k a0_0 a0_1 a0_2 l0_3).bind fun t343 => (if t343 = true then ((sfitem_Text.f a0_0 a0_1 a0_2 l0_3).bind fun bt344 => ((glacisref05_Text.f k a0_0 a0_1 a0_2 l0_3).bind fun bt346 => ((sfitem_Tail.f l0_3).bind fun bt348 => ((glacisref05_Tail.f k l0_3).bind fun bt350 => (if t342 = true then (if bt344.1.toList = bt346.1.toList then (if bt344.2 = bt346.2 then (if bt348.1.toList = bt350.1.toList then (some (bt348.2 == bt350.2)) else (some false)) else (some false)) else (some false)) else (some false)))))) else (some t342)))
set_option maxHeartbeats 8000000 in
set_option maxRecDepth 100000 in
theorem glacislaw05_SfitemTells.calls (k : Nat) (a0_0 : Int) (a0_1 : Int) (a0_2 : ByteArray) (A0_3 : Option Addr) (c0_3 : Nat) (l0_3 : List (S43)) (r : Bool) (w : World) (hT_ : Aside0 (TabW w)) (hr0_3 : Kd.C k43 w A0_3 l0_3.length l0_3) (hc0_3 : l0_3.length ≤ c0_3) (h : glacislaw05_SfitemTells.f k a0_0 a0_1 a0_2 l0_3 = some r) :
    Calls Tryz.prog 4 #[.agg #[.int .i64 a0_0, .int .i64 a0_1, .string a0_2, .slice A0_3 l0_3.length c0_3]] w fun e w' => e = .returned (.bool r) ∧ Below w.heap.size w w' := by
  have hu25 := Tryz.underlying25
  have HR0_3 := Aside0.mk hr0_3
  have HC0_3 := Aside0.mk hc0_3
  clear hr0_3 hc0_3
  have HB := Aside0.mk (Below.refl w.heap.size w)
  have H : ((glacislaw05_awake.f).bind fun t342 => ((glacislaw05_few.f k a0_0 a0_1 a0_2 l0_3).bind fun t343 => (if t343 = true then ((sfitem_Text.f a0_0 a0_1 a0_2 l0_3).bind fun bt344 => ((glacisref05_Text.f k a0_0 a0_1 a0_2 l0_3).bind fun bt346 => ((sfitem_Tail.f l0_3).bind fun bt348 => ((glacisref05_Tail.f k l0_3).bind fun bt350 => (if t342 = true then (if bt344.1.toList = bt346.1.toList then (if bt344.2 = bt346.2 then (if bt348.1.toList = bt350.1.toList then (some (bt348.2 == bt350.2)) else (some false)) else (some false)) else (some false)) else (some false)))))) else (some t342)))) = some r := h
  clear h
  replace H := Option.bind_eq_some_iff.mp H
  obtain ⟨t342, A20, H⟩ := H
  replace H : ((glacislaw05_few.f k a0_0 a0_1 a0_2 l0_3).bind fun t343 => (if t343 = true then ((sfitem_Text.f a0_0 a0_1 a0_2 l0_3).bind fun bt344 => ((glacisref05_Text.f k a0_0 a0_1 a0_2 l0_3).bind fun bt346 => ((sfitem_Tail.f l0_3).bind fun bt348 => ((glacisref05_Tail.f k l0_3).bind fun bt350 => (if t342 = true then (if bt344.1.toList = bt346.1.toList then (if bt344.2 = bt346.2 then (if bt348.1.toList = bt350.1.toList then (some (bt348.2 == bt350.2)) else (some false)) else (some false)) else (some false)) else (some false)))))) else (some t342))) = some r := H
  have A2 := Aside0.mk A20
  clear A20
  replace H := Option.bind_eq_some_iff.mp H
  obtain ⟨t343, A30, H⟩ := H
  replace H : (if t343 = true then ((sfitem_Text.f a0_0 a0_1 a0_2 l0_3).bind fun bt344 => ((glacisref05_Text.f k a0_0 a0_1 a0_2 l0_3).bind fun bt346 => ((sfitem_Tail.f l0_3).bind fun bt348 => ((glacisref05_Tail.f k l0_3).bind fun bt350 => (if t342 = true then (if bt344.1.toList = bt346.1.toList then (if bt344.2 = bt346.2 then (if bt348.1.toList = bt350.1.toList then (some (bt348.2 == bt350.2)) else (some false)) else (some false)) else (some false)) else (some false)))))) else (some t342)) = some r := H
  have A3 := Aside0.mk A30
  clear A30
  by_cases c4 : t343 = true
  · subst c4
    have H1 : ((sfitem_Text.f a0_0 a0_1 a0_2 l0_3).bind fun bt344 => ((glacisref05_Text.f k a0_0 a0_1 a0_2 l0_3).bind fun bt346 => ((sfitem_Tail.f l0_3).bind fun bt348 => ((glacisref05_Tail.f k l0_3).bind fun bt350 => (if t342 = true then (if bt344.1.toList = bt346.1.toList then (if bt344.2 = bt346.2 then (if bt348.1.toList = bt350.1.toList then (some (bt348.2 == bt350.2)) else (some false)) else (some false)) else (some false)) else (some false)))))) = some r := by rw [if_pos rfl] at H; exact H
    clear H
    have H := H1
    clear H1
    replace H := Option.bind_eq_some_iff.mp H
    obtain ⟨⟨t344, t345⟩, A50, H⟩ := H
    replace H : ((glacisref05_Text.f k a0_0 a0_1 a0_2 l0_3).bind fun bt346 => ((sfitem_Tail.f l0_3).bind fun bt348 => ((glacisref05_Tail.f k l0_3).bind fun bt350 => (if t342 = true then (if t344.toList = bt346.1.toList then (if t345 = bt346.2 then (if bt348.1.toList = bt350.1.toList then (some (bt348.2 == bt350.2)) else (some false)) else (some false)) else (some false)) else (some false))))) = some r := H
    have A5 := Aside0.mk A50
    clear A50
    replace H := Option.bind_eq_some_iff.mp H
    obtain ⟨⟨t346, t347⟩, A60, H⟩ := H
    replace H : ((sfitem_Tail.f l0_3).bind fun bt348 => ((glacisref05_Tail.f k l0_3).bind fun bt350 => (if t342 = true then (if t344.toList = t346.toList then (if t345 = t347 then (if bt348.1.toList = bt350.1.toList then (some (bt348.2 == bt350.2)) else (some false)) else (some false)) else (some false)) else (some false)))) = some r := H
    have A6 := Aside0.mk A60
    clear A60
    replace H := Option.bind_eq_some_iff.mp H
    obtain ⟨⟨t348, t349⟩, A70, H⟩ := H
    replace H : ((glacisref05_Tail.f k l0_3).bind fun bt350 => (if t342 = true then (if t344.toList = t346.toList then (if t345 = t347 then (if t348.toList = bt350.1.toList then (some (t349 == bt350.2)) else (some false)) else (some false)) else (some false)) else (some false))) = some r := H
    have A7 := Aside0.mk A70
    clear A70
    replace H := Option.bind_eq_some_iff.mp H
    obtain ⟨⟨t350, t351⟩, A80, H⟩ := H
    replace H : (if t342 = true then (if t344.toList = t346.toList then (if t345 = t347 then (if t348.toList = t350.toList then (some (t349 == t351)) else (some false)) else (some false)) else (some false)) else (some false)) = some r := H
    have A8 := Aside0.mk A80
    clear A80
    by_cases c9 : t342 = true
    · subst c9
      have H1 : (if t344.toList = t346.toList then (if t345 = t347 then (if t348.toList = t350.toList then (some (t349 == t351)) else (some false)) else (some false)) else (some false)) = some r := by rw [if_pos rfl] at H; exact H
      clear H
      have H := H1
      clear H1
      by_cases c10 : t344.toList = t346.toList
      · rw [if_pos c10] at H
        have c10b0 : (t344.toList == t346.toList) = true := beq_iff_eq.mpr c10
        have c10b1 : (t344.toList != t346.toList) = false := bne_eq_false_iff_eq.mpr c10
        clear c10
        by_cases c11 : t345 = t347
        · rw [if_pos c11] at H
          have c11b0 : (t345 == t347) = true := beq_iff_eq.mpr c11
          have c11b1 : (t345 != t347) = false := bne_eq_false_iff_eq.mpr c11
          clear c11
          by_cases c12 : t348.toList = t350.toList
          · rw [if_pos c12] at H
            have c12b0 : (t348.toList == t350.toList) = true := beq_iff_eq.mpr c12
            have c12b1 : (t348.toList != t350.toList) = false := bne_eq_false_iff_eq.mpr c12
            clear c12
            obtain rfl := Option.some.inj H
            go_enter Tryz.func4, Tryz.ntmps4
            go_wp2_with (first | ((with_reducible refine gate_dst (N := 1) rfl ?_); refine box_event ?hg (N := 1) ?hd (cs := #[.int .i64 a0_0, .int .i64 a0_1, .string a0_2, .slice A0_3 l0_3.length c0_3]) (t := 25) ?hr ?_; (case hd => rfl); (case hg => rfl); (case hr => first | (go_simp; done) | (go_simp; rfl)); intro gb341 hg w13 hbox hb; have n0_ := Aside0.mk (below_step (by repeat (first | (with_reducible first | exact HB.out | apply below_alloc | apply pw_below_drewN | apply below_drew1) | exact HB.out)) hb); have n1_ := Aside0.mk (hbox); have n2_ := Aside0.mk ((by rw [hg]; exact (below_size (by repeat (first | (with_reducible first | exact HB.out | apply below_alloc | apply pw_below_drewN | apply below_drew1) | exact HB.out))) : w.heap.size ≤ gb341)); have n3_ := Aside0.mk ((by rw [hg]; exact (below_size (by repeat (first | (with_reducible first | exact HB.out | apply below_alloc | apply pw_below_drewN | apply below_drew1) | exact HB.out))) : w.heap.size ≤ gb341)); clear HB; have HB := n0_; have BK341 := n1_; have GW341 := n2_; have GE341 := n3_; clear n0_ n1_ n2_ n3_; clear hb hbox hg) | ((with_reducible refine gate_callee (f := 6) rfl ?_); refine goesL_ (some 13) rfl rfl Tryz.func6 (by kernel_rfl) rfl #[] rfl (by (try simp only [List.map_toArray, List.map_cons, List.map_nil]); first | done | rfl | (simp only [List.length_drop, List.length_take]; rfl)) ?_; (with_reducible refine (glacislaw05_awake.calls  true _ (tab_ hT_ ?hTab) A2.out).mono ?_); (case hTab => exact (by repeat (first | (with_reducible first | exact HB.out | apply below_alloc | apply pw_below_drewN | apply below_drew1 | refine below_set ?_ GE341.out) | exact HB.out))); rintro e w14 ⟨rfl, hb⟩; refine ⟨_, rfl, ?_⟩; have n0_ := Aside0.mk (blk_below (g := gb341) (o := .cells #[.int .i64 a0_0, .int .i64 a0_1, .string a0_2, .slice A0_3 l0_3.length c0_3] 25 (0, 0)) (by (with_reducible repeat (first | refine blk_drewN ?_ _ | refine blk_drew ?_ | refine blk_alloc ?_ _)); exact BK341.out) hb); have n1_ := Aside0.mk (below_step (by repeat (first | (with_reducible first | exact HB.out | apply below_alloc | apply pw_below_drewN | apply below_drew1 | refine below_set ?_ GE341.out) | exact HB.out)) hb); clear BK341; clear HB; have BK341 := n0_; have HB := n1_; clear n0_ n1_; (try clear hb); (try clear hb2); (try clear hk); (try clear hi); have hcz15_0 : w14.cell? ⟨gb341, 0, none⟩ = some (.int .i64 a0_0) := (blk_cell BK341.out 0).trans rfl; have hcz15_1 : w14.cell? ⟨gb341, 1, none⟩ = some (.int .i64 a0_1) := (blk_cell BK341.out 1).trans rfl; have hcz15_2 : w14.cell? ⟨gb341, 2, none⟩ = some (.string a0_2) := (blk_cell BK341.out 2).trans rfl; have hcz15_3 : w14.cell? ⟨gb341, 3, none⟩ = some (.slice A0_3 l0_3.length c0_3) := (blk_cell BK341.out 3).trans rfl; have hfz15_0 := blk_frozen BK341.out 0; have hfz15_1 := blk_frozen BK341.out 1; have hfz15_2 := blk_frozen BK341.out 2; have hfz15_3 := blk_frozen BK341.out 3) | ((with_reducible refine gate_callee (f := 10) rfl ?_); refine goesL_ (some 15) rfl rfl Tryz.func10 (by kernel_rfl) rfl #[.agg #[.int .i64 a0_0, .int .i64 a0_1, .string a0_2, .slice A0_3 l0_3.length c0_3]] rfl (by (try simp only [List.map_toArray, List.map_cons, List.map_nil]); first | done | rfl | (simp only [List.length_drop, List.length_take]; rfl)) ?_; (with_reducible refine (glacislaw05_few.calls k a0_0 a0_1 a0_2 _ _ l0_3 true _ ?side1 ?side2 A3.out).mono ?_); (case side1 => repeat (first | exact (Kd.C_below HR0_3.out HB.out) | (with_reducible refine Kd.C_alloc ?_ _) | (with_reducible refine Kd.C_drewN ?_ _) | (with_reducible refine Kd.C_drew ?_))); (case side2 => exact HC0_3.out); rintro e w16 ⟨rfl, hb⟩; refine ⟨_, rfl, ?_⟩; have n0_ := Aside0.mk (blk_below (g := gb341) (o := .cells #[.int .i64 a0_0, .int .i64 a0_1, .string a0_2, .slice A0_3 l0_3.length c0_3] 25 (0, 0)) (by (with_reducible repeat (first | refine blk_drewN ?_ _ | refine blk_drew ?_ | refine blk_alloc ?_ _)); exact BK341.out) hb); have n1_ := Aside0.mk (below_step (by repeat (first | (with_reducible first | exact HB.out | apply below_alloc | apply pw_below_drewN | apply below_drew1 | refine below_set ?_ GE341.out) | exact HB.out)) hb); clear BK341; clear HB; have BK341 := n0_; have HB := n1_; clear n0_ n1_; (try clear hb); (try clear hb2); (try clear hk); (try clear hi); have hcz17_0 : w16.cell? ⟨gb341, 0, none⟩ = some (.int .i64 a0_0) := (blk_cell BK341.out 0).trans rfl; have hcz17_1 : w16.cell? ⟨gb341, 1, none⟩ = some (.int .i64 a0_1) := (blk_cell BK341.out 1).trans rfl; have hcz17_2 : w16.cell? ⟨gb341, 2, none⟩ = some (.string a0_2) := (blk_cell BK341.out 2).trans rfl; have hcz17_3 : w16.cell? ⟨gb341, 3, none⟩ = some (.slice A0_3 l0_3.length c0_3) := (blk_cell BK341.out 3).trans rfl; have hfz17_0 := blk_frozen BK341.out 0; have hfz17_1 := blk_frozen BK341.out 1; have hfz17_2 := blk_frozen BK341.out 2; have hfz17_3 := blk_frozen BK341.out 3) | ((with_reducible refine gate_callee (f := 11) rfl ?_); refine goesL_ (some 21) rfl rfl Tryz.func11 (by kernel_rfl) rfl #[.agg #[.int .i64 a0_0, .int .i64 a0_1, .string a0_2, .slice A0_3 l0_3.length c0_3]] rfl (by (try simp only [List.map_toArray, List.map_cons, List.map_nil]); first | done | rfl | (simp only [List.length_drop, List.length_take]; rfl)) ?_; (with_reducible refine (sfitem_Text.calls a0_0 a0_1 a0_2 _ _ l0_3 t344 t345 _ (tab_ hT_ ?hTab) ?side1 ?side2 A5.out).mono ?_); (case hTab => exact (by repeat (first | (with_reducible first | exact HB.out | apply below_alloc | apply pw_below_drewN | apply below_drew1 | refine below_set ?_ GE341.out) | exact HB.out))); (case side1 => repeat (first | exact (Kd.C_below HR0_3.out HB.out) | (with_reducible refine Kd.C_alloc ?_ _) | (with_reducible refine Kd.C_drewN ?_ _) | (with_reducible refine Kd.C_drew ?_))); (case side2 => exact HC0_3.out); rintro e w18 ⟨rfl, hb⟩; refine ⟨_, rfl, ?_⟩; have n0_ := Aside0.mk (blk_below (g := gb341) (o := .cells #[.int .i64 a0_0, .int .i64 a0_1, .string a0_2, .slice A0_3 l0_3.length c0_3] 25 (0, 0)) (by (with_reducible repeat (first | refine blk_drewN ?_ _ | refine blk_drew ?_ | refine blk_alloc ?_ _)); exact BK341.out) hb); have n1_ := Aside0.mk (below_step (by repeat (first | (with_reducible first | exact HB.out | apply below_alloc | apply pw_below_drewN | apply below_drew1 | refine below_set ?_ GE341.out) | exact HB.out)) hb); clear BK341; clear HB; have BK341 := n0_; have HB := n1_; clear n0_ n1_; (try clear hb); (try clear hb2); (try clear hk); (try clear hi); have hcz19_0 : w18.cell? ⟨gb341, 0, none⟩ = some (.int .i64 a0_0) := (blk_cell BK341.out 0).trans rfl; have hcz19_1 : w18.cell? ⟨gb341, 1, none⟩ = some (.int .i64 a0_1) := (blk_cell BK341.out 1).trans rfl; have hcz19_2 : w18.cell? ⟨gb341, 2, none⟩ = some (.string a0_2) := (blk_cell BK341.out 2).trans rfl; have hcz19_3 : w18.cell? ⟨gb341, 3, none⟩ = some (.slice A0_3 l0_3.length c0_3) := (blk_cell BK341.out 3).trans rfl; have hfz19_0 := blk_frozen BK341.out 0; have hfz19_1 := blk_frozen BK341.out 1; have hfz19_2 := blk_frozen BK341.out 2; have hfz19_3 := blk_frozen BK341.out 3) | ((with_reducible refine gate_callee (f := 12) rfl ?_); refine goesL_ (some 26) rfl rfl Tryz.func12 (by kernel_rfl) rfl #[.agg #[.int .i64 a0_0, .int .i64 a0_1, .string a0_2, .slice A0_3 l0_3.length c0_3]] rfl (by (try simp only [List.map_toArray, List.map_cons, List.map_nil]); first | done | rfl | (simp only [List.length_drop, List.length_take]; rfl)) ?_; (with_reducible refine (glacisref05_Text.calls k a0_0 a0_1 a0_2 _ _ l0_3 t346 t347 _ (tab_ hT_ ?hTab) ?side1 ?side2 A6.out).mono ?_); (case hTab => exact (by repeat (first | (with_reducible first | exact HB.out | apply below_alloc | apply pw_below_drewN | apply below_drew1 | refine below_set ?_ GE341.out) | exact HB.out))); (case side1 => repeat (first | exact (Kd.C_below HR0_3.out HB.out) | (with_reducible refine Kd.C_alloc ?_ _) | (with_reducible refine Kd.C_drewN ?_ _) | (with_reducible refine Kd.C_drew ?_))); (case side2 => exact HC0_3.out); rintro e w20 ⟨rfl, hb⟩; refine ⟨_, rfl, ?_⟩; have n0_ := Aside0.mk (blk_below (g := gb341) (o := .cells #[.int .i64 a0_0, .int .i64 a0_1, .string a0_2, .slice A0_3 l0_3.length c0_3] 25 (0, 0)) (by (with_reducible repeat (first | refine blk_drewN ?_ _ | refine blk_drew ?_ | refine blk_alloc ?_ _)); exact BK341.out) hb); have n1_ := Aside0.mk (below_step (by repeat (first | (with_reducible first | exact HB.out | apply below_alloc | apply pw_below_drewN | apply below_drew1 | refine below_set ?_ GE341.out) | exact HB.out)) hb); clear BK341; clear HB; have BK341 := n0_; have HB := n1_; clear n0_ n1_; (try clear hb); (try clear hb2); (try clear hk); (try clear hi); have hcz21_0 : w20.cell? ⟨gb341, 0, none⟩ = some (.int .i64 a0_0) := (blk_cell BK341.out 0).trans rfl; have hcz21_1 : w20.cell? ⟨gb341, 1, none⟩ = some (.int .i64 a0_1) := (blk_cell BK341.out 1).trans rfl; have hcz21_2 : w20.cell? ⟨gb341, 2, none⟩ = some (.string a0_2) := (blk_cell BK341.out 2).trans rfl; have hcz21_3 : w20.cell? ⟨gb341, 3, none⟩ = some (.slice A0_3 l0_3.length c0_3) := (blk_cell BK341.out 3).trans rfl; have hfz21_0 := blk_frozen BK341.out 0; have hfz21_1 := blk_frozen BK341.out 1; have hfz21_2 := blk_frozen BK341.out 2; have hfz21_3 := blk_frozen BK341.out 3) | ((with_reducible refine gate_callee (f := 13) rfl ?_); refine goesL_ (some 32) rfl rfl Tryz.func13 (by kernel_rfl) rfl #[.slice A0_3 l0_3.length c0_3] rfl (by (try simp only [List.map_toArray, List.map_cons, List.map_nil]); first | done | rfl | (simp only [List.length_drop, List.length_take]; rfl)) ?_; (with_reducible refine (sfitem_Tail.calls _ _ l0_3 t348 t349 _ (tab_ hT_ ?hTab) ?side1 ?side2 A7.out).mono ?_); (case hTab => exact (by repeat (first | (with_reducible first | exact HB.out | apply below_alloc | apply pw_below_drewN | apply below_drew1 | refine below_set ?_ GE341.out) | exact HB.out))); (case side1 => repeat (first | exact (Kd.C_below HR0_3.out HB.out) | (with_reducible refine Kd.C_alloc ?_ _) | (with_reducible refine Kd.C_drewN ?_ _) | (with_reducible refine Kd.C_drew ?_))); (case side2 => exact HC0_3.out); rintro e w22 ⟨rfl, hb⟩; refine ⟨_, rfl, ?_⟩; have n0_ := Aside0.mk (blk_below (g := gb341) (o := .cells #[.int .i64 a0_0, .int .i64 a0_1, .string a0_2, .slice A0_3 l0_3.length c0_3] 25 (0, 0)) (by (with_reducible repeat (first | refine blk_drewN ?_ _ | refine blk_drew ?_ | refine blk_alloc ?_ _)); exact BK341.out) hb); have n1_ := Aside0.mk (below_step (by repeat (first | (with_reducible first | exact HB.out | apply below_alloc | apply pw_below_drewN | apply below_drew1 | refine below_set ?_ GE341.out) | exact HB.out)) hb); clear BK341; clear HB; have BK341 := n0_; have HB := n1_; clear n0_ n1_; (try clear hb); (try clear hb2); (try clear hk); (try clear hi); have hcz23_0 : w22.cell? ⟨gb341, 0, none⟩ = some (.int .i64 a0_0) := (blk_cell BK341.out 0).trans rfl; have hcz23_1 : w22.cell? ⟨gb341, 1, none⟩ = some (.int .i64 a0_1) := (blk_cell BK341.out 1).trans rfl; have hcz23_2 : w22.cell? ⟨gb341, 2, none⟩ = some (.string a0_2) := (blk_cell BK341.out 2).trans rfl; have hcz23_3 : w22.cell? ⟨gb341, 3, none⟩ = some (.slice A0_3 l0_3.length c0_3) := (blk_cell BK341.out 3).trans rfl; have hfz23_0 := blk_frozen BK341.out 0; have hfz23_1 := blk_frozen BK341.out 1; have hfz23_2 := blk_frozen BK341.out 2; have hfz23_3 := blk_frozen BK341.out 3) | ((with_reducible refine gate_callee (f := 14) rfl ?_); refine goesL_ (some 38) rfl rfl Tryz.func14 (by kernel_rfl) rfl #[.slice A0_3 l0_3.length c0_3] rfl (by (try simp only [List.map_toArray, List.map_cons, List.map_nil]); first | done | rfl | (simp only [List.length_drop, List.length_take]; rfl)) ?_; (with_reducible refine (glacisref05_Tail.calls k _ _ l0_3 t350 t351 _ (tab_ hT_ ?hTab) ?side1 ?side2 A8.out).mono ?_); (case hTab => exact (by repeat (first | (with_reducible first | exact HB.out | apply below_alloc | apply pw_below_drewN | apply below_drew1 | refine below_set ?_ GE341.out) | exact HB.out))); (case side1 => repeat (first | exact (Kd.C_below HR0_3.out HB.out) | (with_reducible refine Kd.C_alloc ?_ _) | (with_reducible refine Kd.C_drewN ?_ _) | (with_reducible refine Kd.C_drew ?_))); (case side2 => exact HC0_3.out); rintro e w24 ⟨rfl, hb⟩; refine ⟨_, rfl, ?_⟩; have n0_ := Aside0.mk (blk_below (g := gb341) (o := .cells #[.int .i64 a0_0, .int .i64 a0_1, .string a0_2, .slice A0_3 l0_3.length c0_3] 25 (0, 0)) (by (with_reducible repeat (first | refine blk_drewN ?_ _ | refine blk_drew ?_ | refine blk_alloc ?_ _)); exact BK341.out) hb); have n1_ := Aside0.mk (below_step (by repeat (first | (with_reducible first | exact HB.out | apply below_alloc | apply pw_below_drewN | apply below_drew1 | refine below_set ?_ GE341.out) | exact HB.out)) hb); clear BK341; clear HB; have BK341 := n0_; have HB := n1_; clear n0_ n1_; (try clear hb); (try clear hb2); (try clear hk); (try clear hi)))
            go_ret
            exact ⟨by first | rfl | (simp [errW_none, errW_some] <;> rfl) | (simp [*, errW_none, errW_some] <;> rfl) | (simp [q_ne_nil]; done), by repeat (first | (with_reducible first | exact HB.out | apply below_alloc | apply pw_below_drewN | apply below_drew1 | refine below_set ?_ GE341.out) | exact HB.out)⟩
          · rw [if_neg c12] at H
            have c12b0 : (t348.toList == t350.toList) = false := beq_eq_false_iff_ne.mpr c12
            have c12b1 : (t348.toList != t350.toList) = true := bne_iff_ne.mpr c12
            obtain rfl := Option.some.inj H
            go_enter Tryz.func4, Tryz.ntmps4
            go_wp2_with (first | ((with_reducible refine gate_dst (N := 1) rfl ?_); refine box_event ?hg (N := 1) ?hd (cs := #[.int .i64 a0_0, .int .i64 a0_1, .string a0_2, .slice A0_3 l0_3.length c0_3]) (t := 25) ?hr ?_; (case hd => rfl); (case hg => rfl); (case hr => first | (go_simp; done) | (go_simp; rfl)); intro gb341 hg w25 hbox hb; have n0_ := Aside0.mk (below_step (by repeat (first | (with_reducible first | exact HB.out | apply below_alloc | apply pw_below_drewN | apply below_drew1) | exact HB.out)) hb); have n1_ := Aside0.mk (hbox); have n2_ := Aside0.mk ((by rw [hg]; exact (below_size (by repeat (first | (with_reducible first | exact HB.out | apply below_alloc | apply pw_below_drewN | apply below_drew1) | exact HB.out))) : w.heap.size ≤ gb341)); have n3_ := Aside0.mk ((by rw [hg]; exact (below_size (by repeat (first | (with_reducible first | exact HB.out | apply below_alloc | apply pw_below_drewN | apply below_drew1) | exact HB.out))) : w.heap.size ≤ gb341)); clear HB; have HB := n0_; have BK341 := n1_; have GW341 := n2_; have GE341 := n3_; clear n0_ n1_ n2_ n3_; clear hb hbox hg) | ((with_reducible refine gate_callee (f := 6) rfl ?_); refine goesL_ (some 13) rfl rfl Tryz.func6 (by kernel_rfl) rfl #[] rfl (by (try simp only [List.map_toArray, List.map_cons, List.map_nil]); first | done | rfl | (simp only [List.length_drop, List.length_take]; rfl)) ?_; (with_reducible refine (glacislaw05_awake.calls  true _ (tab_ hT_ ?hTab) A2.out).mono ?_); (case hTab => exact (by repeat (first | (with_reducible first | exact HB.out | apply below_alloc | apply pw_below_drewN | apply below_drew1 | refine below_set ?_ GE341.out) | exact HB.out))); rintro e w26 ⟨rfl, hb⟩; refine ⟨_, rfl, ?_⟩; have n0_ := Aside0.mk (blk_below (g := gb341) (o := .cells #[.int .i64 a0_0, .int .i64 a0_1, .string a0_2, .slice A0_3 l0_3.length c0_3] 25 (0, 0)) (by (with_reducible repeat (first | refine blk_drewN ?_ _ | refine blk_drew ?_ | refine blk_alloc ?_ _)); exact BK341.out) hb); have n1_ := Aside0.mk (below_step (by repeat (first | (with_reducible first | exact HB.out | apply below_alloc | apply pw_below_drewN | apply below_drew1 | refine below_set ?_ GE341.out) | exact HB.out)) hb); clear BK341; clear HB; have BK341 := n0_; have HB := n1_; clear n0_ n1_; (try clear hb); (try clear hb2); (try clear hk); (try clear hi); have hcz27_0 : w26.cell? ⟨gb341, 0, none⟩ = some (.int .i64 a0_0) := (blk_cell BK341.out 0).trans rfl; have hcz27_1 : w26.cell? ⟨gb341, 1, none⟩ = some (.int .i64 a0_1) := (blk_cell BK341.out 1).trans rfl; have hcz27_2 : w26.cell? ⟨gb341, 2, none⟩ = some (.string a0_2) := (blk_cell BK341.out 2).trans rfl; have hcz27_3 : w26.cell? ⟨gb341, 3, none⟩ = some (.slice A0_3 l0_3.length c0_3) := (blk_cell BK341.out 3).trans rfl; have hfz27_0 := blk_frozen BK341.out 0; have hfz27_1 := blk_frozen BK341.out 1; have hfz27_2 := blk_frozen BK341.out 2; have hfz27_3 := blk_frozen BK341.out 3) | ((with_reducible refine gate_callee (f := 10) rfl ?_); refine goesL_ (some 15) rfl rfl Tryz.func10 (by kernel_rfl) rfl #[.agg #[.int .i64 a0_0, .int .i64 a0_1, .string a0_2, .slice A0_3 l0_3.length c0_3]] rfl (by (try simp only [List.map_toArray, List.map_cons, List.map_nil]); first | done | rfl | (simp only [List.length_drop, List.length_take]; rfl)) ?_; (with_reducible refine (glacislaw05_few.calls k a0_0 a0_1 a0_2 _ _ l0_3 true _ ?side1 ?side2 A3.out).mono ?_); (case side1 => repeat (first | exact (Kd.C_below HR0_3.out HB.out) | (with_reducible refine Kd.C_alloc ?_ _) | (with_reducible refine Kd.C_drewN ?_ _) | (with_reducible refine Kd.C_drew ?_))); (case side2 => exact HC0_3.out); rintro e w28 ⟨rfl, hb⟩; refine ⟨_, rfl, ?_⟩; have n0_ := Aside0.mk (blk_below (g := gb341) (o := .cells #[.int .i64 a0_0, .int .i64 a0_1, .string a0_2, .slice A0_3 l0_3.length c0_3] 25 (0, 0)) (by (with_reducible repeat (first | refine blk_drewN ?_ _ | refine blk_drew ?_ | refine blk_alloc ?_ _)); exact BK341.out) hb); have n1_ := Aside0.mk (below_step (by repeat (first | (with_reducible first | exact HB.out | apply below_alloc | apply pw_below_drewN | apply below_drew1 | refine below_set ?_ GE341.out) | exact HB.out)) hb); clear BK341; clear HB; have BK341 := n0_; have HB := n1_; clear n0_ n1_; (try clear hb); (try clear hb2); (try clear hk); (try clear hi); have hcz29_0 : w28.cell? ⟨gb341, 0, none⟩ = some (.int .i64 a0_0) := (blk_cell BK341.out 0).trans rfl; have hcz29_1 : w28.cell? ⟨gb341, 1, none⟩ = some (.int .i64 a0_1) := (blk_cell BK341.out 1).trans rfl; have hcz29_2 : w28.cell? ⟨gb341, 2, none⟩ = some (.string a0_2) := (blk_cell BK341.out 2).trans rfl; have hcz29_3 : w28.cell? ⟨gb341, 3, none⟩ = some (.slice A0_3 l0_3.length c0_3) := (blk_cell BK341.out 3).trans rfl; have hfz29_0 := blk_frozen BK341.out 0; have hfz29_1 := blk_frozen BK341.out 1; have hfz29_2 := blk_frozen BK341.out 2; have hfz29_3 := blk_frozen BK341.out 3) | ((with_reducible refine gate_callee (f := 11) rfl ?_); refine goesL_ (some 21) rfl rfl Tryz.func11 (by kernel_rfl) rfl #[.agg #[.int .i64 a0_0, .int .i64 a0_1, .string a0_2, .slice A0_3 l0_3.length c0_3]] rfl (by (try simp only [List.map_toArray, List.map_cons, List.map_nil]); first | done | rfl | (simp only [List.length_drop, List.length_take]; rfl)) ?_; (with_reducible refine (sfitem_Text.calls a0_0 a0_1 a0_2 _ _ l0_3 t344 t345 _ (tab_ hT_ ?hTab) ?side1 ?side2 A5.out).mono ?_); (case hTab => exact (by repeat (first | (with_reducible first | exact HB.out | apply below_alloc | apply pw_below_drewN | apply below_drew1 | refine below_set ?_ GE341.out) | exact HB.out))); (case side1 => repeat (first | exact (Kd.C_below HR0_3.out HB.out) | (with_reducible refine Kd.C_alloc ?_ _) | (with_reducible refine Kd.C_drewN ?_ _) | (with_reducible refine Kd.C_drew ?_))); (case side2 => exact HC0_3.out); rintro e w30 ⟨rfl, hb⟩; refine ⟨_, rfl, ?_⟩; have n0_ := Aside0.mk (blk_below (g := gb341) (o := .cells #[.int .i64 a0_0, .int .i64 a0_1, .string a0_2, .slice A0_3 l0_3.length c0_3] 25 (0, 0)) (by (with_reducible repeat (first | refine blk_drewN ?_ _ | refine blk_drew ?_ | refine blk_alloc ?_ _)); exact BK341.out) hb); have n1_ := Aside0.mk (below_step (by repeat (first | (with_reducible first | exact HB.out | apply below_alloc | apply pw_below_drewN | apply below_drew1 | refine below_set ?_ GE341.out) | exact HB.out)) hb); clear BK341; clear HB; have BK341 := n0_; have HB := n1_; clear n0_ n1_; (try clear hb); (try clear hb2); (try clear hk); (try clear hi); have hcz31_0 : w30.cell? ⟨gb341, 0, none⟩ = some (.int .i64 a0_0) := (blk_cell BK341.out 0).trans rfl; have hcz31_1 : w30.cell? ⟨gb341, 1, none⟩ = some (.int .i64 a0_1) := (blk_cell BK341.out 1).trans rfl; have hcz31_2 : w30.cell? ⟨gb341, 2, none⟩ = some (.string a0_2) := (blk_cell BK341.out 2).trans rfl; have hcz31_3 : w30.cell? ⟨gb341, 3, none⟩ = some (.slice A0_3 l0_3.length c0_3) := (blk_cell BK341.out 3).trans rfl; have hfz31_0 := blk_frozen BK341.out 0; have hfz31_1 := blk_frozen BK341.out 1; have hfz31_2 := blk_frozen BK341.out 2; have hfz31_3 := blk_frozen BK341.out 3) | ((with_reducible refine gate_callee (f := 12) rfl ?_); refine goesL_ (some 26) rfl rfl Tryz.func12 (by kernel_rfl) rfl #[.agg #[.int .i64 a0_0, .int .i64 a0_1, .string a0_2, .slice A0_3 l0_3.length c0_3]] rfl (by (try simp only [List.map_toArray, List.map_cons, List.map_nil]); first | done | rfl | (simp only [List.length_drop, List.length_take]; rfl)) ?_; (with_reducible refine (glacisref05_Text.calls k a0_0 a0_1 a0_2 _ _ l0_3 t346 t347 _ (tab_ hT_ ?hTab) ?side1 ?side2 A6.out).mono ?_); (case hTab => exact (by repeat (first | (with_reducible first | exact HB.out | apply below_alloc | apply pw_below_drewN | apply below_drew1 | refine below_set ?_ GE341.out) | exact HB.out))); (case side1 => repeat (first | exact (Kd.C_below HR0_3.out HB.out) | (with_reducible refine Kd.C_alloc ?_ _) | (with_reducible refine Kd.C_drewN ?_ _) | (with_reducible refine Kd.C_drew ?_))); (case side2 => exact HC0_3.out); rintro e w32 ⟨rfl, hb⟩; refine ⟨_, rfl, ?_⟩; have n0_ := Aside0.mk (blk_below (g := gb341) (o := .cells #[.int .i64 a0_0, .int .i64 a0_1, .string a0_2, .slice A0_3 l0_3.length c0_3] 25 (0, 0)) (by (with_reducible repeat (first | refine blk_drewN ?_ _ | refine blk_drew ?_ | refine blk_alloc ?_ _)); exact BK341.out) hb); have n1_ := Aside0.mk (below_step (by repeat (first | (with_reducible first | exact HB.out | apply below_alloc | apply pw_below_drewN | apply below_drew1 | refine below_set ?_ GE341.out) | exact HB.out)) hb); clear BK341; clear HB; have BK341 := n0_; have HB := n1_; clear n0_ n1_; (try clear hb); (try clear hb2); (try clear hk); (try clear hi); have hcz33_0 : w32.cell? ⟨gb341, 0, none⟩ = some (.int .i64 a0_0) := (blk_cell BK341.out 0).trans rfl; have hcz33_1 : w32.cell? ⟨gb341, 1, none⟩ = some (.int .i64 a0_1) := (blk_cell BK341.out 1).trans rfl; have hcz33_2 : w32.cell? ⟨gb341, 2, none⟩ = some (.string a0_2) := (blk_cell BK341.out 2).trans rfl; have hcz33_3 : w32.cell? ⟨gb341, 3, none⟩ = some (.slice A0_3 l0_3.length c0_3) := (blk_cell BK341.out 3).trans rfl; have hfz33_0 := blk_frozen BK341.out 0; have hfz33_1 := blk_frozen BK341.out 1; have hfz33_2 := blk_frozen BK341.out 2; have hfz33_3 := blk_frozen BK341.out 3) | ((with_reducible refine gate_callee (f := 13) rfl ?_); refine goesL_ (some 32) rfl rfl Tryz.func13 (by kernel_rfl) rfl #[.slice A0_3 l0_3.length c0_3] rfl (by (try simp only [List.map_toArray, List.map_cons, List.map_nil]); first | done | rfl | (simp only [List.length_drop, List.length_take]; rfl)) ?_; (with_reducible refine (sfitem_Tail.calls _ _ l0_3 t348 t349 _ (tab_ hT_ ?hTab) ?side1 ?side2 A7.out).mono ?_); (case hTab => exact (by repeat (first | (with_reducible first | exact HB.out | apply below_alloc | apply pw_below_drewN | apply below_drew1 | refine below_set ?_ GE341.out) | exact HB.out))); (case side1 => repeat (first | exact (Kd.C_below HR0_3.out HB.out) | (with_reducible refine Kd.C_alloc ?_ _) | (with_reducible refine Kd.C_drewN ?_ _) | (with_reducible refine Kd.C_drew ?_))); (case side2 => exact HC0_3.out); rintro e w34 ⟨rfl, hb⟩; refine ⟨_, rfl, ?_⟩; have n0_ := Aside0.mk (blk_below (g := gb341) (o := .cells #[.int .i64 a0_0, .int .i64 a0_1, .string a0_2, .slice A0_3 l0_3.length c0_3] 25 (0, 0)) (by (with_reducible repeat (first | refine blk_drewN ?_ _ | refine blk_drew ?_ | refine blk_alloc ?_ _)); exact BK341.out) hb); have n1_ := Aside0.mk (below_step (by repeat (first | (with_reducible first | exact HB.out | apply below_alloc | apply pw_below_drewN | apply below_drew1 | refine below_set ?_ GE341.out) | exact HB.out)) hb); clear BK341; clear HB; have BK341 := n0_; have HB := n1_; clear n0_ n1_; (try clear hb); (try clear hb2); (try clear hk); (try clear hi); have hcz35_0 : w34.cell? ⟨gb341, 0, none⟩ = some (.int .i64 a0_0) := (blk_cell BK341.out 0).trans rfl; have hcz35_1 : w34.cell? ⟨gb341, 1, none⟩ = some (.int .i64 a0_1) := (blk_cell BK341.out 1).trans rfl; have hcz35_2 : w34.cell? ⟨gb341, 2, none⟩ = some (.string a0_2) := (blk_cell BK341.out 2).trans rfl; have hcz35_3 : w34.cell? ⟨gb341, 3, none⟩ = some (.slice A0_3 l0_3.length c0_3) := (blk_cell BK341.out 3).trans rfl; have hfz35_0 := blk_frozen BK341.out 0; have hfz35_1 := blk_frozen BK341.out 1; have hfz35_2 := blk_frozen BK341.out 2; have hfz35_3 := blk_frozen BK341.out 3) | ((with_reducible refine gate_callee (f := 14) rfl ?_); refine goesL_ (some 38) rfl rfl Tryz.func14 (by kernel_rfl) rfl #[.slice A0_3 l0_3.length c0_3] rfl (by (try simp only [List.map_toArray, List.map_cons, List.map_nil]); first | done | rfl | (simp only [List.length_drop, List.length_take]; rfl)) ?_; (with_reducible refine (glacisref05_Tail.calls k _ _ l0_3 t350 t351 _ (tab_ hT_ ?hTab) ?side1 ?side2 A8.out).mono ?_); (case hTab => exact (by repeat (first | (with_reducible first | exact HB.out | apply below_alloc | apply pw_below_drewN | apply below_drew1 | refine below_set ?_ GE341.out) | exact HB.out))); (case side1 => repeat (first | exact (Kd.C_below HR0_3.out HB.out) | (with_reducible refine Kd.C_alloc ?_ _) | (with_reducible refine Kd.C_drewN ?_ _) | (with_reducible refine Kd.C_drew ?_))); (case side2 => exact HC0_3.out); rintro e w36 ⟨rfl, hb⟩; refine ⟨_, rfl, ?_⟩; have n0_ := Aside0.mk (blk_below (g := gb341) (o := .cells #[.int .i64 a0_0, .int .i64 a0_1, .string a0_2, .slice A0_3 l0_3.length c0_3] 25 (0, 0)) (by (with_reducible repeat (first | refine blk_drewN ?_ _ | refine blk_drew ?_ | refine blk_alloc ?_ _)); exact BK341.out) hb); have n1_ := Aside0.mk (below_step (by repeat (first | (with_reducible first | exact HB.out | apply below_alloc | apply pw_below_drewN | apply below_drew1 | refine below_set ?_ GE341.out) | exact HB.out)) hb); clear BK341; clear HB; have BK341 := n0_; have HB := n1_; clear n0_ n1_; (try clear hb); (try clear hb2); (try clear hk); (try clear hi)))
            go_ret
            exact ⟨by first | rfl | (simp [errW_none, errW_some] <;> rfl) | (simp [*, errW_none, errW_some] <;> rfl) | (simp [q_ne_nil]; done), by repeat (first | (with_reducible first | exact HB.out | apply below_alloc | apply pw_below_drewN | apply below_drew1 | refine below_set ?_ GE341.out) | exact HB.out)⟩
        · rw [if_neg c11] at H
          have c11b0 : (t345 == t347) = false := beq_eq_false_iff_ne.mpr c11
          have c11b1 : (t345 != t347) = true := bne_iff_ne.mpr c11
          obtain rfl := Option.some.inj H
          go_enter Tryz.func4, Tryz.ntmps4
          go_wp2_with (first | ((with_reducible refine gate_dst (N := 1) rfl ?_); refine box_event ?hg (N := 1) ?hd (cs := #[.int .i64 a0_0, .int .i64 a0_1, .string a0_2, .slice A0_3 l0_3.length c0_3]) (t := 25) ?hr ?_; (case hd => rfl); (case hg => rfl); (case hr => first | (go_simp; done) | (go_simp; rfl)); intro gb341 hg w37 hbox hb; have n0_ := Aside0.mk (below_step (by repeat (first | (with_reducible first | exact HB.out | apply below_alloc | apply pw_below_drewN | apply below_drew1) | exact HB.out)) hb); have n1_ := Aside0.mk (hbox); have n2_ := Aside0.mk ((by rw [hg]; exact (below_size (by repeat (first | (with_reducible first | exact HB.out | apply below_alloc | apply pw_below_drewN | apply below_drew1) | exact HB.out))) : w.heap.size ≤ gb341)); have n3_ := Aside0.mk ((by rw [hg]; exact (below_size (by repeat (first | (with_reducible first | exact HB.out | apply below_alloc | apply pw_below_drewN | apply below_drew1) | exact HB.out))) : w.heap.size ≤ gb341)); clear HB; have HB := n0_; have BK341 := n1_; have GW341 := n2_; have GE341 := n3_; clear n0_ n1_ n2_ n3_; clear hb hbox hg) | ((with_reducible refine gate_callee (f := 6) rfl ?_); refine goesL_ (some 13) rfl rfl Tryz.func6 (by kernel_rfl) rfl #[] rfl (by (try simp only [List.map_toArray, List.map_cons, List.map_nil]); first | done | rfl | (simp only [List.length_drop, List.length_take]; rfl)) ?_; (with_reducible refine (glacislaw05_awake.calls  true _ (tab_ hT_ ?hTab) A2.out).mono ?_); (case hTab => exact (by repeat (first | (with_reducible first | exact HB.out | apply below_alloc | apply pw_below_drewN | apply below_drew1 | refine below_set ?_ GE341.out) | exact HB.out))); rintro e w38 ⟨rfl, hb⟩; refine ⟨_, rfl, ?_⟩; have n0_ := Aside0.mk (blk_below (g := gb341) (o := .cells #[.int .i64 a0_0, .int .i64 a0_1, .string a0_2, .slice A0_3 l0_3.length c0_3] 25 (0, 0)) (by (with_reducible repeat (first | refine blk_drewN ?_ _ | refine blk_drew ?_ | refine blk_alloc ?_ _)); exact BK341.out) hb); have n1_ := Aside0.mk (below_step (by repeat (first | (with_reducible first | exact HB.out | apply below_alloc | apply pw_below_drewN | apply below_drew1 | refine below_set ?_ GE341.out) | exact HB.out)) hb); clear BK341; clear HB; have BK341 := n0_; have HB := n1_; clear n0_ n1_; (try clear hb); (try clear hb2); (try clear hk); (try clear hi); have hcz39_0 : w38.cell? ⟨gb341, 0, none⟩ = some (.int .i64 a0_0) := (blk_cell BK341.out 0).trans rfl; have hcz39_1 : w38.cell? ⟨gb341, 1, none⟩ = some (.int .i64 a0_1) := (blk_cell BK341.out 1).trans rfl; have hcz39_2 : w38.cell? ⟨gb341, 2, none⟩ = some (.string a0_2) := (blk_cell BK341.out 2).trans rfl; have hcz39_3 : w38.cell? ⟨gb341, 3, none⟩ = some (.slice A0_3 l0_3.length c0_3) := (blk_cell BK341.out 3).trans rfl; have hfz39_0 := blk_frozen BK341.out 0; have hfz39_1 := blk_frozen BK341.out 1; have hfz39_2 := blk_frozen BK341.out 2; have hfz39_3 := blk_frozen BK341.out 3) | ((with_reducible refine gate_callee (f := 10) rfl ?_); refine goesL_ (some 15) rfl rfl Tryz.func10 (by kernel_rfl) rfl #[.agg #[.int .i64 a0_0, .int .i64 a0_1, .string a0_2, .slice A0_3 l0_3.length c0_3]] rfl (by (try simp only [List.map_toArray, List.map_cons, List.map_nil]); first | done | rfl | (simp only [List.length_drop, List.length_take]; rfl)) ?_; (with_reducible refine (glacislaw05_few.calls k a0_0 a0_1 a0_2 _ _ l0_3 true _ ?side1 ?side2 A3.out).mono ?_); (case side1 => repeat (first | exact (Kd.C_below HR0_3.out HB.out) | (with_reducible refine Kd.C_alloc ?_ _) | (with_reducible refine Kd.C_drewN ?_ _) | (with_reducible refine Kd.C_drew ?_))); (case side2 => exact HC0_3.out); rintro e w40 ⟨rfl, hb⟩; refine ⟨_, rfl, ?_⟩; have n0_ := Aside0.mk (blk_below (g := gb341) (o := .cells #[.int .i64 a0_0, .int .i64 a0_1, .string a0_2, .slice A0_3 l0_3.length c0_3] 25 (0, 0)) (by (with_reducible repeat (first | refine blk_drewN ?_ _ | refine blk_drew ?_ | refine blk_alloc ?_ _)); exact BK341.out) hb); have n1_ := Aside0.mk (below_step (by repeat (first | (with_reducible first | exact HB.out | apply below_alloc | apply pw_below_drewN | apply below_drew1 | refine below_set ?_ GE341.out) | exact HB.out)) hb); clear BK341; clear HB; have BK341 := n0_; have HB := n1_; clear n0_ n1_; (try clear hb); (try clear hb2); (try clear hk); (try clear hi); have hcz41_0 : w40.cell? ⟨gb341, 0, none⟩ = some (.int .i64 a0_0) := (blk_cell BK341.out 0).trans rfl; have hcz41_1 : w40.cell? ⟨gb341, 1, none⟩ = some (.int .i64 a0_1) := (blk_cell BK341.out 1).trans rfl; have hcz41_2 : w40.cell? ⟨gb341, 2, none⟩ = some (.string a0_2) := (blk_cell BK341.out 2).trans rfl; have hcz41_3 : w40.cell? ⟨gb341, 3, none⟩ = some (.slice A0_3 l0_3.length c0_3) := (blk_cell BK341.out 3).trans rfl; have hfz41_0 := blk_frozen BK341.out 0; have hfz41_1 := blk_frozen BK341.out 1; have hfz41_2 := blk_frozen BK341.out 2; have hfz41_3 := blk_frozen BK341.out 3) | ((with_reducible refine gate_callee (f := 11) rfl ?_); refine goesL_ (some 21) rfl rfl Tryz.func11 (by kernel_rfl) rfl #[.agg #[.int .i64 a0_0, .int .i64 a0_1, .string a0_2, .slice A0_3 l0_3.length c0_3]] rfl (by (try simp only [List.map_toArray, List.map_cons, List.map_nil]); first | done | rfl | (simp only [List.length_drop, List.length_take]; rfl)) ?_; (with_reducible refine (sfitem_Text.calls a0_0 a0_1 a0_2 _ _ l0_3 t344 t345 _ (tab_ hT_ ?hTab) ?side1 ?side2 A5.out).mono ?_); (case hTab => exact (by repeat (first | (with_reducible first | exact HB.out | apply below_alloc | apply pw_below_drewN | apply below_drew1 | refine below_set ?_ GE341.out) | exact HB.out))); (case side1 => repeat (first | exact (Kd.C_below HR0_3.out HB.out) | (with_reducible refine Kd.C_alloc ?_ _) | (with_reducible refine Kd.C_drewN ?_ _) | (with_reducible refine Kd.C_drew ?_))); (case side2 => exact HC0_3.out); rintro e w42 ⟨rfl, hb⟩; refine ⟨_, rfl, ?_⟩; have n0_ := Aside0.mk (blk_below (g := gb341) (o := .cells #[.int .i64 a0_0, .int .i64 a0_1, .string a0_2, .slice A0_3 l0_3.length c0_3] 25 (0, 0)) (by (with_reducible repeat (first | refine blk_drewN ?_ _ | refine blk_drew ?_ | refine blk_alloc ?_ _)); exact BK341.out) hb); have n1_ := Aside0.mk (below_step (by repeat (first | (with_reducible first | exact HB.out | apply below_alloc | apply pw_below_drewN | apply below_drew1 | refine below_set ?_ GE341.out) | exact HB.out)) hb); clear BK341; clear HB; have BK341 := n0_; have HB := n1_; clear n0_ n1_; (try clear hb); (try clear hb2); (try clear hk); (try clear hi); have hcz43_0 : w42.cell? ⟨gb341, 0, none⟩ = some (.int .i64 a0_0) := (blk_cell BK341.out 0).trans rfl; have hcz43_1 : w42.cell? ⟨gb341, 1, none⟩ = some (.int .i64 a0_1) := (blk_cell BK341.out 1).trans rfl; have hcz43_2 : w42.cell? ⟨gb341, 2, none⟩ = some (.string a0_2) := (blk_cell BK341.out 2).trans rfl; have hcz43_3 : w42.cell? ⟨gb341, 3, none⟩ = some (.slice A0_3 l0_3.length c0_3) := (blk_cell BK341.out 3).trans rfl; have hfz43_0 := blk_frozen BK341.out 0; have hfz43_1 := blk_frozen BK341.out 1; have hfz43_2 := blk_frozen BK341.out 2; have hfz43_3 := blk_frozen BK341.out 3) | ((with_reducible refine gate_callee (f := 12) rfl ?_); refine goesL_ (some 26) rfl rfl Tryz.func12 (by kernel_rfl) rfl #[.agg #[.int .i64 a0_0, .int .i64 a0_1, .string a0_2, .slice A0_3 l0_3.length c0_3]] rfl (by (try simp only [List.map_toArray, List.map_cons, List.map_nil]); first | done | rfl | (simp only [List.length_drop, List.length_take]; rfl)) ?_; (with_reducible refine (glacisref05_Text.calls k a0_0 a0_1 a0_2 _ _ l0_3 t346 t347 _ (tab_ hT_ ?hTab) ?side1 ?side2 A6.out).mono ?_); (case hTab => exact (by repeat (first | (with_reducible first | exact HB.out | apply below_alloc | apply pw_below_drewN | apply below_drew1 | refine below_set ?_ GE341.out) | exact HB.out))); (case side1 => repeat (first | exact (Kd.C_below HR0_3.out HB.out) | (with_reducible refine Kd.C_alloc ?_ _) | (with_reducible refine Kd.C_drewN ?_ _) | (with_reducible refine Kd.C_drew ?_))); (case side2 => exact HC0_3.out); rintro e w44 ⟨rfl, hb⟩; refine ⟨_, rfl, ?_⟩; have n0_ := Aside0.mk (blk_below (g := gb341) (o := .cells #[.int .i64 a0_0, .int .i64 a0_1, .string a0_2, .slice A0_3 l0_3.length c0_3] 25 (0, 0)) (by (with_reducible repeat (first | refine blk_drewN ?_ _ | refine blk_drew ?_ | refine blk_alloc ?_ _)); exact BK341.out) hb); have n1_ := Aside0.mk (below_step (by repeat (first | (with_reducible first | exact HB.out | apply below_alloc | apply pw_below_drewN | apply below_drew1 | refine below_set ?_ GE341.out) | exact HB.out)) hb); clear BK341; clear HB; have BK341 := n0_; have HB := n1_; clear n0_ n1_; (try clear hb); (try clear hb2); (try clear hk); (try clear hi); have hcz45_0 : w44.cell? ⟨gb341, 0, none⟩ = some (.int .i64 a0_0) := (blk_cell BK341.out 0).trans rfl; have hcz45_1 : w44.cell? ⟨gb341, 1, none⟩ = some (.int .i64 a0_1) := (blk_cell BK341.out 1).trans rfl; have hcz45_2 : w44.cell? ⟨gb341, 2, none⟩ = some (.string a0_2) := (blk_cell BK341.out 2).trans rfl; have hcz45_3 : w44.cell? ⟨gb341, 3, none⟩ = some (.slice A0_3 l0_3.length c0_3) := (blk_cell BK341.out 3).trans rfl; have hfz45_0 := blk_frozen BK341.out 0; have hfz45_1 := blk_frozen BK341.out 1; have hfz45_2 := blk_frozen BK341.out 2; have hfz45_3 := blk_frozen BK341.out 3) | ((with_reducible refine gate_callee (f := 13) rfl ?_); refine goesL_ (some 32) rfl rfl Tryz.func13 (by kernel_rfl) rfl #[.slice A0_3 l0_3.length c0_3] rfl (by (try simp only [List.map_toArray, List.map_cons, List.map_nil]); first | done | rfl | (simp only [List.length_drop, List.length_take]; rfl)) ?_; (with_reducible refine (sfitem_Tail.calls _ _ l0_3 t348 t349 _ (tab_ hT_ ?hTab) ?side1 ?side2 A7.out).mono ?_); (case hTab => exact (by repeat (first | (with_reducible first | exact HB.out | apply below_alloc | apply pw_below_drewN | apply below_drew1 | refine below_set ?_ GE341.out) | exact HB.out))); (case side1 => repeat (first | exact (Kd.C_below HR0_3.out HB.out) | (with_reducible refine Kd.C_alloc ?_ _) | (with_reducible refine Kd.C_drewN ?_ _) | (with_reducible refine Kd.C_drew ?_))); (case side2 => exact HC0_3.out); rintro e w46 ⟨rfl, hb⟩; refine ⟨_, rfl, ?_⟩; have n0_ := Aside0.mk (blk_below (g := gb341) (o := .cells #[.int .i64 a0_0, .int .i64 a0_1, .string a0_2, .slice A0_3 l0_3.length c0_3] 25 (0, 0)) (by (with_reducible repeat (first | refine blk_drewN ?_ _ | refine blk_drew ?_ | refine blk_alloc ?_ _)); exact BK341.out) hb); have n1_ := Aside0.mk (below_step (by repeat (first | (with_reducible first | exact HB.out | apply below_alloc | apply pw_below_drewN | apply below_drew1 | refine below_set ?_ GE341.out) | exact HB.out)) hb); clear BK341; clear HB; have BK341 := n0_; have HB := n1_; clear n0_ n1_; (try clear hb); (try clear hb2); (try clear hk); (try clear hi); have hcz47_0 : w46.cell? ⟨gb341, 0, none⟩ = some (.int .i64 a0_0) := (blk_cell BK341.out 0).trans rfl; have hcz47_1 : w46.cell? ⟨gb341, 1, none⟩ = some (.int .i64 a0_1) := (blk_cell BK341.out 1).trans rfl; have hcz47_2 : w46.cell? ⟨gb341, 2, none⟩ = some (.string a0_2) := (blk_cell BK341.out 2).trans rfl; have hcz47_3 : w46.cell? ⟨gb341, 3, none⟩ = some (.slice A0_3 l0_3.length c0_3) := (blk_cell BK341.out 3).trans rfl; have hfz47_0 := blk_frozen BK341.out 0; have hfz47_1 := blk_frozen BK341.out 1; have hfz47_2 := blk_frozen BK341.out 2; have hfz47_3 := blk_frozen BK341.out 3) | ((with_reducible refine gate_callee (f := 14) rfl ?_); refine goesL_ (some 38) rfl rfl Tryz.func14 (by kernel_rfl) rfl #[.slice A0_3 l0_3.length c0_3] rfl (by (try simp only [List.map_toArray, List.map_cons, List.map_nil]); first | done | rfl | (simp only [List.length_drop, List.length_take]; rfl)) ?_; (with_reducible refine (glacisref05_Tail.calls k _ _ l0_3 t350 t351 _ (tab_ hT_ ?hTab) ?side1 ?side2 A8.out).mono ?_); (case hTab => exact (by repeat (first | (with_reducible first | exact HB.out | apply below_alloc | apply pw_below_drewN | apply below_drew1 | refine below_set ?_ GE341.out) | exact HB.out))); (case side1 => repeat (first | exact (Kd.C_below HR0_3.out HB.out) | (with_reducible refine Kd.C_alloc ?_ _) | (with_reducible refine Kd.C_drewN ?_ _) | (with_reducible refine Kd.C_drew ?_))); (case side2 => exact HC0_3.out); rintro e w48 ⟨rfl, hb⟩; refine ⟨_, rfl, ?_⟩; have n0_ := Aside0.mk (blk_below (g := gb341) (o := .cells #[.int .i64 a0_0, .int .i64 a0_1, .string a0_2, .slice A0_3 l0_3.length c0_3] 25 (0, 0)) (by (with_reducible repeat (first | refine blk_drewN ?_ _ | refine blk_drew ?_ | refine blk_alloc ?_ _)); exact BK341.out) hb); have n1_ := Aside0.mk (below_step (by repeat (first | (with_reducible first | exact HB.out | apply below_alloc | apply pw_below_drewN | apply below_drew1 | refine below_set ?_ GE341.out) | exact HB.out)) hb); clear BK341; clear HB; have BK341 := n0_; have HB := n1_; clear n0_ n1_; (try clear hb); (try clear hb2); (try clear hk); (try clear hi)))
          go_ret
          exact ⟨by first | rfl | (simp [errW_none, errW_some] <;> rfl) | (simp [*, errW_none, errW_some] <;> rfl) | (simp [q_ne_nil]; done), by repeat (first | (with_reducible first | exact HB.out | apply below_alloc | apply pw_below_drewN | apply below_drew1 | refine below_set ?_ GE341.out) | exact HB.out)⟩
      · rw [if_neg c10] at H
        have c10b0 : (t344.toList == t346.toList) = false := beq_eq_false_iff_ne.mpr c10
        have c10b1 : (t344.toList != t346.toList) = true := bne_iff_ne.mpr c10
        obtain rfl := Option.some.inj H
        go_enter Tryz.func4, Tryz.ntmps4
        go_wp2_with (first | ((with_reducible refine gate_dst (N := 1) rfl ?_); refine box_event ?hg (N := 1) ?hd (cs := #[.int .i64 a0_0, .int .i64 a0_1, .string a0_2, .slice A0_3 l0_3.length c0_3]) (t := 25) ?hr ?_; (case hd => rfl); (case hg => rfl); (case hr => first | (go_simp; done) | (go_simp; rfl)); intro gb341 hg w49 hbox hb; have n0_ := Aside0.mk (below_step (by repeat (first | (with_reducible first | exact HB.out | apply below_alloc | apply pw_below_drewN | apply below_drew1) | exact HB.out)) hb); have n1_ := Aside0.mk (hbox); have n2_ := Aside0.mk ((by rw [hg]; exact (below_size (by repeat (first | (with_reducible first | exact HB.out | apply below_alloc | apply pw_below_drewN | apply below_drew1) | exact HB.out))) : w.heap.size ≤ gb341)); have n3_ := Aside0.mk ((by rw [hg]; exact (below_size (by repeat (first | (with_reducible first | exact HB.out | apply below_alloc | apply pw_below_drewN | apply below_drew1) | exact HB.out))) : w.heap.size ≤ gb341)); clear HB; have HB := n0_; have BK341 := n1_; have GW341 := n2_; have GE341 := n3_; clear n0_ n1_ n2_ n3_; clear hb hbox hg) | ((with_reducible refine gate_callee (f := 6) rfl ?_); refine goesL_ (some 13) rfl rfl Tryz.func6 (by kernel_rfl) rfl #[] rfl (by (try simp only [List.map_toArray, List.map_cons, List.map_nil]); first | done | rfl | (simp only [List.length_drop, List.length_take]; rfl)) ?_; (with_reducible refine (glacislaw05_awake.calls  true _ (tab_ hT_ ?hTab) A2.out).mono ?_); (case hTab => exact (by repeat (first | (with_reducible first | exact HB.out | apply below_alloc | apply pw_below_drewN | apply below_drew1 | refine below_set ?_ GE341.out) | exact HB.out))); rintro e w50 ⟨rfl, hb⟩; refine ⟨_, rfl, ?_⟩; have n0_ := Aside0.mk (blk_below (g := gb341) (o := .cells #[.int .i64 a0_0, .int .i64 a0_1, .string a0_2, .slice A0_3 l0_3.length c0_3] 25 (0, 0)) (by (with_reducible repeat (first | refine blk_drewN ?_ _ | refine blk_drew ?_ | refine blk_alloc ?_ _)); exact BK341.out) hb); have n1_ := Aside0.mk (below_step (by repeat (first | (with_reducible first | exact HB.out | apply below_alloc | apply pw_below_drewN | apply below_drew1 | refine below_set ?_ GE341.out) | exact HB.out)) hb); clear BK341; clear HB; have BK341 := n0_; have HB := n1_; clear n0_ n1_; (try clear hb); (try clear hb2); (try clear hk); (try clear hi); have hcz51_0 : w50.cell? ⟨gb341, 0, none⟩ = some (.int .i64 a0_0) := (blk_cell BK341.out 0).trans rfl; have hcz51_1 : w50.cell? ⟨gb341, 1, none⟩ = some (.int .i64 a0_1) := (blk_cell BK341.out 1).trans rfl; have hcz51_2 : w50.cell? ⟨gb341, 2, none⟩ = some (.string a0_2) := (blk_cell BK341.out 2).trans rfl; have hcz51_3 : w50.cell? ⟨gb341, 3, none⟩ = some (.slice A0_3 l0_3.length c0_3) := (blk_cell BK341.out 3).trans rfl; have hfz51_0 := blk_frozen BK341.out 0; have hfz51_1 := blk_frozen BK341.out 1; have hfz51_2 := blk_frozen BK341.out 2; have hfz51_3 := blk_frozen BK341.out 3) | ((with_reducible refine gate_callee (f := 10) rfl ?_); refine goesL_ (some 15) rfl rfl Tryz.func10 (by kernel_rfl) rfl #[.agg #[.int .i64 a0_0, .int .i64 a0_1, .string a0_2, .slice A0_3 l0_3.length c0_3]] rfl (by (try simp only [List.map_toArray, List.map_cons, List.map_nil]); first | done | rfl | (simp only [List.length_drop, List.length_take]; rfl)) ?_; (with_reducible refine (glacislaw05_few.calls k a0_0 a0_1 a0_2 _ _ l0_3 true _ ?side1 ?side2 A3.out).mono ?_); (case side1 => repeat (first | exact (Kd.C_below HR0_3.out HB.out) | (with_reducible refine Kd.C_alloc ?_ _) | (with_reducible refine Kd.C_drewN ?_ _) | (with_reducible refine Kd.C_drew ?_))); (case side2 => exact HC0_3.out); rintro e w52 ⟨rfl, hb⟩; refine ⟨_, rfl, ?_⟩; have n0_ := Aside0.mk (blk_below (g := gb341) (o := .cells #[.int .i64 a0_0, .int .i64 a0_1, .string a0_2, .slice A0_3 l0_3.length c0_3] 25 (0, 0)) (by (with_reducible repeat (first | refine blk_drewN ?_ _ | refine blk_drew ?_ | refine blk_alloc ?_ _)); exact BK341.out) hb); have n1_ := Aside0.mk (below_step (by repeat (first | (with_reducible first | exact HB.out | apply below_alloc | apply pw_below_drewN | apply below_drew1 | refine below_set ?_ GE341.out) | exact HB.out)) hb); clear BK341; clear HB; have BK341 := n0_; have HB := n1_; clear n0_ n1_; (try clear hb); (try clear hb2); (try clear hk); (try clear hi); have hcz53_0 : w52.cell? ⟨gb341, 0, none⟩ = some (.int .i64 a0_0) := (blk_cell BK341.out 0).trans rfl; have hcz53_1 : w52.cell? ⟨gb341, 1, none⟩ = some (.int .i64 a0_1) := (blk_cell BK341.out 1).trans rfl; have hcz53_2 : w52.cell? ⟨gb341, 2, none⟩ = some (.string a0_2) := (blk_cell BK341.out 2).trans rfl; have hcz53_3 : w52.cell? ⟨gb341, 3, none⟩ = some (.slice A0_3 l0_3.length c0_3) := (blk_cell BK341.out 3).trans rfl; have hfz53_0 := blk_frozen BK341.out 0; have hfz53_1 := blk_frozen BK341.out 1; have hfz53_2 := blk_frozen BK341.out 2; have hfz53_3 := blk_frozen BK341.out 3) | ((with_reducible refine gate_callee (f := 11) rfl ?_); refine goesL_ (some 21) rfl rfl Tryz.func11 (by kernel_rfl) rfl #[.agg #[.int .i64 a0_0, .int .i64 a0_1, .string a0_2, .slice A0_3 l0_3.length c0_3]] rfl (by (try simp only [List.map_toArray, List.map_cons, List.map_nil]); first | done | rfl | (simp only [List.length_drop, List.length_take]; rfl)) ?_; (with_reducible refine (sfitem_Text.calls a0_0 a0_1 a0_2 _ _ l0_3 t344 t345 _ (tab_ hT_ ?hTab) ?side1 ?side2 A5.out).mono ?_); (case hTab => exact (by repeat (first | (with_reducible first | exact HB.out | apply below_alloc | apply pw_below_drewN | apply below_drew1 | refine below_set ?_ GE341.out) | exact HB.out))); (case side1 => repeat (first | exact (Kd.C_below HR0_3.out HB.out) | (with_reducible refine Kd.C_alloc ?_ _) | (with_reducible refine Kd.C_drewN ?_ _) | (with_reducible refine Kd.C_drew ?_))); (case side2 => exact HC0_3.out); rintro e w54 ⟨rfl, hb⟩; refine ⟨_, rfl, ?_⟩; have n0_ := Aside0.mk (blk_below (g := gb341) (o := .cells #[.int .i64 a0_0, .int .i64 a0_1, .string a0_2, .slice A0_3 l0_3.length c0_3] 25 (0, 0)) (by (with_reducible repeat (first | refine blk_drewN ?_ _ | refine blk_drew ?_ | refine blk_alloc ?_ _)); exact BK341.out) hb); have n1_ := Aside0.mk (below_step (by repeat (first | (with_reducible first | exact HB.out | apply below_alloc | apply pw_below_drewN | apply below_drew1 | refine below_set ?_ GE341.out) | exact HB.out)) hb); clear BK341; clear HB; have BK341 := n0_; have HB := n1_; clear n0_ n1_; (try clear hb); (try clear hb2); (try clear hk); (try clear hi); have hcz55_0 : w54.cell? ⟨gb341, 0, none⟩ = some (.int .i64 a0_0) := (blk_cell BK341.out 0).trans rfl; have hcz55_1 : w54.cell? ⟨gb341, 1, none⟩ = some (.int .i64 a0_1) := (blk_cell BK341.out 1).trans rfl; have hcz55_2 : w54.cell? ⟨gb341, 2, none⟩ = some (.string a0_2) := (blk_cell BK341.out 2).trans rfl; have hcz55_3 : w54.cell? ⟨gb341, 3, none⟩ = some (.slice A0_3 l0_3.length c0_3) := (blk_cell BK341.out 3).trans rfl; have hfz55_0 := blk_frozen BK341.out 0; have hfz55_1 := blk_frozen BK341.out 1; have hfz55_2 := blk_frozen BK341.out 2; have hfz55_3 := blk_frozen BK341.out 3) | ((with_reducible refine gate_callee (f := 12) rfl ?_); refine goesL_ (some 26) rfl rfl Tryz.func12 (by kernel_rfl) rfl #[.agg #[.int .i64 a0_0, .int .i64 a0_1, .string a0_2, .slice A0_3 l0_3.length c0_3]] rfl (by (try simp only [List.map_toArray, List.map_cons, List.map_nil]); first | done | rfl | (simp only [List.length_drop, List.length_take]; rfl)) ?_; (with_reducible refine (glacisref05_Text.calls k a0_0 a0_1 a0_2 _ _ l0_3 t346 t347 _ (tab_ hT_ ?hTab) ?side1 ?side2 A6.out).mono ?_); (case hTab => exact (by repeat (first | (with_reducible first | exact HB.out | apply below_alloc | apply pw_below_drewN | apply below_drew1 | refine below_set ?_ GE341.out) | exact HB.out))); (case side1 => repeat (first | exact (Kd.C_below HR0_3.out HB.out) | (with_reducible refine Kd.C_alloc ?_ _) | (with_reducible refine Kd.C_drewN ?_ _) | (with_reducible refine Kd.C_drew ?_))); (case side2 => exact HC0_3.out); rintro e w56 ⟨rfl, hb⟩; refine ⟨_, rfl, ?_⟩; have n0_ := Aside0.mk (blk_below (g := gb341) (o := .cells #[.int .i64 a0_0, .int .i64 a0_1, .string a0_2, .slice A0_3 l0_3.length c0_3] 25 (0, 0)) (by (with_reducible repeat (first | refine blk_drewN ?_ _ | refine blk_drew ?_ | refine blk_alloc ?_ _)); exact BK341.out) hb); have n1_ := Aside0.mk (below_step (by repeat (first | (with_reducible first | exact HB.out | apply below_alloc | apply pw_below_drewN | apply below_drew1 | refine below_set ?_ GE341.out) | exact HB.out)) hb); clear BK341; clear HB; have BK341 := n0_; have HB := n1_; clear n0_ n1_; (try clear hb); (try clear hb2); (try clear hk); (try clear hi); have hcz57_0 : w56.cell? ⟨gb341, 0, none⟩ = some (.int .i64 a0_0) := (blk_cell BK341.out 0).trans rfl; have hcz57_1 : w56.cell? ⟨gb341, 1, none⟩ = some (.int .i64 a0_1) := (blk_cell BK341.out 1).trans rfl; have hcz57_2 : w56.cell? ⟨gb341, 2, none⟩ = some (.string a0_2) := (blk_cell BK341.out 2).trans rfl; have hcz57_3 : w56.cell? ⟨gb341, 3, none⟩ = some (.slice A0_3 l0_3.length c0_3) := (blk_cell BK341.out 3).trans rfl; have hfz57_0 := blk_frozen BK341.out 0; have hfz57_1 := blk_frozen BK341.out 1; have hfz57_2 := blk_frozen BK341.out 2; have hfz57_3 := blk_frozen BK341.out 3) | ((with_reducible refine gate_callee (f := 13) rfl ?_); refine goesL_ (some 32) rfl rfl Tryz.func13 (by kernel_rfl) rfl #[.slice A0_3 l0_3.length c0_3] rfl (by (try simp only [List.map_toArray, List.map_cons, List.map_nil]); first | done | rfl | (simp only [List.length_drop, List.length_take]; rfl)) ?_; (with_reducible refine (sfitem_Tail.calls _ _ l0_3 t348 t349 _ (tab_ hT_ ?hTab) ?side1 ?side2 A7.out).mono ?_); (case hTab => exact (by repeat (first | (with_reducible first | exact HB.out | apply below_alloc | apply pw_below_drewN | apply below_drew1 | refine below_set ?_ GE341.out) | exact HB.out))); (case side1 => repeat (first | exact (Kd.C_below HR0_3.out HB.out) | (with_reducible refine Kd.C_alloc ?_ _) | (with_reducible refine Kd.C_drewN ?_ _) | (with_reducible refine Kd.C_drew ?_))); (case side2 => exact HC0_3.out); rintro e w58 ⟨rfl, hb⟩; refine ⟨_, rfl, ?_⟩; have n0_ := Aside0.mk (blk_below (g := gb341) (o := .cells #[.int .i64 a0_0, .int .i64 a0_1, .string a0_2, .slice A0_3 l0_3.length c0_3] 25 (0, 0)) (by (with_reducible repeat (first | refine blk_drewN ?_ _ | refine blk_drew ?_ | refine blk_alloc ?_ _)); exact BK341.out) hb); have n1_ := Aside0.mk (below_step (by repeat (first | (with_reducible first | exact HB.out | apply below_alloc | apply pw_below_drewN | apply below_drew1 | refine below_set ?_ GE341.out) | exact HB.out)) hb); clear BK341; clear HB; have BK341 := n0_; have HB := n1_; clear n0_ n1_; (try clear hb); (try clear hb2); (try clear hk); (try clear hi); have hcz59_0 : w58.cell? ⟨gb341, 0, none⟩ = some (.int .i64 a0_0) := (blk_cell BK341.out 0).trans rfl; have hcz59_1 : w58.cell? ⟨gb341, 1, none⟩ = some (.int .i64 a0_1) := (blk_cell BK341.out 1).trans rfl; have hcz59_2 : w58.cell? ⟨gb341, 2, none⟩ = some (.string a0_2) := (blk_cell BK341.out 2).trans rfl; have hcz59_3 : w58.cell? ⟨gb341, 3, none⟩ = some (.slice A0_3 l0_3.length c0_3) := (blk_cell BK341.out 3).trans rfl; have hfz59_0 := blk_frozen BK341.out 0; have hfz59_1 := blk_frozen BK341.out 1; have hfz59_2 := blk_frozen BK341.out 2; have hfz59_3 := blk_frozen BK341.out 3) | ((with_reducible refine gate_callee (f := 14) rfl ?_); refine goesL_ (some 38) rfl rfl Tryz.func14 (by kernel_rfl) rfl #[.slice A0_3 l0_3.length c0_3] rfl (by (try simp only [List.map_toArray, List.map_cons, List.map_nil]); first | done | rfl | (simp only [List.length_drop, List.length_take]; rfl)) ?_; (with_reducible refine (glacisref05_Tail.calls k _ _ l0_3 t350 t351 _ (tab_ hT_ ?hTab) ?side1 ?side2 A8.out).mono ?_); (case hTab => exact (by repeat (first | (with_reducible first | exact HB.out | apply below_alloc | apply pw_below_drewN | apply below_drew1 | refine below_set ?_ GE341.out) | exact HB.out))); (case side1 => repeat (first | exact (Kd.C_below HR0_3.out HB.out) | (with_reducible refine Kd.C_alloc ?_ _) | (with_reducible refine Kd.C_drewN ?_ _) | (with_reducible refine Kd.C_drew ?_))); (case side2 => exact HC0_3.out); rintro e w60 ⟨rfl, hb⟩; refine ⟨_, rfl, ?_⟩; have n0_ := Aside0.mk (blk_below (g := gb341) (o := .cells #[.int .i64 a0_0, .int .i64 a0_1, .string a0_2, .slice A0_3 l0_3.length c0_3] 25 (0, 0)) (by (with_reducible repeat (first | refine blk_drewN ?_ _ | refine blk_drew ?_ | refine blk_alloc ?_ _)); exact BK341.out) hb); have n1_ := Aside0.mk (below_step (by repeat (first | (with_reducible first | exact HB.out | apply below_alloc | apply pw_below_drewN | apply below_drew1 | refine below_set ?_ GE341.out) | exact HB.out)) hb); clear BK341; clear HB; have BK341 := n0_; have HB := n1_; clear n0_ n1_; (try clear hb); (try clear hb2); (try clear hk); (try clear hi)))
        go_ret
        exact ⟨by first | rfl | (simp [errW_none, errW_some] <;> rfl) | (simp [*, errW_none, errW_some] <;> rfl) | (simp [q_ne_nil]; done), by repeat (first | (with_reducible first | exact HB.out | apply below_alloc | apply pw_below_drewN | apply below_drew1 | refine below_set ?_ GE341.out) | exact HB.out)⟩
    · replace c9 := Bool.eq_false_iff.mpr c9
      subst c9
      have H1 : (some false) = some r := by rw [if_neg (show ¬ (false = true) by decide)] at H; exact H
      clear H
      have H := H1
      clear H1
      obtain rfl := Option.some.inj H
      go_enter Tryz.func4, Tryz.ntmps4
      go_wp2_with (first | ((with_reducible refine gate_dst (N := 1) rfl ?_); refine box_event ?hg (N := 1) ?hd (cs := #[.int .i64 a0_0, .int .i64 a0_1, .string a0_2, .slice A0_3 l0_3.length c0_3]) (t := 25) ?hr ?_; (case hd => rfl); (case hg => rfl); (case hr => first | (go_simp; done) | (go_simp; rfl)); intro gb341 hg w61 hbox hb; have n0_ := Aside0.mk (below_step (by repeat (first | (with_reducible first | exact HB.out | apply below_alloc | apply pw_below_drewN | apply below_drew1) | exact HB.out)) hb); have n1_ := Aside0.mk (hbox); have n2_ := Aside0.mk ((by rw [hg]; exact (below_size (by repeat (first | (with_reducible first | exact HB.out | apply below_alloc | apply pw_below_drewN | apply below_drew1) | exact HB.out))) : w.heap.size ≤ gb341)); have n3_ := Aside0.mk ((by rw [hg]; exact (below_size (by repeat (first | (with_reducible first | exact HB.out | apply below_alloc | apply pw_below_drewN | apply below_drew1) | exact HB.out))) : w.heap.size ≤ gb341)); clear HB; have HB := n0_; have BK341 := n1_; have GW341 := n2_; have GE341 := n3_; clear n0_ n1_ n2_ n3_; clear hb hbox hg) | ((with_reducible refine gate_callee (f := 6) rfl ?_); refine goesL_ (some 13) rfl rfl Tryz.func6 (by kernel_rfl) rfl #[] rfl (by (try simp only [List.map_toArray, List.map_cons, List.map_nil]); first | done | rfl | (simp only [List.length_drop, List.length_take]; rfl)) ?_; (with_reducible refine (glacislaw05_awake.calls  false _ (tab_ hT_ ?hTab) A2.out).mono ?_); (case hTab => exact (by repeat (first | (with_reducible first | exact HB.out | apply below_alloc | apply pw_below_drewN | apply below_drew1 | refine below_set ?_ GE341.out) | exact HB.out))); rintro e w62 ⟨rfl, hb⟩; refine ⟨_, rfl, ?_⟩; have n0_ := Aside0.mk (blk_below (g := gb341) (o := .cells #[.int .i64 a0_0, .int .i64 a0_1, .string a0_2, .slice A0_3 l0_3.length c0_3] 25 (0, 0)) (by (with_reducible repeat (first | refine blk_drewN ?_ _ | refine blk_drew ?_ | refine blk_alloc ?_ _)); exact BK341.out) hb); have n1_ := Aside0.mk (below_step (by repeat (first | (with_reducible first | exact HB.out | apply below_alloc | apply pw_below_drewN | apply below_drew1 | refine below_set ?_ GE341.out) | exact HB.out)) hb); clear BK341; clear HB; have BK341 := n0_; have HB := n1_; clear n0_ n1_; (try clear hb); (try clear hb2); (try clear hk); (try clear hi); have hcz63_0 : w62.cell? ⟨gb341, 0, none⟩ = some (.int .i64 a0_0) := (blk_cell BK341.out 0).trans rfl; have hcz63_1 : w62.cell? ⟨gb341, 1, none⟩ = some (.int .i64 a0_1) := (blk_cell BK341.out 1).trans rfl; have hcz63_2 : w62.cell? ⟨gb341, 2, none⟩ = some (.string a0_2) := (blk_cell BK341.out 2).trans rfl; have hcz63_3 : w62.cell? ⟨gb341, 3, none⟩ = some (.slice A0_3 l0_3.length c0_3) := (blk_cell BK341.out 3).trans rfl; have hfz63_0 := blk_frozen BK341.out 0; have hfz63_1 := blk_frozen BK341.out 1; have hfz63_2 := blk_frozen BK341.out 2; have hfz63_3 := blk_frozen BK341.out 3) | ((with_reducible refine gate_callee (f := 10) rfl ?_); refine goesL_ (some 15) rfl rfl Tryz.func10 (by kernel_rfl) rfl #[.agg #[.int .i64 a0_0, .int .i64 a0_1, .string a0_2, .slice A0_3 l0_3.length c0_3]] rfl (by (try simp only [List.map_toArray, List.map_cons, List.map_nil]); first | done | rfl | (simp only [List.length_drop, List.length_take]; rfl)) ?_; (with_reducible refine (glacislaw05_few.calls k a0_0 a0_1 a0_2 _ _ l0_3 true _ ?side1 ?side2 A3.out).mono ?_); (case side1 => repeat (first | exact (Kd.C_below HR0_3.out HB.out) | (with_reducible refine Kd.C_alloc ?_ _) | (with_reducible refine Kd.C_drewN ?_ _) | (with_reducible refine Kd.C_drew ?_))); (case side2 => exact HC0_3.out); rintro e w64 ⟨rfl, hb⟩; refine ⟨_, rfl, ?_⟩; have n0_ := Aside0.mk (blk_below (g := gb341) (o := .cells #[.int .i64 a0_0, .int .i64 a0_1, .string a0_2, .slice A0_3 l0_3.length c0_3] 25 (0, 0)) (by (with_reducible repeat (first | refine blk_drewN ?_ _ | refine blk_drew ?_ | refine blk_alloc ?_ _)); exact BK341.out) hb); have n1_ := Aside0.mk (below_step (by repeat (first | (with_reducible first | exact HB.out | apply below_alloc | apply pw_below_drewN | apply below_drew1 | refine below_set ?_ GE341.out) | exact HB.out)) hb); clear BK341; clear HB; have BK341 := n0_; have HB := n1_; clear n0_ n1_; (try clear hb); (try clear hb2); (try clear hk); (try clear hi); have hcz65_0 : w64.cell? ⟨gb341, 0, none⟩ = some (.int .i64 a0_0) := (blk_cell BK341.out 0).trans rfl; have hcz65_1 : w64.cell? ⟨gb341, 1, none⟩ = some (.int .i64 a0_1) := (blk_cell BK341.out 1).trans rfl; have hcz65_2 : w64.cell? ⟨gb341, 2, none⟩ = some (.string a0_2) := (blk_cell BK341.out 2).trans rfl; have hcz65_3 : w64.cell? ⟨gb341, 3, none⟩ = some (.slice A0_3 l0_3.length c0_3) := (blk_cell BK341.out 3).trans rfl; have hfz65_0 := blk_frozen BK341.out 0; have hfz65_1 := blk_frozen BK341.out 1; have hfz65_2 := blk_frozen BK341.out 2; have hfz65_3 := blk_frozen BK341.out 3) | ((with_reducible refine gate_callee (f := 11) rfl ?_); refine goesL_ (some 21) rfl rfl Tryz.func11 (by kernel_rfl) rfl #[.agg #[.int .i64 a0_0, .int .i64 a0_1, .string a0_2, .slice A0_3 l0_3.length c0_3]] rfl (by (try simp only [List.map_toArray, List.map_cons, List.map_nil]); first | done | rfl | (simp only [List.length_drop, List.length_take]; rfl)) ?_; (with_reducible refine (sfitem_Text.calls a0_0 a0_1 a0_2 _ _ l0_3 t344 t345 _ (tab_ hT_ ?hTab) ?side1 ?side2 A5.out).mono ?_); (case hTab => exact (by repeat (first | (with_reducible first | exact HB.out | apply below_alloc | apply pw_below_drewN | apply below_drew1 | refine below_set ?_ GE341.out) | exact HB.out))); (case side1 => repeat (first | exact (Kd.C_below HR0_3.out HB.out) | (with_reducible refine Kd.C_alloc ?_ _) | (with_reducible refine Kd.C_drewN ?_ _) | (with_reducible refine Kd.C_drew ?_))); (case side2 => exact HC0_3.out); rintro e w66 ⟨rfl, hb⟩; refine ⟨_, rfl, ?_⟩; have n0_ := Aside0.mk (blk_below (g := gb341) (o := .cells #[.int .i64 a0_0, .int .i64 a0_1, .string a0_2, .slice A0_3 l0_3.length c0_3] 25 (0, 0)) (by (with_reducible repeat (first | refine blk_drewN ?_ _ | refine blk_drew ?_ | refine blk_alloc ?_ _)); exact BK341.out) hb); have n1_ := Aside0.mk (below_step (by repeat (first | (with_reducible first | exact HB.out | apply below_alloc | apply pw_below_drewN | apply below_drew1 | refine below_set ?_ GE341.out) | exact HB.out)) hb); clear BK341; clear HB; have BK341 := n0_; have HB := n1_; clear n0_ n1_; (try clear hb); (try clear hb2); (try clear hk); (try clear hi); have hcz67_0 : w66.cell? ⟨gb341, 0, none⟩ = some (.int .i64 a0_0) := (blk_cell BK341.out 0).trans rfl; have hcz67_1 : w66.cell? ⟨gb341, 1, none⟩ = some (.int .i64 a0_1) := (blk_cell BK341.out 1).trans rfl; have hcz67_2 : w66.cell? ⟨gb341, 2, none⟩ = some (.string a0_2) := (blk_cell BK341.out 2).trans rfl; have hcz67_3 : w66.cell? ⟨gb341, 3, none⟩ = some (.slice A0_3 l0_3.length c0_3) := (blk_cell BK341.out 3).trans rfl; have hfz67_0 := blk_frozen BK341.out 0; have hfz67_1 := blk_frozen BK341.out 1; have hfz67_2 := blk_frozen BK341.out 2; have hfz67_3 := blk_frozen BK341.out 3) | ((with_reducible refine gate_callee (f := 12) rfl ?_); refine goesL_ (some 26) rfl rfl Tryz.func12 (by kernel_rfl) rfl #[.agg #[.int .i64 a0_0, .int .i64 a0_1, .string a0_2, .slice A0_3 l0_3.length c0_3]] rfl (by (try simp only [List.map_toArray, List.map_cons, List.map_nil]); first | done | rfl | (simp only [List.length_drop, List.length_take]; rfl)) ?_; (with_reducible refine (glacisref05_Text.calls k a0_0 a0_1 a0_2 _ _ l0_3 t346 t347 _ (tab_ hT_ ?hTab) ?side1 ?side2 A6.out).mono ?_); (case hTab => exact (by repeat (first | (with_reducible first | exact HB.out | apply below_alloc | apply pw_below_drewN | apply below_drew1 | refine below_set ?_ GE341.out) | exact HB.out))); (case side1 => repeat (first | exact (Kd.C_below HR0_3.out HB.out) | (with_reducible refine Kd.C_alloc ?_ _) | (with_reducible refine Kd.C_drewN ?_ _) | (with_reducible refine Kd.C_drew ?_))); (case side2 => exact HC0_3.out); rintro e w68 ⟨rfl, hb⟩; refine ⟨_, rfl, ?_⟩; have n0_ := Aside0.mk (blk_below (g := gb341) (o := .cells #[.int .i64 a0_0, .int .i64 a0_1, .string a0_2, .slice A0_3 l0_3.length c0_3] 25 (0, 0)) (by (with_reducible repeat (first | refine blk_drewN ?_ _ | refine blk_drew ?_ | refine blk_alloc ?_ _)); exact BK341.out) hb); have n1_ := Aside0.mk (below_step (by repeat (first | (with_reducible first | exact HB.out | apply below_alloc | apply pw_below_drewN | apply below_drew1 | refine below_set ?_ GE341.out) | exact HB.out)) hb); clear BK341; clear HB; have BK341 := n0_; have HB := n1_; clear n0_ n1_; (try clear hb); (try clear hb2); (try clear hk); (try clear hi); have hcz69_0 : w68.cell? ⟨gb341, 0, none⟩ = some (.int .i64 a0_0) := (blk_cell BK341.out 0).trans rfl; have hcz69_1 : w68.cell? ⟨gb341, 1, none⟩ = some (.int .i64 a0_1) := (blk_cell BK341.out 1).trans rfl; have hcz69_2 : w68.cell? ⟨gb341, 2, none⟩ = some (.string a0_2) := (blk_cell BK341.out 2).trans rfl; have hcz69_3 : w68.cell? ⟨gb341, 3, none⟩ = some (.slice A0_3 l0_3.length c0_3) := (blk_cell BK341.out 3).trans rfl; have hfz69_0 := blk_frozen BK341.out 0; have hfz69_1 := blk_frozen BK341.out 1; have hfz69_2 := blk_frozen BK341.out 2; have hfz69_3 := blk_frozen BK341.out 3) | ((with_reducible refine gate_callee (f := 13) rfl ?_); refine goesL_ (some 32) rfl rfl Tryz.func13 (by kernel_rfl) rfl #[.slice A0_3 l0_3.length c0_3] rfl (by (try simp only [List.map_toArray, List.map_cons, List.map_nil]); first | done | rfl | (simp only [List.length_drop, List.length_take]; rfl)) ?_; (with_reducible refine (sfitem_Tail.calls _ _ l0_3 t348 t349 _ (tab_ hT_ ?hTab) ?side1 ?side2 A7.out).mono ?_); (case hTab => exact (by repeat (first | (with_reducible first | exact HB.out | apply below_alloc | apply pw_below_drewN | apply below_drew1 | refine below_set ?_ GE341.out) | exact HB.out))); (case side1 => repeat (first | exact (Kd.C_below HR0_3.out HB.out) | (with_reducible refine Kd.C_alloc ?_ _) | (with_reducible refine Kd.C_drewN ?_ _) | (with_reducible refine Kd.C_drew ?_))); (case side2 => exact HC0_3.out); rintro e w70 ⟨rfl, hb⟩; refine ⟨_, rfl, ?_⟩; have n0_ := Aside0.mk (blk_below (g := gb341) (o := .cells #[.int .i64 a0_0, .int .i64 a0_1, .string a0_2, .slice A0_3 l0_3.length c0_3] 25 (0, 0)) (by (with_reducible repeat (first | refine blk_drewN ?_ _ | refine blk_drew ?_ | refine blk_alloc ?_ _)); exact BK341.out) hb); have n1_ := Aside0.mk (below_step (by repeat (first | (with_reducible first | exact HB.out | apply below_alloc | apply pw_below_drewN | apply below_drew1 | refine below_set ?_ GE341.out) | exact HB.out)) hb); clear BK341; clear HB; have BK341 := n0_; have HB := n1_; clear n0_ n1_; (try clear hb); (try clear hb2); (try clear hk); (try clear hi); have hcz71_0 : w70.cell? ⟨gb341, 0, none⟩ = some (.int .i64 a0_0) := (blk_cell BK341.out 0).trans rfl; have hcz71_1 : w70.cell? ⟨gb341, 1, none⟩ = some (.int .i64 a0_1) := (blk_cell BK341.out 1).trans rfl; have hcz71_2 : w70.cell? ⟨gb341, 2, none⟩ = some (.string a0_2) := (blk_cell BK341.out 2).trans rfl; have hcz71_3 : w70.cell? ⟨gb341, 3, none⟩ = some (.slice A0_3 l0_3.length c0_3) := (blk_cell BK341.out 3).trans rfl; have hfz71_0 := blk_frozen BK341.out 0; have hfz71_1 := blk_frozen BK341.out 1; have hfz71_2 := blk_frozen BK341.out 2; have hfz71_3 := blk_frozen BK341.out 3) | ((with_reducible refine gate_callee (f := 14) rfl ?_); refine goesL_ (some 38) rfl rfl Tryz.func14 (by kernel_rfl) rfl #[.slice A0_3 l0_3.length c0_3] rfl (by (try simp only [List.map_toArray, List.map_cons, List.map_nil]); first | done | rfl | (simp only [List.length_drop, List.length_take]; rfl)) ?_; (with_reducible refine (glacisref05_Tail.calls k _ _ l0_3 t350 t351 _ (tab_ hT_ ?hTab) ?side1 ?side2 A8.out).mono ?_); (case hTab => exact (by repeat (first | (with_reducible first | exact HB.out | apply below_alloc | apply pw_below_drewN | apply below_drew1 | refine below_set ?_ GE341.out) | exact HB.out))); (case side1 => repeat (first | exact (Kd.C_below HR0_3.out HB.out) | (with_reducible refine Kd.C_alloc ?_ _) | (with_reducible refine Kd.C_drewN ?_ _) | (with_reducible refine Kd.C_drew ?_))); (case side2 => exact HC0_3.out); rintro e w72 ⟨rfl, hb⟩; refine ⟨_, rfl, ?_⟩; have n0_ := Aside0.mk (blk_below (g := gb341) (o := .cells #[.int .i64 a0_0, .int .i64 a0_1, .string a0_2, .slice A0_3 l0_3.length c0_3] 25 (0, 0)) (by (with_reducible repeat (first | refine blk_drewN ?_ _ | refine blk_drew ?_ | refine blk_alloc ?_ _)); exact BK341.out) hb); have n1_ := Aside0.mk (below_step (by repeat (first | (with_reducible first | exact HB.out | apply below_alloc | apply pw_below_drewN | apply below_drew1 | refine below_set ?_ GE341.out) | exact HB.out)) hb); clear BK341; clear HB; have BK341 := n0_; have HB := n1_; clear n0_ n1_; (try clear hb); (try clear hb2); (try clear hk); (try clear hi)))
      go_ret
      exact ⟨by first | rfl | (simp [errW_none, errW_some] <;> rfl) | (simp [*, errW_none, errW_some] <;> rfl) | (simp [q_ne_nil]; done), by repeat (first | (with_reducible first | exact HB.out | apply below_alloc | apply pw_below_drewN | apply below_drew1 | refine below_set ?_ GE341.out) | exact HB.out)⟩
  · replace c4 := Bool.eq_false_iff.mpr c4
    subst c4
    have H1 : (some t342) = some r := by rw [if_neg (show ¬ (false = true) by decide)] at H; exact H
    clear H
    have H := H1
    clear H1
    obtain rfl := Option.some.inj H
    go_enter Tryz.func4, Tryz.ntmps4
    go_wp2_with (first | ((with_reducible refine gate_dst (N := 1) rfl ?_); refine box_event ?hg (N := 1) ?hd (cs := #[.int .i64 a0_0, .int .i64 a0_1, .string a0_2, .slice A0_3 l0_3.length c0_3]) (t := 25) ?hr ?_; (case hd => rfl); (case hg => rfl); (case hr => first | (go_simp; done) | (go_simp; rfl)); intro gb341 hg w73 hbox hb; have n0_ := Aside0.mk (below_step (by repeat (first | (with_reducible first | exact HB.out | apply below_alloc | apply pw_below_drewN | apply below_drew1) | exact HB.out)) hb); have n1_ := Aside0.mk (hbox); have n2_ := Aside0.mk ((by rw [hg]; exact (below_size (by repeat (first | (with_reducible first | exact HB.out | apply below_alloc | apply pw_below_drewN | apply below_drew1) | exact HB.out))) : w.heap.size ≤ gb341)); have n3_ := Aside0.mk ((by rw [hg]; exact (below_size (by repeat (first | (with_reducible first | exact HB.out | apply below_alloc | apply pw_below_drewN | apply below_drew1) | exact HB.out))) : w.heap.size ≤ gb341)); clear HB; have HB := n0_; have BK341 := n1_; have GW341 := n2_; have GE341 := n3_; clear n0_ n1_ n2_ n3_; clear hb hbox hg) | ((with_reducible refine gate_callee (f := 6) rfl ?_); refine goesL_ (some 13) rfl rfl Tryz.func6 (by kernel_rfl) rfl #[] rfl (by (try simp only [List.map_toArray, List.map_cons, List.map_nil]); first | done | rfl | (simp only [List.length_drop, List.length_take]; rfl)) ?_; (with_reducible refine (glacislaw05_awake.calls  t342 _ (tab_ hT_ ?hTab) A2.out).mono ?_); (case hTab => exact (by repeat (first | (with_reducible first | exact HB.out | apply below_alloc | apply pw_below_drewN | apply below_drew1 | refine below_set ?_ GE341.out) | exact HB.out))); rintro e w74 ⟨rfl, hb⟩; refine ⟨_, rfl, ?_⟩; have n0_ := Aside0.mk (blk_below (g := gb341) (o := .cells #[.int .i64 a0_0, .int .i64 a0_1, .string a0_2, .slice A0_3 l0_3.length c0_3] 25 (0, 0)) (by (with_reducible repeat (first | refine blk_drewN ?_ _ | refine blk_drew ?_ | refine blk_alloc ?_ _)); exact BK341.out) hb); have n1_ := Aside0.mk (below_step (by repeat (first | (with_reducible first | exact HB.out | apply below_alloc | apply pw_below_drewN | apply below_drew1 | refine below_set ?_ GE341.out) | exact HB.out)) hb); clear BK341; clear HB; have BK341 := n0_; have HB := n1_; clear n0_ n1_; (try clear hb); (try clear hb2); (try clear hk); (try clear hi); have hcz75_0 : w74.cell? ⟨gb341, 0, none⟩ = some (.int .i64 a0_0) := (blk_cell BK341.out 0).trans rfl; have hcz75_1 : w74.cell? ⟨gb341, 1, none⟩ = some (.int .i64 a0_1) := (blk_cell BK341.out 1).trans rfl; have hcz75_2 : w74.cell? ⟨gb341, 2, none⟩ = some (.string a0_2) := (blk_cell BK341.out 2).trans rfl; have hcz75_3 : w74.cell? ⟨gb341, 3, none⟩ = some (.slice A0_3 l0_3.length c0_3) := (blk_cell BK341.out 3).trans rfl; have hfz75_0 := blk_frozen BK341.out 0; have hfz75_1 := blk_frozen BK341.out 1; have hfz75_2 := blk_frozen BK341.out 2; have hfz75_3 := blk_frozen BK341.out 3) | ((with_reducible refine gate_callee (f := 10) rfl ?_); refine goesL_ (some 15) rfl rfl Tryz.func10 (by kernel_rfl) rfl #[.agg #[.int .i64 a0_0, .int .i64 a0_1, .string a0_2, .slice A0_3 l0_3.length c0_3]] rfl (by (try simp only [List.map_toArray, List.map_cons, List.map_nil]); first | done | rfl | (simp only [List.length_drop, List.length_take]; rfl)) ?_; (with_reducible refine (glacislaw05_few.calls k a0_0 a0_1 a0_2 _ _ l0_3 false _ ?side1 ?side2 A3.out).mono ?_); (case side1 => repeat (first | exact (Kd.C_below HR0_3.out HB.out) | (with_reducible refine Kd.C_alloc ?_ _) | (with_reducible refine Kd.C_drewN ?_ _) | (with_reducible refine Kd.C_drew ?_))); (case side2 => exact HC0_3.out); rintro e w76 ⟨rfl, hb⟩; refine ⟨_, rfl, ?_⟩; have n0_ := Aside0.mk (blk_below (g := gb341) (o := .cells #[.int .i64 a0_0, .int .i64 a0_1, .string a0_2, .slice A0_3 l0_3.length c0_3] 25 (0, 0)) (by (with_reducible repeat (first | refine blk_drewN ?_ _ | refine blk_drew ?_ | refine blk_alloc ?_ _)); exact BK341.out) hb); have n1_ := Aside0.mk (below_step (by repeat (first | (with_reducible first | exact HB.out | apply below_alloc | apply pw_below_drewN | apply below_drew1 | refine below_set ?_ GE341.out) | exact HB.out)) hb); clear BK341; clear HB; have BK341 := n0_; have HB := n1_; clear n0_ n1_; (try clear hb); (try clear hb2); (try clear hk); (try clear hi)))
    go_ret
    exact ⟨by first | rfl | (simp [errW_none, errW_some] <;> rfl) | (simp [*, errW_none, errW_some] <;> rfl) | (simp [q_ne_nil]; done), by repeat (first | (with_reducible first | exact HB.out | apply below_alloc | apply pw_below_drewN | apply below_drew1 | refine below_set ?_ GE341.out) | exact HB.out)⟩
end Go.Proofs.YtbbaokjkmcfceaaGreatDoor.Q
/- Chapter 5: the calls whose answers the document fixes. -/
namespace Go.Proofs.YtbbaokjkmcfceaaGreatDoor.Pl
open Go.RowKit Go.Proofs.YtbbaokjkmcfceaaGreatDoor.Q Go.Proofs.YtbbaokjkmcfceaaGreatDoor.Sf Go.Proofs.YtbbaokjkmcfceaaGreatDoorW.PrintWords Go.Proofs.YtbbaokjkmcfceaaGreatDoorW.PrintLast
set_option linter.unusedVariables false
set_option linter.unusedSimpArgs false
set_option maxRecDepth 100000 in
theorem parse_a : sfitem_Parse.f (⟨#[115, 97, 109, 101, 45, 111, 114, 105, 103, 105, 110, 59, 32, 114, 101, 112, 111, 114, 116, 45, 116, 111, 61, 34, 101, 34]⟩ : ByteArray) = some (4, 0, ⟨#[115, 97, 109, 101, 45, 111, 114, 105, 103, 105, 110]⟩, [⟨⟨#[114, 101, 112, 111, 114, 116, 45, 116, 111]⟩, 3, 0, ⟨#[101]⟩⟩], 0) := by kernel_rfl
set_option maxRecDepth 100000 in
theorem parse_b : sfitem_Parse.f (⟨#[45, 49, 50, 46, 53, 48, 59, 97, 59, 98, 61, 63, 48]⟩ : ByteArray) = some (2, -12500, ⟨#[]⟩, [⟨⟨#[97]⟩, 6, 1, ⟨#[]⟩⟩, ⟨⟨#[98]⟩, 6, 0, ⟨#[]⟩⟩], 0) := by kernel_rfl
set_option maxRecDepth 100000 in
theorem parse_c : sfitem_Parse.f (⟨#[49, 32, 50]⟩ : ByteArray) = some (0, 0, ⟨#[]⟩, [], 50) := by kernel_rfl
theorem itoa_1500 : itoaBA 1500 = ⟨#[49, 53, 48, 48]⟩ := by
  have h : Lib.itoa 1500 = [49, 53, 48, 48] := by
    unfold Lib.itoa
    rw [if_neg (by decide)]
    rw [Lib.decDigits, Lib.decDigits, Lib.decDigits, Lib.decDigits]
    decide
  unfold itoaBA; rw [h]
theorem itoa_12 : itoaBA 12 = ⟨#[49, 50]⟩ := by
  have h : Lib.itoa 12 = [49, 50] := by
    unfold Lib.itoa
    rw [if_neg (by decide)]
    rw [Lib.decDigits, Lib.decDigits]
    decide
  unfold itoaBA; rw [h]
theorem itoa_1 : itoaBA 1 = ⟨#[49]⟩ := by
  have h : Lib.itoa 1 = [49] := by
    unfold Lib.itoa
    rw [if_neg (by decide), Lib.decDigits]
    decide
  unfold itoaBA; rw [h]
theorem itoa_0 : itoaBA 0 = ⟨#[48]⟩ := by
  have h : Lib.itoa 0 = [48] := by
    unfold Lib.itoa
    rw [if_neg (by decide), Lib.decDigits]
    decide
  unfold itoaBA; rw [h]
set_option maxRecDepth 100000 in
theorem dec_b : decB (-12500) = ⟨#[45, 49, 50, 46, 53]⟩ := by
  have e1 : magn (-12500) = 12500 := by decide
  have e2 : signB (-12500) = ⟨#[45]⟩ := by decide
  have e3 : 1000 + Int.tmod 12500 1000 = 1500 := by decide
  have e4 : Int.tdiv 12500 1000 = 12 := by decide
  unfold decB fracB tailZ
  rw [e1, e2, e3, e4, itoa_1500, itoa_12]
  decide +kernel
set_option maxRecDepth 100000 in
theorem text_b : sfitem_Text.f 2 (-12500) ⟨#[]⟩ [⟨⟨#[97]⟩, 6, 1, ⟨#[]⟩⟩, ⟨⟨#[98]⟩, 6, 0, ⟨#[]⟩⟩] = some (⟨#[45, 49, 50, 46, 53, 59, 97, 59, 98, 61, 63, 48]⟩, 0) := by
  have v1 : sfitem_value.f ⟨#[]⟩ 2 (-12500) ⟨#[]⟩ = some (⟨#[45, 49, 50, 46, 53]⟩, true) := by
    unfold sfitem_value.f
    rw [if_neg (by decide), if_neg (by decide), if_neg (by decide), if_pos rfl, dec_b]
    kernel_rfl
  have v2 : sfitem_value.f ⟨#[97]⟩ 6 1 ⟨#[]⟩ = some (⟨#[63, 49]⟩, true) := by
    unfold sfitem_value.f
    rw [if_neg (by decide), if_neg (by decide), if_neg (by decide), if_neg (by decide), if_pos rfl, if_pos (by decide +kernel), itoa_1]
    decide +kernel
  have v3 : sfitem_value.f ⟨#[98]⟩ 6 0 ⟨#[]⟩ = some (⟨#[63, 48]⟩, true) := by
    unfold sfitem_value.f
    rw [if_neg (by decide), if_neg (by decide), if_neg (by decide), if_neg (by decide), if_pos rfl, if_pos (by decide +kernel), itoa_0]
    decide +kernel
  have t : sfitem_Tail.f [⟨⟨#[97]⟩, 6, 1, ⟨#[]⟩⟩, ⟨⟨#[98]⟩, 6, 0, ⟨#[]⟩⟩] = some (⟨#[59, 97, 59, 98, 61, 63, 48]⟩, 0) := by
    unfold sfitem_Tail.f
    rw [if_pos (by decide), tailF]
    simp only []
    rw [v2]
    simp only [Option.bind_some]
    rw [if_neg (by decide), if_neg (by decide +kernel), tailF]
    simp only []
    rw [v3]
    simp only [Option.bind_some]
    rw [if_neg (by decide +kernel), if_neg (by decide +kernel), tailF]
    decide +kernel
  unfold sfitem_Text.f
  rw [v1]
  rw [Option.bind_some]
  rw [t]
  rw [Option.bind_some]
  first | rfl | decide +kernel | trace_state
theorem awake05 : glacislaw05_awake.f = some true := by
  unfold glacislaw05_awake.f
  rw [parse_a]
  rw [Option.bind_some]
  rw [parse_b]
  rw [Option.bind_some]
  rw [text_b]
  rw [Option.bind_some]
  rw [parse_c]
  rw [Option.bind_some]
  first | rfl | decide +kernel
end Go.Proofs.YtbbaokjkmcfceaaGreatDoor.Pl
/- Chapter 5: the reader over lists of bytes: what text tells what value, and how such a text is read. -/
namespace Go.Proofs.YtbbaokjkmcfceaaGreatDoor.Pl
open Go.RowKit Go.Proofs.YtbbaokjkmcfceaaGreatDoor.Q Go.Proofs.YtbbaokjkmcfceaaGreatDoor.Sf Go.Proofs.YtbbaokjkmcfceaaGreatDoorW.PrintWords Go.Proofs.YtbbaokjkmcfceaaGreatDoorW.PrintLast
set_option linter.unusedVariables false
set_option linter.unusedSimpArgs false
def L (s : ByteArray) : List UInt8 := s.data.toList
def B (l : List UInt8) : ByteArray := ⟨l.toArray⟩
theorem L_B (l : List UInt8) : L (B l) = l := by simp [L, B]
theorem B_L (s : ByteArray) : B (L s) = s := by apply ByteArray.ext; simp [L, B]
theorem L_inj {a b : ByteArray} (h : L a = L b) : a = b := by rw [← B_L a, h, B_L]
theorem L_app (a b : ByteArray) : L (a ++ b) = L a ++ L b := by unfold L; simp
theorem size_L (s : ByteArray) : s.size = (L s).length := Lib.size_eq s
theorem L_tl (s : ByteArray) : L (tl s) = (L s).tail := by
  unfold L tl
  rw [Lib.extract_data, Lib.size_eq]
  rw [List.take_of_length_le (by simp), List.drop_one]
theorem bt0 {s : ByteArray} {c : UInt8} {r : List UInt8} (h : L s = c :: r) : bt s 0 = (c.toNat : Int) := by
  have hl : 0 < s.data.toList.length := by show 0 < (L s).length; rw [h]; simp
  have := bt_list s 0 hl
  have e : s.data.toList[0] = c := by
    have h2 : s.data.toList = c :: r := h
    simp [h2]
  rw [e] at this
  exact this
theorem size_pos {s : ByteArray} {c : UInt8} {r : List UInt8} (h : L s = c :: r) : 0 < s.size := by rw [size_L, h]; simp
theorem size_nil {s : ByteArray} (h : L s = []) : ¬ 0 < s.size := by rw [size_L, h]; simp
theorem atF_cons {s : ByteArray} {c : UInt8} {r : List UInt8} (h : L s = c :: r) (n : Int) : atF s n = decide ((c.toNat : Int) = n) := by
  unfold atF; rw [bt0 h]; simp [size_pos h]
theorem atF_nil {s : ByteArray} (h : L s = []) (n : Int) : atF s n = false := by
  unfold atF; simp [size_nil h]
theorem atF_ex {s : ByteArray} {n : Int} (h : atF s n = true) : ∃ c r, L s = c :: r ∧ (c.toNat : Int) = n := by
  cases e : L s with
  | nil => rw [atF_nil e] at h; cases h
  | cons c r => rw [atF_cons e] at h; exact ⟨c, r, rfl, of_decide_eq_true h⟩
theorem L_tak (p : Int → Bool) (s : ByteArray) : L (takB p s) = (L s).takeWhile (fun c => p c.toNat) := tak_data p s
theorem L_drp (p : Int → Bool) (s : ByteArray) : L (drpB p s) = (L s).dropWhile (fun c => p c.toNat) := by
  have h1 : L (drpB p s) = (L s).drop (spanB p s) := by
    unfold L drpB
    rw [Lib.extract_data, Lib.size_eq]
    rw [List.take_of_length_le (by simp)]
  rw [h1]
  have h2 : spanB p s = ((L s).takeWhile (fun c => p c.toNat)).length := rfl
  rw [h2]
  generalize (fun c : UInt8 => p c.toNat) = q
  induction L s with
  | nil => rfl
  | cons x l ih => rw [List.takeWhile_cons, List.dropWhile_cons]; split <;> simp [*]
theorem takeW_app {α : Type} (q : α → Bool) : ∀ (w r : List α), (∀ c ∈ w, q c = true) → (∀ c r', r = c :: r' → q c = false) → (w ++ r).takeWhile q = w ∧ (w ++ r).dropWhile q = r
  | [], r, _, h2 => by
    cases r with
    | nil => exact ⟨rfl, rfl⟩
    | cons c r' => rw [List.nil_append, List.takeWhile_cons, List.dropWhile_cons, h2 c r' rfl]; exact ⟨rfl, rfl⟩
  | x :: w, r, h1, h2 => by
    have ih := takeW_app q w r (fun c hc => h1 c (List.mem_cons_of_mem _ hc)) h2
    rw [List.cons_append, List.takeWhile_cons, List.dropWhile_cons, h1 x (List.mem_cons_self ..)]
    simp only [if_true]
    rw [ih.1, ih.2]; exact ⟨rfl, rfl⟩
theorem span_split {α : Type} (q : α → Bool) (l : List α) : l.takeWhile q ++ l.dropWhile q = l := List.takeWhile_append_dropWhile
theorem allU (P : UInt8 → Bool) (h : (List.range 256).all (fun n => P (UInt8.ofNat n)) = true) (c : UInt8) : P c = true := by
  have hc : c.toNat < 256 := c.toNat_lt
  have := List.all_eq_true.1 h c.toNat (List.mem_range.2 hc)
  simpa using this
/-- A row of digits' number. -/
def numL (l : List UInt8) : Nat := l.foldl (fun a c => a * 10 + (c.toNat - 48)) 0
theorem numV_L (s : ByteArray) : numV s = numL (L s) := rfl
def zerL (n : Nat) : List UInt8 := ([48, 48, 48] : List UInt8).drop n
theorem zer_L (n : Nat) : L (zer n) = zerL n := by
  unfold L zer
  rw [Lib.extract_data]
  show List.take (3 - n) (List.drop n [48, 48, 48]) = zerL n
  rw [List.take_of_length_le (by simp)]; rfl
def dgU (c : UInt8) : Bool := dgP c.toNat
def toU (c : UInt8) : Bool := tokP c.toNat
def baU (c : UInt8) : Bool := baP c.toNat
def keU (c : UInt8) : Bool := keP c.toNat
/-- What bytes between quotes tell what text. -/
inductive QT : List UInt8 → List UInt8 → Prop
  | stop : QT [34] []
  | plain (c : UInt8) (q t : List UInt8) (h1 : 32 ≤ c.toNat) (h2 : c.toNat ≤ 126) (h3 : c.toNat ≠ 34) (h4 : c.toNat ≠ 92) (h : QT q t) : QT (c :: q) (c :: t)
  | esc (c : UInt8) (q t : List UInt8) (h1 : c.toNat = 34 ∨ c.toNat = 92) (h : QT q t) : QT (92 :: c :: q) (c :: t)
def sgV (sg : List UInt8) : Int := if sg = [] then 1 else -1
/-- What text tells what value. -/
inductive VT : List UInt8 → Int → Int → List UInt8 → Prop
  | int (sg w : List UInt8) (h0 : sg = [] ∨ sg = [45]) (h1 : w ≠ []) (h2 : ∀ c ∈ w, dgU c = true) (h3 : w.length ≤ 15) : VT (sg ++ w) 1 (sgV sg * (numL w : Int)) []
  | dec (sg w p : List UInt8) (h0 : sg = [] ∨ sg = [45]) (h1 : w ≠ []) (h2 : ∀ c ∈ w, dgU c = true) (h3 : w.length ≤ 12) (h4 : p ≠ []) (h5 : ∀ c ∈ p, dgU c = true) (h6 : p.length ≤ 3) : VT (sg ++ (w ++ 46 :: p)) 2 (sgV sg * (numL (w ++ (p ++ zerL p.length)) : Int)) []
  | tok (c : UInt8) (w : List UInt8) (h0 : leP c.toNat = true ∨ (c.toNat : Int) = 42) (h1 : ∀ x ∈ c :: w, toU x = true) : VT (c :: w) 4 0 (c :: w)
  | quo (q t : List UInt8) (h : QT q t) : VT (34 :: q) 3 0 t
  | byt (w : List UInt8) (h : ∀ c ∈ w, baU c = true) : VT (58 :: (w ++ [58])) 5 0 w
  | one : VT [63, 49] 6 1 []
  | zero : VT [63, 48] 6 0 []
/-- What text tells what key. -/
def KT (k : List UInt8) : Prop := ∃ c w, k = c :: w ∧ (smP c.toNat = true ∨ (c.toNat : Int) = 42) ∧ ∀ x ∈ k, keU x = true
/-- A rest behind which nothing is lost. -/
def Ends (r : List UInt8) : Prop := ∀ c r', r = c :: r' → c = 59
theorem Ends.nil : Ends [] := fun _ _ h => by cases h
theorem Ends.semi (r : List UInt8) : Ends (59 :: r) := fun _ _ h => by cases h; rfl
theorem Ends.not {q : UInt8 → Bool} {r : List UInt8} (h : Ends r) (hq : q 59 = false) : ∀ c r', r = c :: r' → q c = false := fun c r' e => by rw [h c r' e]; exact hq
set_option maxRecDepth 100000 in
theorem digU_59 : dgU 59 = false := by decide
set_option maxRecDepth 100000 in
theorem tokU_59 : toU 59 = false := by decide +kernel
set_option maxRecDepth 100000 in
theorem keyU_59 : keU 59 = false := by decide +kernel
theorem dg_ne {c : UInt8} (h : dgU c = true) : 48 ≤ c.toNat ∧ c.toNat ≤ 57 := by
  unfold dgU dgP at h; have := of_decide_eq_true h; omega
theorem number_read (sg w r : List UInt8) (s : ByteArray) (h0 : sg = [] ∨ sg = [45]) (h1 : w ≠ []) (h2 : ∀ c ∈ w, dgU c = true) (hr : ∀ c r', r = c :: r' → dgU c = false) (e : L s = sg ++ (w ++ r)) :
    sgn s = sgV sg ∧ L (takB dgP (atR s 45)) = w ∧ L (drpB dgP (atR s 45)) = r := by
  have key : ∀ t : ByteArray, L t = w ++ r → L (takB dgP t) = w ∧ L (drpB dgP t) = r := fun t et => by
    rw [L_tak, L_drp, et]
    exact takeW_app (fun c : UInt8 => dgP c.toNat) w r h2 hr
  rcases h0 with rfl | rfl
  · obtain ⟨c, w', rfl⟩ := List.exists_cons_of_ne_nil h1
    have hc := dg_ne (h2 c (List.mem_cons_self ..))
    have e1 : L s = c :: (w' ++ r) := e
    have e2 : atF s 45 = false := by rw [atF_cons e1]; exact decide_eq_false (by omega)
    have e3 : atR s 45 = s := by unfold atR; rw [e2]; rfl
    refine ⟨by unfold sgn; rw [e2]; rfl, ?_⟩
    rw [e3]; exact key s e
  · have e1 : L s = 45 :: (w ++ r) := e
    have e2 : atF s 45 = true := by rw [atF_cons e1]; rfl
    have e3 : atR s 45 = tl s := by unfold atR; rw [e2]; rfl
    refine ⟨by unfold sgn; rw [e2]; rfl, ?_⟩
    rw [e3]; exact key (tl s) (by rw [L_tl, e1]; rfl)
theorem int_read (sg w r : List UInt8) (s : ByteArray) (h0 : sg = [] ∨ sg = [45]) (h1 : w ≠ []) (h2 : ∀ c ∈ w, dgU c = true) (h3 : w.length ≤ 15) (hr : ∀ c r', r = c :: r' → dgU c = false) (hp : ∀ c r', r = c :: r' → c.toNat ≠ 46) (e : L s = sg ++ (w ++ r)) :
    rdNumber s = some ((1, sgV sg * (numL w : Int), ⟨#[]⟩), B r) := by
  obtain ⟨a, b, c⟩ := number_read sg w r s h0 h1 h2 hr e
  have a' : (if atF s 45 = true then (-1 : Int) else 1) = sgV sg := a
  unfold rdNumber
  simp only []
  have hw : ¬ (takB dgP (atR s 45)).size = 0 := by rw [size_L, b]; simpa using h1
  have hd : atF (drpB dgP (atR s 45)) 46 = false := by
    cases r with
    | nil => exact atF_nil c 46
    | cons x r' => rw [atF_cons c]; exact decide_eq_false (by have := hp x r' rfl; omega)
  have hl : ¬ (takB dgP (atR s 45)).size > 15 := by rw [size_L, b]; omega
  rw [if_neg hw, hd, if_neg (by decide), if_neg hl, a', numV_L, b]
  have : drpB dgP (atR s 45) = B r := L_inj (by rw [c, L_B])
  rw [this]
theorem dec_read (sg w p r : List UInt8) (s : ByteArray) (h0 : sg = [] ∨ sg = [45]) (h1 : w ≠ []) (h2 : ∀ c ∈ w, dgU c = true) (h3 : w.length ≤ 12) (h4 : p ≠ []) (h5 : ∀ c ∈ p, dgU c = true) (h6 : p.length ≤ 3)
    (hr : ∀ c r', r = c :: r' → dgU c = false) (e : L s = sg ++ (w ++ (46 :: (p ++ r)))) :
    rdNumber s = some ((2, sgV sg * (numL (w ++ (p ++ zerL p.length)) : Int), ⟨#[]⟩), B r) := by
  obtain ⟨a, b, c⟩ := number_read sg w (46 :: (p ++ r)) s h0 h1 h2 (fun c r' h => by cases h; decide) e
  have a' : (if atF s 45 = true then (-1 : Int) else 1) = sgV sg := a
  have hw : ¬ (takB dgP (atR s 45)).size = 0 := by rw [size_L, b]; simpa using h1
  have hd : atF (drpB dgP (atR s 45)) 46 = true := by rw [atF_cons c]; rfl
  have ht : L (tl (drpB dgP (atR s 45))) = p ++ r := by rw [L_tl, c]; rfl
  have hp := takeW_app (fun c : UInt8 => dgP c.toNat) p r h5 hr
  have f1 : L (takB dgP (tl (drpB dgP (atR s 45)))) = p := by rw [L_tak, ht]; exact hp.1
  have f2 : L (drpB dgP (tl (drpB dgP (atR s 45)))) = r := by rw [L_drp, ht]; exact hp.2
  have hn : ¬ ((takB dgP (atR s 45)).size > 12 ∨ (takB dgP (tl (drpB dgP (atR s 45)))).size = 0 ∨ (takB dgP (tl (drpB dgP (atR s 45)))).size > 3) := by
    rw [size_L, size_L, b, f1]
    have : p.length ≠ 0 := by simpa using h4
    omega
  unfold rdNumber
  simp only []
  rw [if_neg hw, hd, if_pos rfl, if_neg hn, a', numV_L, L_app, L_app, zer_L, b, f1, size_L, f1]
  have : drpB dgP (tl (drpB dgP (atR s 45))) = B r := L_inj (by rw [f2, L_B])
  rw [this]
theorem wiQ (c : UInt8) : wiP c.toNat ⟨#[34, 92]⟩ = decide (c.toNat = 34 ∨ c.toNat = 92) := by
  have := allU (fun c : UInt8 => wiP c.toNat ⟨#[34, 92]⟩ == decide (c.toNat = 34 ∨ c.toNat = 92)) (by decide +kernel) c
  exact beq_iff_eq.1 this
theorem le_not (c : UInt8) (h : leP c.toNat = true ∨ (c.toNat : Int) = 42) : ¬ ((c.toNat : Int) = 45 ∨ dgP c.toNat = true) := by
  have := allU (fun c : UInt8 => !(leP c.toNat || decide ((c.toNat : Int) = 42)) || !(decide ((c.toNat : Int) = 45) || dgP c.toNat)) (by decide +kernel) c
  simp only [Bool.or_eq_true, Bool.not_eq_true', Bool.or_eq_false_iff, decide_eq_false_iff_not] at this
  rcases this with ⟨a, b⟩ | ⟨a, b⟩
  · rcases h with h | h
    · rw [h] at a; cases a
    · exact absurd h b
  · rintro (h | h)
    · exact a h
    · rw [h] at b; cases b
theorem num_app (l : List Int) (c : UInt8) (t : List UInt8) (h : L (strOfNums l) = t) : L (strOfNums (l ++ [(c.toNat : Int)])) = t ++ [c] := by
  subst h
  unfold L strOfNums
  simp
theorem q_read : ∀ (q t : List UInt8), QT q t → ∀ (d : Nat) (s : ByteArray) (r : List UInt8) (xs : List Int) (x0 : List UInt8), q.length ≤ d → L s = q ++ r → L (strOfNums xs) = x0 → qF d s xs = some (B (x0 ++ t), B r) := by
  intro q t h
  induction h with
  | stop =>
    intro d s r xs x0 hd e hx
    obtain ⟨d, rfl⟩ : ∃ d', d = d' + 1 := ⟨d - 1, by simp at hd; omega⟩
    have e1 : L s = 34 :: r := e
    rw [qF, if_pos (size_pos e1), bt0 e1, if_pos (by decide)]
    have a1 : strOfNums xs = B (x0 ++ []) := L_inj (by rw [hx, L_B]; simp)
    have a2 : tl s = B r := L_inj (by rw [L_tl, e1, L_B]; rfl)
    rw [a1, a2]
  | plain c q t h1 h2 h3 h4 h ih =>
    intro d s r xs x0 hd e hx
    obtain ⟨d, rfl⟩ : ∃ d', d = d' + 1 := ⟨d - 1, by simp at hd; omega⟩
    have e1 : L s = c :: (q ++ r) := e
    have e2 : L (tl s) = q ++ r := by rw [L_tl, e1]; rfl
    rw [qF, if_pos (size_pos e1), bt0 e1, if_neg (by omega), if_neg (by omega), if_neg (by omega)]
    rw [ih d (tl s) r (xs ++ [(c.toNat : Int)]) (x0 ++ [c]) (by simp at hd; omega) e2 (num_app xs c x0 hx)]
    simp
  | esc c q t h1 h ih =>
    intro d s r xs x0 hd e hx
    obtain ⟨d, rfl⟩ : ∃ d', d = d' + 1 := ⟨d - 1, by simp at hd; omega⟩
    have e1 : L s = 92 :: (c :: (q ++ r)) := e
    have e2 : L (tl s) = c :: (q ++ r) := by rw [L_tl, e1]; rfl
    have e3 : L (tl (tl s)) = q ++ r := by rw [L_tl, e2]; rfl
    have hc : wiP (bt (tl s) 0) ⟨#[34, 92]⟩ = true := by rw [bt0 e2, wiQ]; exact decide_eq_true h1
    rw [qF, if_pos (size_pos e1), bt0 e1, if_neg (by decide), if_neg (by
      rintro (h | h | ⟨_, h⟩)
      · exact absurd h (by decide)
      · exact absurd h (by decide)
      · exact h ⟨size_pos e2, hc⟩), if_pos (by decide), bt0 e2]
    rw [ih d (tl (tl s)) r (xs ++ [(c.toNat : Int)]) (x0 ++ [c]) (by simp at hd; omega) e3 (num_app xs c x0 hx)]
    simp
theorem quoted_read (q t r : List UInt8) (h : QT q t) (s : ByteArray) (e : L s = q ++ r) : rdQuoted s = some ((3, 0, B t), B r) := by
  unfold rdQuoted
  rw [q_read q t h (s.size + 1) s r [] [] (by rw [size_L, e]; simp; omega) e rfl]
  rfl
theorem value_read {u : List UInt8} {n i : Int} {t : List UInt8} (h : VT u n i t) (r : List UInt8) (hr : Ends r) (s : ByteArray) (e : L s = u ++ r) : rdValue s = some ((n, i, B t), B r) := by
  unfold rdValue
  cases h with
  | int sg w h0 h1 h2 h3 =>
    have e' : L s = sg ++ (w ++ r) := by rw [e]; simp
    have hp : 0 < s.size ∧ (bt s 0 = 45 ∨ dgP (bt s 0) = true) := by
      rcases h0 with rfl | rfl
      · obtain ⟨c, w', rfl⟩ := List.exists_cons_of_ne_nil h1
        have e1 : L s = c :: (w' ++ r) := e'
        exact ⟨size_pos e1, Or.inr (by rw [bt0 e1]; exact h2 c (List.mem_cons_self ..))⟩
      · have e1 : L s = 45 :: (w ++ r) := e'
        exact ⟨size_pos e1, Or.inl (by rw [bt0 e1]; rfl)⟩
    rw [if_pos hp.1, if_pos hp.2]
    exact int_read sg w r s h0 h1 h2 h3 (hr.not digU_59) (fun c r' h => by rw [hr c r' h]; decide) e'
  | dec sg w p h0 h1 h2 h3 h4 h5 h6 =>
    have e' : L s = sg ++ (w ++ (46 :: (p ++ r))) := by rw [e]; simp
    have hp : 0 < s.size ∧ (bt s 0 = 45 ∨ dgP (bt s 0) = true) := by
      rcases h0 with rfl | rfl
      · obtain ⟨c, w', rfl⟩ := List.exists_cons_of_ne_nil h1
        have e1 : L s = c :: (w' ++ (46 :: (p ++ r))) := e'
        exact ⟨size_pos e1, Or.inr (by rw [bt0 e1]; exact h2 c (List.mem_cons_self ..))⟩
      · have e1 : L s = 45 :: (w ++ (46 :: (p ++ r))) := e'
        exact ⟨size_pos e1, Or.inl (by rw [bt0 e1]; rfl)⟩
    rw [if_pos hp.1, if_pos hp.2]
    exact dec_read sg w p r s h0 h1 h2 h3 h4 h5 h6 (hr.not digU_59) e'
  | tok c w h0 h1 =>
    have e1 : L s = c :: (w ++ r) := e
    have hn := le_not c h0
    rw [if_pos (size_pos e1), bt0 e1, if_neg hn, if_pos h0]
    have k := takeW_app (fun c : UInt8 => tokP c.toNat) (c :: w) r h1 (hr.not tokU_59)
    have a1 : takB tokP s = B (c :: w) := L_inj (by rw [L_tak, e, L_B]; exact k.1)
    have a2 : drpB tokP s = B r := L_inj (by rw [L_drp, e, L_B]; exact k.2)
    rw [a1, a2]
  | quo q t h =>
    have e1 : L s = 34 :: (q ++ r) := e
    rw [if_pos (size_pos e1), bt0 e1, if_neg (by decide), if_neg (by decide +kernel), if_pos (by decide)]
    exact quoted_read q t r h (tl s) (by rw [L_tl, e1]; rfl)
  | byt _ h =>
    have e1 : L s = 58 :: (t ++ (58 :: r)) := by rw [e]; simp
    rw [if_pos (size_pos e1), bt0 e1, if_neg (by decide), if_neg (by decide +kernel), if_neg (by decide), if_pos (by decide)]
    have e2 : L (tl s) = t ++ (58 :: r) := by rw [L_tl, e1]; rfl
    have k := takeW_app (fun c : UInt8 => baP c.toNat) t (58 :: r) h (fun c r' h => by cases h; decide +kernel)
    have a1 : takB baP (tl s) = B t := L_inj (by rw [L_tak, e2, L_B]; exact k.1)
    have a2 : L (drpB baP (tl s)) = 58 :: r := by rw [L_drp, e2]; exact k.2
    have a3 : tl (drpB baP (tl s)) = B r := L_inj (by rw [L_tl, a2, L_B]; rfl)
    unfold rdBytes
    rw [if_pos (by rw [atF_cons a2]; rfl), a1, a3]
  | one =>
    have e1 : L s = 63 :: 49 :: r := e
    have e2 : L (tl s) = 49 :: r := by rw [L_tl, e1]; rfl
    have a3 : tl (tl s) = B r := L_inj (by rw [L_tl, e2, L_B]; rfl)
    rw [if_pos (size_pos e1), bt0 e1, if_neg (by decide), if_neg (by decide +kernel), if_neg (by decide), if_neg (by decide), if_pos (by decide)]
    unfold rdBool
    rw [if_pos (by rw [atF_cons e2]; rfl), a3]; rfl
  | zero =>
    have e1 : L s = 63 :: 48 :: r := e
    have e2 : L (tl s) = 48 :: r := by rw [L_tl, e1]; rfl
    have a3 : tl (tl s) = B r := L_inj (by rw [L_tl, e2, L_B]; rfl)
    rw [if_pos (size_pos e1), bt0 e1, if_neg (by decide), if_neg (by decide +kernel), if_neg (by decide), if_neg (by decide), if_pos (by decide)]
    unfold rdBool
    rw [if_neg (by rw [atF_cons e2]; decide), if_pos (by rw [atF_cons e2]; rfl), a3]; rfl
end Go.Proofs.YtbbaokjkmcfceaaGreatDoor.Pl
/- Chapter 5: what the reader has read is such a text; parameters; whole items. -/
namespace Go.Proofs.YtbbaokjkmcfceaaGreatDoor.Pl
open Go.RowKit Go.Proofs.YtbbaokjkmcfceaaGreatDoor.Q Go.Proofs.YtbbaokjkmcfceaaGreatDoor.Sf Go.Proofs.YtbbaokjkmcfceaaGreatDoorW.PrintWords Go.Proofs.YtbbaokjkmcfceaaGreatDoorW.PrintLast
set_option linter.unusedVariables false
set_option linter.unusedSimpArgs false
theorem u_eq {c d : UInt8} (h : (c.toNat : Int) = (d.toNat : Int)) : c = d := UInt8.toNat_inj.1 (by omega)
theorem cons_of (s : ByteArray) (h : 0 < s.size) : ∃ c r, L s = c :: r := by
  cases e : L s with
  | nil => exact absurd h (size_nil e)
  | cons c r => exact ⟨c, r, rfl⟩
theorem qt_inv : ∀ (d : Nat) (s : ByteArray) (xs : List Int) (o t : ByteArray), qF d s xs = some (o, t) → ∃ q m, L s = q ++ L t ∧ QT q m ∧ L o = L (strOfNums xs) ++ m
  | 0, s, xs, o, t, h => by rw [qF] at h; cases h
  | d + 1, s, xs, o, t, h => by
    rw [qF] at h
    by_cases h0 : 0 < s.size
    · rw [if_pos h0] at h
      obtain ⟨c, r, e⟩ := cons_of s h0
      have et : L (tl s) = r := by rw [L_tl, e]; rfl
      rw [bt0 e] at h
      by_cases c34 : (c.toNat : Int) = 34
      · rw [if_pos c34] at h
        obtain ⟨rfl, rfl⟩ := Prod.mk.inj (Option.some.inj h)
        have : c = 34 := u_eq c34
        subst this
        exact ⟨[34], [], by rw [et, e]; rfl, QT.stop, by simp⟩
      · rw [if_neg c34] at h
        by_cases bad : (c.toNat : Int) < 32 ∨ 126 < (c.toNat : Int) ∨ ((c.toNat : Int) = 92 ∧ ¬ (0 < (tl s).size ∧ wiP (bt (tl s) 0) ⟨#[34, 92]⟩ = true))
        · rw [if_pos bad] at h; cases h
        · rw [if_neg bad] at h
          by_cases c92 : (c.toNat : Int) = 92
          · rw [if_pos c92] at h
            have ok : 0 < (tl s).size ∧ wiP (bt (tl s) 0) ⟨#[34, 92]⟩ = true := Classical.byContradiction fun k => bad (Or.inr (Or.inr ⟨c92, k⟩))
            obtain ⟨c2, r2, e2⟩ := cons_of (tl s) ok.1
            have ok2 := ok.2
            rw [bt0 e2, wiQ] at ok2
            rw [bt0 e2] at h
            obtain ⟨q, m, a1, a2, a3⟩ := qt_inv d _ _ _ _ h
            have e3 : L (tl (tl s)) = r2 := by rw [L_tl, e2]; rfl
            have : c = 92 := u_eq c92
            subst this
            refine ⟨92 :: c2 :: q, c2 :: m, ?_, QT.esc c2 q m (of_decide_eq_true ok2) a2, ?_⟩
            · rw [e3] at a1; rw [e, ← et, e2, a1]; rfl
            · rw [a3, num_app xs c2 _ rfl]; simp
          · rw [if_neg c92] at h
            obtain ⟨q, m, a1, a2, a3⟩ := qt_inv d _ _ _ _ h
            refine ⟨c :: q, c :: m, ?_, QT.plain c q m (by omega) (by omega) (by omega) (by omega) a2, ?_⟩
            · rw [et] at a1; rw [e, a1]; rfl
            · rw [a3, num_app xs c _ rfl]; simp
    · rw [if_neg h0] at h; cases h
theorem quoted_inv {s t : ByteArray} {v : Int × Int × ByteArray} (h : rdQuoted s = some (v, t)) : ∃ q, L s = q ++ L t ∧ QT q (L v.2.2) ∧ v.1 = 3 ∧ v.2.1 = 0 := by
  unfold rdQuoted at h
  obtain ⟨⟨o, t'⟩, hq, hm⟩ := Option.map_eq_some_iff.1 h
  unfold mkQ at hm
  obtain ⟨rfl, rfl⟩ := Prod.mk.inj hm
  obtain ⟨q, m, a1, a2, a3⟩ := qt_inv _ _ _ _ _ hq
  refine ⟨q, a1, ?_, rfl, rfl⟩
  have : L (strOfNums []) = [] := rfl
  rw [this] at a3
  simpa [a3] using a2
theorem number_inv {s t : ByteArray} {v : Int × Int × ByteArray} (h : rdNumber s = some (v, t)) : ∃ u, L s = u ++ L t ∧ VT u v.1 v.2.1 (L v.2.2) := by
  obtain ⟨sg, h0, hs, hg⟩ : ∃ sg : List UInt8, (sg = [] ∨ sg = [45]) ∧ L s = sg ++ L (atR s 45) ∧ (if atF s 45 = true then (-1 : Int) else 1) = sgV sg := by
    unfold atR
    cases e : atF s 45 with
    | false => exact ⟨[], Or.inl rfl, rfl, rfl⟩
    | true =>
      obtain ⟨c, r, e1, e2⟩ := atF_ex e
      have : c = 45 := u_eq e2
      subst this
      exact ⟨[45], Or.inr rfl, by rw [if_pos rfl, L_tl, e1]; rfl, rfl⟩
  unfold rdNumber at h
  simp only [] at h
  rw [hg] at h
  have hw := L_tak dgP (atR s 45)
  have hd := L_drp dgP (atR s 45)
  have hsp := span_split (fun c : UInt8 => dgP c.toNat) (L (atR s 45))
  have hall := tak_all dgP (atR s 45)
  rw [← hw, ← hd] at hsp
  generalize takB dgP (atR s 45) = w at *
  generalize drpB dgP (atR s 45) = s2 at *
  by_cases hw0 : w.size = 0
  · rw [if_pos hw0] at h; cases h
  · rw [if_neg hw0] at h
    have hwn : L w ≠ [] := by rw [size_L] at hw0; intro e; rw [e] at hw0; exact hw0 rfl
    cases e : atF s2 46 with
    | true =>
      rw [e, if_pos rfl] at h
      obtain ⟨c, r, e1, e2⟩ := atF_ex e
      have : c = 46 := u_eq e2
      subst this
      have hw2 := L_tak dgP (tl s2)
      have hd2 := L_drp dgP (tl s2)
      have hsp2 := span_split (fun c : UInt8 => dgP c.toNat) (L (tl s2))
      have hall2 := tak_all dgP (tl s2)
      rw [← hw2, ← hd2] at hsp2
      have et : L (tl s2) = r := by rw [L_tl, e1]; rfl
      generalize takB dgP (tl s2) = p at *
      generalize drpB dgP (tl s2) = s3 at *
      by_cases hb : w.size > 12 ∨ p.size = 0 ∨ p.size > 3
      · rw [if_pos hb] at h; cases h
      · rw [if_neg hb] at h
        obtain ⟨rfl, rfl⟩ := Prod.mk.inj (Option.some.inj h)
        simp only [size_L] at hb
        refine ⟨sg ++ (L w ++ 46 :: L p), ?_, ?_⟩
        · rw [hs, ← hsp, e1, ← et, ← hsp2]; simp
        · have := VT.dec sg (L w) (L p) h0 hwn hall (by omega) (by intro k; rw [k] at hb; exact hb (Or.inr (Or.inl rfl))) hall2 (by omega)
          rw [numV_L, L_app, L_app, zer_L, size_L]
          exact this
    | false =>
      rw [e, if_neg (by decide)] at h
      by_cases hb : w.size > 15
      · rw [if_pos hb] at h; cases h
      · rw [if_neg hb] at h
        obtain ⟨rfl, rfl⟩ := Prod.mk.inj (Option.some.inj h)
        rw [size_L] at hb
        exact ⟨sg ++ L w, by rw [hs, ← hsp]; simp, VT.int sg (L w) h0 hwn hall (by omega)⟩
theorem le_tok (c : UInt8) (h : leP c.toNat = true ∨ (c.toNat : Int) = 42) : toU c = true := by
  have := allU (fun c : UInt8 => !(leP c.toNat || decide ((c.toNat : Int) = 42)) || toU c) (by decide +kernel) c
  simp only [Bool.or_eq_true, Bool.not_eq_true', Bool.or_eq_false_iff, decide_eq_false_iff_not] at this
  rcases this with ⟨a, b⟩ | a
  · rcases h with h | h
    · rw [h] at a; cases a
    · exact absurd h b
  · exact a
theorem value_inv {s t : ByteArray} {v : Int × Int × ByteArray} (h : rdValue s = some (v, t)) : ∃ u, L s = u ++ L t ∧ VT u v.1 v.2.1 (L v.2.2) := by
  unfold rdValue at h
  by_cases h0 : 0 < s.size
  · rw [if_pos h0] at h
    obtain ⟨c, r, e⟩ := cons_of s h0
    have et : L (tl s) = r := by rw [L_tl, e]; rfl
    rw [bt0 e] at h
    by_cases c1 : (c.toNat : Int) = 45 ∨ dgP c.toNat = true
    · rw [if_pos c1] at h; exact number_inv h
    rw [if_neg c1] at h
    by_cases c2 : leP c.toNat = true ∨ (c.toNat : Int) = 42
    · rw [if_pos c2] at h
      obtain ⟨rfl, rfl⟩ := Prod.mk.inj (Option.some.inj h)
      have hw := L_tak tokP s
      have hd := L_drp tokP s
      have hsp := span_split (fun c : UInt8 => tokP c.toNat) (L s)
      rw [← hw, ← hd] at hsp
      refine ⟨L (takB tokP s), hsp.symm, ?_⟩
      have hc : L (takB tokP s) = c :: r.takeWhile (fun c => tokP c.toNat) := by
        rw [hw, e, List.takeWhile_cons, show tokP c.toNat = true from le_tok c c2]; simp
      have hall : ∀ x ∈ L (takB tokP s), toU x = true := tak_all tokP s
      show VT (L (takB tokP s)) 4 0 (L (takB tokP s))
      rw [hc] at hall ⊢
      exact VT.tok c _ c2 hall
    rw [if_neg c2] at h
    by_cases c3 : (c.toNat : Int) = 34
    · rw [if_pos c3] at h
      have : c = 34 := u_eq c3
      subst this
      obtain ⟨q, a1, a2, a3, a4⟩ := quoted_inv h
      refine ⟨34 :: q, by rw [e, ← et, a1]; rfl, ?_⟩
      rw [a3, a4]; exact VT.quo q _ a2
    rw [if_neg c3] at h
    by_cases c4 : (c.toNat : Int) = 58
    · rw [if_pos c4] at h
      have : c = 58 := u_eq c4
      subst this
      unfold rdBytes at h
      have hw := L_tak baP (tl s)
      have hd := L_drp baP (tl s)
      have hsp := span_split (fun c : UInt8 => baP c.toNat) (L (tl s))
      have hall : ∀ x ∈ L (takB baP (tl s)), baU x = true := tak_all baP (tl s)
      rw [← hw, ← hd] at hsp
      cases e5 : atF (drpB baP (tl s)) 58 with
      | false => rw [e5, if_neg (by decide)] at h; cases h
      | true =>
        rw [e5, if_pos rfl] at h
        obtain ⟨rfl, rfl⟩ := Prod.mk.inj (Option.some.inj h)
        obtain ⟨c', r', f1, f2⟩ := atF_ex e5
        have : c' = 58 := u_eq f2
        subst this
        refine ⟨58 :: (L (takB baP (tl s)) ++ [58]), ?_, VT.byt _ hall⟩
        rw [L_tl, f1, e, ← et, ← hsp, f1]; simp
    rw [if_neg c4] at h
    by_cases c5 : (c.toNat : Int) = 63
    · rw [if_pos c5] at h
      have : c = 63 := u_eq c5
      subst this
      unfold rdBool at h
      cases e5 : atF (tl s) 49 with
      | true =>
        rw [e5, if_pos rfl] at h
        obtain ⟨rfl, rfl⟩ := Prod.mk.inj (Option.some.inj h)
        obtain ⟨c', r', f1, f2⟩ := atF_ex e5
        have : c' = 49 := u_eq f2
        subst this
        exact ⟨[63, 49], by rw [L_tl, f1, e, ← et, f1]; rfl, VT.one⟩
      | false =>
        rw [e5, if_neg (by decide)] at h
        cases e6 : atF (tl s) 48 with
        | true =>
          rw [e6, if_pos rfl] at h
          obtain ⟨rfl, rfl⟩ := Prod.mk.inj (Option.some.inj h)
          obtain ⟨c', r', f1, f2⟩ := atF_ex e6
          have : c' = 48 := u_eq f2
          subst this
          exact ⟨[63, 48], by rw [L_tl, f1, e, ← et, f1]; rfl, VT.zero⟩
        | false => rw [e6, if_neg (by decide)] at h; cases h
    · rw [if_neg c5] at h; cases h
  · rw [if_neg h0] at h; cases h
theorem key_first (c : UInt8) (h : smP c.toNat = true ∨ (c.toNat : Int) = 42) : keU c = true ∧ c ≠ 32 := by
  have := allU (fun c : UInt8 => !(smP c.toNat || decide ((c.toNat : Int) = 42)) || (keU c && !decide (c = 32))) (by decide +kernel) c
  simp only [Bool.or_eq_true, Bool.not_eq_true', Bool.or_eq_false_iff, decide_eq_false_iff_not, Bool.and_eq_true] at this
  rcases this with ⟨a, b⟩ | a
  · rcases h with h | h
    · rw [h] at a; cases a
    · exact absurd h b
  · exact a
theorem key_read (k r : List UInt8) (hk : KT k) (hr : ∀ c r', r = c :: r' → keU c = false) (s : ByteArray) (e : L s = k ++ r) : rdKey s = some (B k, B r) := by
  obtain ⟨c, w, rfl, h1, h2⟩ := hk
  have e1 : L s = c :: (w ++ r) := e
  unfold rdKey
  rw [if_pos ⟨size_pos e1, by rw [bt0 e1]; exact h1⟩]
  have k := takeW_app (fun c : UInt8 => keP c.toNat) (c :: w) r h2 hr
  have a1 : takB keP s = B (c :: w) := L_inj (by rw [L_tak, e, L_B]; exact k.1)
  have a2 : drpB keP s = B r := L_inj (by rw [L_drp, e, L_B]; exact k.2)
  rw [a1, a2]
theorem key_inv {s k t : ByteArray} (h : rdKey s = some (k, t)) : L s = L k ++ L t ∧ KT (L k) := by
  unfold rdKey at h
  by_cases h0 : 0 < s.size ∧ (smP (bt s 0) = true ∨ bt s 0 = 42)
  · rw [if_pos h0] at h
    obtain ⟨rfl, rfl⟩ := Prod.mk.inj (Option.some.inj h)
    obtain ⟨c, r, e⟩ := cons_of s h0.1
    have h1 := h0.2
    rw [bt0 e] at h1
    have hw := L_tak keP s
    have hd := L_drp keP s
    have hsp := span_split (fun c : UInt8 => keP c.toNat) (L s)
    rw [← hw, ← hd] at hsp
    have hall : ∀ x ∈ L (takB keP s), keU x = true := tak_all keP s
    refine ⟨hsp.symm, c, r.takeWhile (fun c => keP c.toNat), ?_, h1, hall⟩
    rw [hw, e, List.takeWhile_cons, show keP c.toNat = true from (key_first c h1).1]; simp
  · rw [if_neg h0] at h; cases h
/-- What text turns what parameters to what. -/
inductive PT : List UInt8 → List S43 → List S43 → Prop
  | nil (l : List S43) : PT [] l l
  | flag (b k u : List UInt8) (l l1 : List S43) (hb : ∀ c ∈ b, c = 32) (hk : KT k) (h : PT u (withP (B k) l ⟨B k, 6, 1, ⟨#[]⟩⟩) l1) : PT (59 :: (b ++ (k ++ u))) l l1
  | val (b k w u : List UInt8) (n i : Int) (t : List UInt8) (l l1 : List S43) (hb : ∀ c ∈ b, c = 32) (hk : KT k) (hv : VT w n i t) (h : PT u (withP (B k) l ⟨B k, n, i, B t⟩) l1) : PT (59 :: (b ++ (k ++ (61 :: (w ++ u))))) l l1
theorem PT.ends {u : List UInt8} {l l1 : List S43} (h : PT u l l1) : Ends u := by
  cases h with
  | nil => exact Ends.nil
  | flag => exact Ends.semi _
  | val => exact Ends.semi _
theorem spaces (b k r : List UInt8) (hb : ∀ c ∈ b, c = 32) (hk : KT k) (s : ByteArray) (e : L s = b ++ (k ++ r)) : L (drpB spP s) = k ++ r := by
  obtain ⟨c, w, rfl, h1, h2⟩ := hk
  rw [L_drp, e]
  refine (takeW_app (fun c : UInt8 => spP c.toNat) b ((c :: w) ++ r) (fun x hx => by rw [hb x hx]; decide) (fun c' r' h => ?_)).2
  obtain ⟨rfl, _⟩ := List.cons.inj h
  have := (key_first c h1).2
  unfold spP
  rw [beq_eq_false_iff_ne]
  intro k
  exact this (u_eq k)
theorem pt_read {u : List UInt8} {l l1 : List S43} (h : PT u l l1) : ∀ (d : Nat) (s : ByteArray), u.length < d → L s = u → pF d s l = some (l1, B []) := by
  induction h with
  | nil l =>
    intro d s hd e
    obtain ⟨d, rfl⟩ : ∃ d', d = d' + 1 := ⟨d - 1, by simp at hd; omega⟩
    rw [pF, atF_nil e, if_neg (by decide)]
    have : s = B [] := L_inj (by rw [e, L_B])
    rw [this]
  | flag b k u l l1 hb hk h ih =>
    intro d s hd e
    obtain ⟨d, rfl⟩ : ∃ d', d = d' + 1 := ⟨d - 1, by simp at hd; omega⟩
    have e1 : L (tl s) = b ++ (k ++ u) := by rw [L_tl, e]; rfl
    rw [pF, atF_cons e, if_pos (by decide), key_read k u hk (h.ends.not keyU_59) _ (spaces b k u hb hk _ e1)]
    simp only [Option.bind_some]
    have a : atF (B u) 61 = false := by
      cases hu : u with
      | nil => exact atF_nil (L_B []) 61
      | cons x u' => rw [atF_cons (L_B (x :: u'))]; have := h.ends x u' hu; subst this; decide
    rw [a, if_neg (by decide)]
    exact ih d (B u) (by simp at hd; omega) (L_B u)
  | val b k w u n i t l l1 hb hk hv h ih =>
    intro d s hd e
    obtain ⟨d, rfl⟩ : ∃ d', d = d' + 1 := ⟨d - 1, by simp at hd; omega⟩
    have e1 : L (tl s) = b ++ (k ++ (61 :: (w ++ u))) := by rw [L_tl, e]; rfl
    rw [pF, atF_cons e, if_pos (by decide), key_read k (61 :: (w ++ u)) hk (fun c r' h => by cases h; decide +kernel) _ (spaces b k _ hb hk _ e1)]
    simp only [Option.bind_some]
    rw [atF_cons (L_B (61 :: (w ++ u))), if_pos (by decide), value_read hv u h.ends _ (by rw [L_tl, L_B]; rfl)]
    simp only [Option.bind_some]
    exact ih d (B u) (by simp at hd; omega) (L_B u)
theorem all_of_take {q : UInt8 → Bool} (l : List UInt8) : ∀ c ∈ l.takeWhile q, q c = true := fun c hc => mem_takeWhile q l c hc
theorem pt_inv : ∀ (d : Nat) (s : ByteArray) (l l1 : List S43) (t : ByteArray), pF d s l = some (l1, t) → ∃ u, L s = u ++ L t ∧ PT u l l1 ∧ atF t 59 = false
  | 0, s, l, l1, t, h => by rw [pF] at h; cases h
  | d + 1, s, l, l1, t, h => by
    rw [pF] at h
    cases e : atF s 59 with
    | false =>
      rw [e, if_neg (by decide)] at h
      obtain ⟨rfl, rfl⟩ := Prod.mk.inj (Option.some.inj h)
      exact ⟨[], rfl, PT.nil _, e⟩
    | true =>
      rw [e, if_pos rfl] at h
      obtain ⟨c, r, e1, e2⟩ := atF_ex e
      have : c = 59 := u_eq e2
      subst this
      have et : L (tl s) = r := by rw [L_tl, e1]; rfl
      obtain ⟨⟨k, t1⟩, hk, h⟩ := Option.bind_eq_some_iff.1 h
      simp only [] at h
      obtain ⟨a1, a2⟩ := key_inv hk
      have hsp := span_split (fun c : UInt8 => spP c.toNat) (L (tl s))
      rw [← L_drp spP (tl s), a1] at hsp
      have hb : ∀ c ∈ (L (tl s)).takeWhile (fun c : UInt8 => spP c.toNat), c = 32 := by
        intro c hc
        have := all_of_take (q := fun c : UInt8 => spP c.toNat) (L (tl s)) c hc
        unfold spP at this
        exact u_eq (beq_iff_eq.1 this)
      generalize List.takeWhile (fun c : UInt8 => spP c.toNat) (L (tl s)) = bl at hsp hb
      cases e3 : atF t1 61 with
      | true =>
        rw [e3, if_pos rfl] at h
        obtain ⟨⟨v, t2⟩, hv, h⟩ := Option.bind_eq_some_iff.1 h
        obtain ⟨c', r', f1, f2⟩ := atF_ex e3
        have : c' = 61 := u_eq f2
        subst this
        have et1 : L (tl t1) = r' := by rw [L_tl, f1]; rfl
        obtain ⟨w, b1, b2⟩ := value_inv hv
        obtain ⟨u, g1, g2, g3⟩ := pt_inv d _ _ _ _ h
        simp only [] at g1 g2
        refine ⟨59 :: (bl ++ (L k ++ (61 :: (w ++ u)))), ?_, PT.val _ _ w u v.1 v.2.1 (L v.2.2) _ _ hb a2 b2 (by rw [B_L, B_L]; exact g2), g3⟩
        rw [e1, ← et, ← hsp, f1, ← et1, b1, g1]
        simp
      | false =>
        rw [e3, if_neg (by decide)] at h
        obtain ⟨u, g1, g2, g3⟩ := pt_inv d _ _ _ _ h
        refine ⟨59 :: (bl ++ (L k ++ u)), ?_, PT.flag _ _ u _ _ hb a2 (by rw [B_L]; exact g2), g3⟩
        rw [e1, ← et, ← hsp, g1]
        simp
/-- What text tells what item. -/
def IT (u : List UInt8) (n i : Int) (t : List UInt8) (l : List S43) : Prop := ∃ a b, u = a ++ b ∧ VT a n i t ∧ PT b [] l
theorem next_read {u : List UInt8} {n i : Int} {t : List UInt8} {l : List S43} (h : IT u n i t l) (s : ByteArray) (e : L s = u) : rdNext s = some ((n, i, B t), l, B []) := by
  obtain ⟨a, b, rfl, hv, hp⟩ := h
  unfold rdNext
  rw [value_read hv b hp.ends s e]
  simp only [Option.bind_some]
  unfold rdParams
  rw [pt_read hp _ (B b) (by rw [size_L, L_B]; omega) (L_B b)]
  rfl
theorem next_inv {s : ByteArray} {v : Int × Int × ByteArray} {l : List S43} {t : ByteArray} (h : rdNext s = some (v, l, t)) : ∃ u, L s = u ++ L t ∧ IT u v.1 v.2.1 (L v.2.2) l ∧ atF t 59 = false := by
  unfold rdNext at h
  obtain ⟨⟨v', t1⟩, h1, h⟩ := Option.bind_eq_some_iff.1 h
  obtain ⟨⟨l', t2⟩, h2, h⟩ := Option.bind_eq_some_iff.1 h
  have h := Option.some.inj h
  simp only [Prod.mk.injEq] at h
  obtain ⟨rfl, rfl, rfl⟩ := h
  obtain ⟨a, a1, a2⟩ := value_inv h1
  obtain ⟨b, b1, b2, b3⟩ := pt_inv _ _ _ _ _ h2
  exact ⟨a ++ b, by rw [a1, b1]; simp, ⟨a, b, rfl, a2, b2⟩, b3⟩
end Go.Proofs.YtbbaokjkmcfceaaGreatDoor.Pl
/- Chapter 5: values' text, there and back. -/
namespace Go.Proofs.YtbbaokjkmcfceaaGreatDoor.Pl
open Go.RowKit Go.Proofs.YtbbaokjkmcfceaaGreatDoor.Q Go.Proofs.YtbbaokjkmcfceaaGreatDoor.Sf Go.Proofs.YtbbaokjkmcfceaaGreatDoorW.PrintWords Go.Proofs.YtbbaokjkmcfceaaGreatDoorW.PrintLast
set_option linter.unusedVariables false
set_option linter.unusedSimpArgs false
theorem numL_fold : ∀ (b : List UInt8) (acc : Nat), b.foldl (fun a c => a * 10 + (c.toNat - 48)) acc = acc * 10 ^ b.length + numL b
  | [], acc => by simp [numL]
  | c :: b, acc => by
    have h1 := numL_fold b (acc * 10 + (c.toNat - 48))
    have h2 := numL_fold b (0 * 10 + (c.toNat - 48))
    have e : numL (c :: b) = b.foldl (fun a c => a * 10 + (c.toNat - 48)) (0 * 10 + (c.toNat - 48)) := rfl
    rw [List.foldl_cons, h1, e, h2, List.length_cons, Nat.pow_succ]
    simp only [Nat.add_mul, Nat.zero_mul, Nat.zero_add, Nat.mul_assoc, Nat.mul_comm 10 (10 ^ b.length), Nat.add_assoc]
theorem numL_app (a b : List UInt8) : numL (a ++ b) = numL a * 10 ^ b.length + numL b := by
  have : numL (a ++ b) = b.foldl (fun a c => a * 10 + (c.toNat - 48)) (numL a) := by unfold numL; rw [List.foldl_append]
  rw [this, numL_fold]
theorem numL_bound (l : List UInt8) (h : ∀ c ∈ l, dgU c = true) : numL l < 10 ^ l.length := by
  have := num_bound l 0 h
  rw [Nat.zero_add, Nat.one_mul] at this
  exact this
theorem ofNat_dg (d : Nat) (h : d < 10) : dgU (UInt8.ofNat (48 + d)) = true ∧ (UInt8.ofNat (48 + d)).toNat - 48 = d := by
  have : ((List.range 10).all fun d => dgU (UInt8.ofNat (48 + d)) && decide ((UInt8.ofNat (48 + d)).toNat - 48 = d)) = true := by decide +kernel
  have := List.all_eq_true.1 this d (List.mem_range.2 h)
  simpa using this
theorem dec_all (u : Nat) : (∀ c ∈ Lib.decDigits u, dgU c = true) ∧ numL (Lib.decDigits u) = u := by
  induction u using Nat.strongRecOn with
  | _ u ih =>
    by_cases h : u < 10
    · rw [Lib.decDigits, dif_pos h]
      have := ofNat_dg u h
      exact ⟨fun c hc => by obtain rfl := List.mem_singleton.1 hc; exact this.1, by show 0 * 10 + ((UInt8.ofNat (48 + u)).toNat - 48) = u; rw [this.2]; omega⟩
    · rw [Lib.decDigits, dif_neg h]
      have k := ih (u / 10) (by omega)
      have d := ofNat_dg (u % 10) (by omega)
      refine ⟨fun c hc => ?_, ?_⟩
      · rcases List.mem_append.1 hc with hc | hc
        · exact k.1 c hc
        · obtain rfl := List.mem_singleton.1 hc; exact d.1
      · rw [numL_app, k.2]
        have : numL [UInt8.ofNat (48 + u % 10)] = u % 10 := by show 0 * 10 + ((UInt8.ofNat (48 + u % 10)).toNat - 48) = u % 10; rw [d.2]; omega
        rw [this]; simp; omega
theorem dec_ne (u : Nat) : Lib.decDigits u ≠ [] := by
  rw [Lib.decDigits]; split <;> simp
theorem dec_len : ∀ (n u : Nat), u < 10 ^ (n + 1) → (Lib.decDigits u).length ≤ n + 1
  | 0, u, h => by rw [Lib.decDigits, dif_pos (by simpa using h)]; simp
  | n + 1, u, h => by
    rw [Lib.decDigits]
    split
    · simp
    · have := dec_len n (u / 10) (by rw [Nat.pow_succ] at h; omega)
      simp; omega
def sgO (i : Int) : List UInt8 := if i < 0 then [45] else []
theorem sgO_or (i : Int) : sgO i = [] ∨ sgO i = [45] := by unfold sgO; split <;> simp
theorem sgO_val (i : Int) : sgV (sgO i) * (i.natAbs : Int) = i := by
  unfold sgO sgV; split <;> simp <;> omega
theorem itoa_L (i : Int) : L (itoaBA i) = sgO i ++ Lib.decDigits i.natAbs := by
  have : L (itoaBA i) = Lib.itoa i := by unfold L itoaBA; simp
  rw [this]; unfold Lib.itoa sgO
  split
  · rfl
  · rw [show i.toNat = i.natAbs by omega]; rfl
theorem L_toList (s : ByteArray) : s.toList = L s := Lib.toList_data s
theorem empty_of {t : ByteArray} (h : t.toList.isEmpty = true) : L t = [] := by rw [L_toList] at h; simpa using h
theorem int_back (i : Int) (h : -999999999999999 ≤ i ∧ i ≤ 999999999999999) : VT (L (itoaBA i)) 1 i [] := by
  have hd := dec_all i.natAbs
  have := VT.int (sgO i) (Lib.decDigits i.natAbs) (sgO_or i) (dec_ne _) hd.1 (dec_len 14 _ (by omega))
  rw [hd.2, sgO_val] at this
  rw [itoa_L]; exact this
def frL (r : Nat) : List UInt8 := let z := Lib.trimRightB [UInt8.ofNat (48 + r / 100), UInt8.ofNat (48 + r / 10 % 10), UInt8.ofNat (48 + r % 10)] 48; if z = [] then [48] else z
set_option maxRecDepth 100000 in
theorem fr_all : ((List.range 1000).all fun r => (frL r).all dgU && (decide (frL r ≠ []) && (decide ((frL r).length ≤ 3) && decide (numL (frL r ++ zerL (frL r).length) = r)))) = true := by decide +kernel
theorem fr_at (r : Nat) (h : r < 1000) : (∀ c ∈ frL r, dgU c = true) ∧ frL r ≠ [] ∧ (frL r).length ≤ 3 ∧ numL (frL r ++ zerL (frL r).length) = r := by
  have := List.all_eq_true.1 fr_all r (List.mem_range.2 h)
  simp only [Bool.and_eq_true, decide_eq_true_eq, List.all_eq_true] at this
  exact ⟨this.1, this.2.1, this.2.2.1, this.2.2.2⟩
theorem dec_thousand (r : Nat) (h : r < 1000) : Lib.decDigits (1000 + r) = [49, UInt8.ofNat (48 + r / 100), UInt8.ofNat (48 + r / 10 % 10), UInt8.ofNat (48 + r % 10)] := by
  rw [Lib.decDigits, dif_neg (by omega), Lib.decDigits, dif_neg (by omega), Lib.decDigits, dif_neg (by omega), Lib.decDigits, dif_pos (by omega)]
  rw [show (1000 + r) / 10 / 10 / 10 = 1 by omega, show (1000 + r) / 10 / 10 % 10 = r / 100 by omega, show (1000 + r) / 10 % 10 = r / 10 % 10 by omega, show (1000 + r) % 10 = r % 10 by omega]
  rfl
theorem trimZ_L (s : ByteArray) : L (trimZ s) = Lib.trimRightB (L s) 48 := by unfold trimZ L; simp
theorem frac_L (m : Nat) : L (fracB m) = frL (m % 1000) := by
  have h1 : L (itoaBA (1000 + Int.tmod (m : Int) 1000)) = Lib.decDigits (1000 + m % 1000) := by
    have e : (1000 + Int.tmod (m : Int) 1000) = ((1000 + m % 1000 : Nat) : Int) := by rw [Int.tmod_eq_emod_of_nonneg (by omega)]; omega
    rw [e, itoa_L]
    have : sgO ((1000 + m % 1000 : Nat) : Int) = [] := by unfold sgO; rw [if_neg (by omega)]
    rw [this, Int.natAbs_natCast]; rfl
  have h2 : L (tailZ (m : Int)) = Lib.trimRightB [UInt8.ofNat (48 + m % 1000 / 100), UInt8.ofNat (48 + m % 1000 / 10 % 10), UInt8.ofNat (48 + m % 1000 % 10)] 48 := by
    unfold tailZ
    rw [trimZ_L]
    have : L ((itoaBA (1000 + Int.tmod (m : Int) 1000)).extract 1 (itoaBA (1000 + Int.tmod (m : Int) 1000)).size) = (L (itoaBA (1000 + Int.tmod (m : Int) 1000))).tail := L_tl _
    rw [this, h1, dec_thousand _ (by omega)]; rfl
  unfold fracB frL
  simp only []
  by_cases hz : 0 < (tailZ (m : Int)).size
  · rw [if_pos hz]
    obtain ⟨c, r, e⟩ := cons_of _ hz
    rw [← h2, if_neg (by rw [e]; simp)]
  · rw [if_neg hz]
    have e : L (tailZ (m : Int)) = [] := by rw [size_L] at hz; exact List.length_eq_zero_iff.1 (by omega)
    rw [← h2, if_pos e]; rfl
theorem dec_L (i : Int) : L (decB i) = sgO i ++ (Lib.decDigits (i.natAbs / 1000) ++ 46 :: frL (i.natAbs % 1000)) := by
  have hm : magn i = (i.natAbs : Int) := by unfold magn; split <;> omega
  have hs : L (signB i) = sgO i := by unfold signB sgO; split <;> rfl
  unfold decB
  rw [L_app, L_app, L_app, hs, hm, frac_L, itoa_L]
  have e : Int.tdiv (i.natAbs : Int) 1000 = ((i.natAbs / 1000 : Nat) : Int) := by rw [Int.tdiv_eq_ediv_of_nonneg (by omega)]; omega
  have : sgO (((i.natAbs / 1000 : Nat)) : Int) = [] := by unfold sgO; rw [if_neg (by omega)]
  rw [e, this, Int.natAbs_natCast]
  show (sgO i ++ ([] ++ Lib.decDigits (i.natAbs / 1000))) ++ [46] ++ frL (i.natAbs % 1000) = _
  simp
theorem zer_len (n : Nat) (h : n ≤ 3) : (zerL n).length = 3 - n := by unfold zerL; simp
theorem dec_back (i : Int) (h : -999999999999999 ≤ i ∧ i ≤ 999999999999999) : VT (L (decB i)) 2 i [] := by
  have hd := dec_all (i.natAbs / 1000)
  have hf := fr_at (i.natAbs % 1000) (by omega)
  have := VT.dec (sgO i) (Lib.decDigits (i.natAbs / 1000)) (frL (i.natAbs % 1000)) (sgO_or i) (dec_ne _) hd.1 (dec_len 11 _ (by omega)) hf.2.1 hf.1 hf.2.2.1
  have hn : numL (Lib.decDigits (i.natAbs / 1000) ++ (frL (i.natAbs % 1000) ++ zerL (frL (i.natAbs % 1000)).length)) = i.natAbs := by
    rw [numL_app, hd.2, hf.2.2.2, List.length_append, zer_len _ hf.2.2.1]
    rw [show (frL (i.natAbs % 1000)).length + (3 - (frL (i.natAbs % 1000)).length) = 3 by have := hf.2.2.1; omega]
    omega
  rw [hn, sgO_val] at this
  rw [dec_L]; exact this
def esc (t : List UInt8) : List UInt8 := t.flatMap fun c => if c.toNat = 34 ∨ c.toNat = 92 then [92, c] else [c]
def Plain (t : List UInt8) : Prop := ∀ c ∈ t, 32 ≤ c.toNat ∧ c.toNat ≤ 126
theorem q_esc : ∀ t : List UInt8, Plain t → QT (esc t ++ [34]) t
  | [], _ => QT.stop
  | c :: t, h => by
    have ih := q_esc t (fun x hx => h x (List.mem_cons_of_mem _ hx))
    have hc := h c (List.mem_cons_self ..)
    unfold esc
    rw [List.flatMap_cons]
    by_cases k : c.toNat = 34 ∨ c.toNat = 92
    · rw [if_pos k]; exact QT.esc c _ t k ih
    · rw [if_neg k]; exact QT.plain c _ t hc.1 hc.2 (fun e => k (Or.inl e)) (fun e => k (Or.inr e)) ih
theorem esc_len (t : List UInt8) : (esc t).length ≤ 2 * t.length := by
  induction t with
  | nil => simp [esc]
  | cons c t ih =>
    have e : esc (c :: t) = (if c.toNat = 34 ∨ c.toNat = 92 then [92, c] else [c]) ++ esc t := by unfold esc; rw [List.flatMap_cons]
    rw [e, List.length_append, List.length_cons]
    have : (if c.toNat = 34 ∨ c.toNat = 92 then [92, c] else [c]).length ≤ 2 := by split <;> simp
    omega
theorem bt_get (t : ByteArray) (k : Nat) (h : k < (L t).length) : bt t k = ((L t)[k].toNat : Int) := bt_list t k h
theorem take_snoc {α : Type} (l : List α) (k : Nat) (h : k < l.length) : l.take (k + 1) = l.take k ++ [l[k]] := by
  rw [List.take_add_one, List.getElem?_eq_getElem h]; rfl
theorem qOut_eq (t : ByteArray) : ∀ k : Nat, k ≤ (L t).length → Plain ((L t).take k) → qOut t k = some (B (34 :: esc ((L t).take k)))
  | 0, _, _ => by rw [qOut]; rfl
  | k + 1, hk, hp => by
    have hk' : k < (L t).length := by omega
    rw [take_snoc _ _ hk'] at hp
    have ih := qOut_eq t k (by omega) (fun c hc => hp c (List.mem_append.2 (Or.inl hc)))
    have hc := hp _ (List.mem_append.2 (Or.inr (List.mem_singleton.2 rfl)))
    rw [qOut, ih]
    simp only [Option.bind_some]
    rw [bt_get t k hk', if_neg (by omega), wiQ, take_snoc _ _ hk']
    congr 1
    apply L_inj
    rw [L_app, L_B]
    have e1 : L (strOfNums [((L t)[k].toNat : Int)]) = [(L t)[k]] := by
      have := num_app [] (L t)[k] [] rfl
      simpa using this
    have e2 : esc ((L t).take k ++ [(L t)[k]]) = esc ((L t).take k) ++ (if (L t)[k].toNat = 34 ∨ (L t)[k].toNat = 92 then [92, (L t)[k]] else [(L t)[k]]) := by
      unfold esc; rw [List.flatMap_append, List.flatMap_singleton]
    rw [e1, e2]
    by_cases z : (L t)[k].toNat = 34 ∨ (L t)[k].toNat = 92
    · rw [decide_eq_true z, if_pos rfl, if_pos z, L_app, L_B]
      show (34 :: esc ((L t).take k)) ++ [92] ++ [(L t)[k]] = _
      simp
    · rw [decide_eq_false z, if_neg (by decide), if_neg z, L_B]; simp
theorem qOut_bad (t : ByteArray) (j : Nat) (hj : j < (L t).length) (h : ¬ (32 ≤ (L t)[j].toNat ∧ (L t)[j].toNat ≤ 126)) : qOut t t.size = none := by
  refine qOut_none t (j + 1) ?_ t.size (by rw [size_L]; omega)
  rw [qOut, bt_get t j hj]
  cases qOut t j with
  | none => rfl
  | some o => rw [Option.bind_some, if_pos (by omega)]
theorem text_plain (t : ByteArray) (i : Int) (h : Plain (L t)) : textF i t = (B (34 :: (esc (L t) ++ [34])), i == 0) := by
  unfold textF
  rw [size_L, qOut_eq t _ (Nat.le_refl _) (by rw [List.take_length]; exact h), List.take_length]
  simp only []
  have : (B (34 :: esc (L t)) ++ (⟨#[34]⟩ : ByteArray)) = B (34 :: (esc (L t) ++ [34])) := by
    apply L_inj
    rw [L_app, L_B, L_B]
    rfl
  rw [this]
theorem text_bad (t : ByteArray) (i : Int) (h : ¬ Plain (L t)) : textF i t = (⟨#[]⟩, false) := by
  unfold textF
  have : ∃ j, ∃ hj : j < (L t).length, ¬ (32 ≤ (L t)[j].toNat ∧ (L t)[j].toNat ≤ 126) := by
    refine Classical.byContradiction fun k => h fun c hc => ?_
    obtain ⟨j, hj, rfl⟩ := List.mem_iff_getElem.1 hc
    exact Classical.byContradiction fun z => k ⟨j, hj, z⟩
  obtain ⟨j, hj, hb⟩ := this
  rw [qOut_bad t j hj hb]
theorem and_odd (x : Nat) (h : x &&& 18446744073709551614 = 0) (hx : x < 18446744073709551616) : x < 2 := by
  have h1 : (x &&& 18446744073709551614) >>> 1 = 0 := by rw [h]; rfl
  rw [Nat.shiftRight_and_distrib] at h1
  have h2 : (18446744073709551614 : Nat) >>> 1 = 2 ^ 63 - 1 := by decide
  rw [h2, Nat.and_two_pow_sub_one_eq_mod, show x >>> 1 = x / 2 from rfl] at h1
  omega
theorem flag_of (i : Int) (h : -999999999999999 ≤ i ∧ i ≤ 999999999999999) (hb : (Go.bits .andNot .i64 i 1 == 0) = true) : i = 0 ∨ i = 1 := by
  have hb := beq_iff_eq.1 hb
  have e : Go.bits .andNot .i64 i 1 = IntKind.i64.wrap ((BitVec.ofInt 64 i &&& ~~~BitVec.ofInt 64 1).toNat : Int) := rfl
  rw [e] at hb
  have hx : (BitVec.ofInt 64 i).toNat = (i % 18446744073709551616).toNat := by rw [BitVec.toNat_ofInt]; rfl
  have hy : (~~~BitVec.ofInt 64 1).toNat = 18446744073709551614 := by decide
  rw [BitVec.toNat_and, hy, hx] at hb
  have hl : (i % 18446744073709551616).toNat < 18446744073709551616 := by omega
  have hz : (i % 18446744073709551616).toNat &&& 18446744073709551614 < 18446744073709551616 := Nat.lt_of_le_of_lt Nat.and_le_left hl
  have := and_odd _ ?_ hl
  · omega
  · generalize (i % 18446744073709551616).toNat &&& 18446744073709551614 = m at hb hz
    rw [IntKind.wrap_i64] at hb
    first | omega | (split at hb <;> omega)
end Go.Proofs.YtbbaokjkmcfceaaGreatDoor.Pl
/- Chapter 5: values, parameters and items, there and back. -/
namespace Go.Proofs.YtbbaokjkmcfceaaGreatDoor.Pl
open Go.RowKit Go.Proofs.YtbbaokjkmcfceaaGreatDoor.Q Go.Proofs.YtbbaokjkmcfceaaGreatDoor.Sf Go.Proofs.YtbbaokjkmcfceaaGreatDoorW.PrintWords Go.Proofs.YtbbaokjkmcfceaaGreatDoorW.PrintLast
set_option linter.unusedVariables false
set_option linter.unusedSimpArgs false
/-- A text that is one whole value. -/
theorem whole_of {s : ByteArray} {n i : Int} {t : List UInt8} (h : VT (L s) n i t) (hz : s.size ≤ 2199023255552) (m : Int) : sfitem_whole.f s m = some (decide (n = m)) := by
  have hn := next_read ⟨L s, [], by simp, h, PT.nil []⟩ s rfl
  unfold sfitem_whole.f sfitem_Next.f
  rw [if_pos hz, hn]
  simp only [Option.bind_some]
  rw [if_pos trivial, if_pos (by rw [L_toList, L_B])]
  by_cases e : n = m
  · rw [if_pos e, decide_eq_true e]; rfl
  · rw [if_neg e, decide_eq_false e]
theorem pt_some {u : List UInt8} {l l1 : List S43} (h : PT u l l1) : l ≠ [] → l1 ≠ [] := by
  induction h with
  | nil => exact id
  | flag b k u l l1 hb hk h ih => exact fun hl => ih (by unfold withP; split <;> simp [hl])
  | val b k w u n i t l l1 hb hk hv h ih => exact fun hl => ih (by unfold withP; split <;> simp [hl])
theorem with_nil (k : ByteArray) (p : S43) : withP k [] p = [p] := rfl
theorem pt_none {u : List UInt8} (h : PT u [] []) : u = [] := by
  cases h with
  | nil => rfl
  | flag b k u l l1 hb hk h => exact absurd rfl (pt_some h (by rw [with_nil]; simp))
  | val b k w u n i t l l1 hb hk hv h => exact absurd rfl (pt_some h (by rw [with_nil]; simp))
theorem whole_inv {s : ByteArray} {m : Int} (h : sfitem_whole.f s m = some true) : ∃ i t, VT (L s) m i t := by
  unfold sfitem_whole.f sfitem_Next.f at h
  by_cases hz : s.size ≤ 2199023255552
  · rw [if_pos hz] at h
    cases hn : rdNext s with
    | none => rw [hn] at h; simp at h
    | some x =>
      obtain ⟨v, l, t⟩ := x
      rw [hn] at h
      simp only [Option.bind_some] at h
      rw [if_pos trivial] at h
      by_cases ht : t.toList = ([] : List UInt8)
      · rw [if_pos ht] at h
        by_cases hm : v.1 = m
        · rw [if_pos hm] at h
          have hl : l = [] := by simpa using h
          obtain ⟨u, a1, ⟨a, b, rfl, hv, hp⟩, a3⟩ := next_inv hn
          rw [L_toList] at ht
          rw [ht, List.append_nil] at a1
          subst hl
          have hb : b = [] := pt_none hp
          subst hb
          rw [List.append_nil] at a1
          refine ⟨v.2.1, L v.2.2, ?_⟩
          rw [a1, ← hm]; exact hv
        · rw [if_neg hm] at h; cases h
      · rw [if_neg ht] at h; simp at h
  · rw [if_neg hz] at h; simp at h
theorem tok_inv {u : List UInt8} {i : Int} {t : List UInt8} (h : VT u 4 i t) : i = 0 ∧ t = u := by
  generalize hn : (4 : Int) = n at h
  cases h <;> first | exact ⟨rfl, rfl⟩ | (exfalso; revert hn; decide)
theorem byt_inv {u : List UInt8} {i : Int} {t : List UInt8} (h : VT u 5 i t) : i = 0 ∧ u = 58 :: (t ++ [58]) := by
  generalize hn : (5 : Int) = n at h
  cases h <;> first | exact ⟨rfl, rfl⟩ | (exfalso; revert hn; decide)
/-- What a value's text tells is the value. -/
theorem value_back (k : ByteArray) (n i : Int) (t o : ByteArray) (h : sfitem_value.f k n i t = some (o, true)) : VT (L o) n i (L t) := by
  unfold sfitem_value.f at h
  by_cases hz : t.size ≤ 2199023255540
  · rw [if_neg (by omega)] at h
    by_cases hi : i < -999999999999999 ∨ 999999999999999 < i
    · rw [if_pos hi] at h; simp at h
    rw [if_neg hi] at h
    have hi' : -999999999999999 ≤ i ∧ i ≤ 999999999999999 := by omega
    by_cases h1 : n = 1
    · rw [if_pos h1] at h
      have h := Option.some.inj h
      simp only [Prod.mk.injEq] at h
      rw [h1, ← h.1, empty_of h.2]; exact int_back i hi'
    rw [if_neg h1] at h
    by_cases h2 : n = 2
    · rw [if_pos h2] at h
      have h := Option.some.inj h
      simp only [Prod.mk.injEq] at h
      rw [h2, ← h.1, empty_of h.2]; exact dec_back i hi'
    rw [if_neg h2] at h
    by_cases h6 : n = 6
    · rw [if_pos h6] at h
      by_cases ht : (t.toList == ([] : List UInt8)) = true
      · rw [if_pos ht] at h
        have h := Option.some.inj h
        simp only [Prod.mk.injEq] at h
        rw [h6, ← h.1, show L t = [] by rw [L_toList] at ht; simpa using ht]
        rcases flag_of i hi' h.2 with rfl | rfl
        · rw [itoa_0]; exact VT.zero
        · rw [itoa_1]; exact VT.one
      · rw [if_neg ht] at h; simp at h
    rw [if_neg h6] at h
    by_cases h3 : n = 3
    · rw [if_pos h3] at h
      have h := Option.some.inj h
      by_cases hp : Plain (L t)
      · rw [text_plain t i hp] at h
        simp only [Prod.mk.injEq, beq_iff_eq] at h
        rw [h3, ← h.1, h.2, L_B]
        exact VT.quo _ _ (q_esc _ hp)
      · rw [text_bad t i hp] at h; simp at h
    rw [if_neg h3] at h
    by_cases h4 : n = 4
    · rw [if_pos h4] at h
      by_cases h0 : i = 0
      · rw [if_pos h0] at h
        obtain ⟨b, hb, h⟩ := Option.bind_eq_some_iff.1 h
        have h := Option.some.inj h
        simp only [Prod.mk.injEq] at h
        obtain ⟨rfl, rfl⟩ := h
        obtain ⟨i', t', hv⟩ := whole_inv hb
        obtain ⟨rfl, rfl⟩ := tok_inv hv
        rw [h4, h0]; exact hv
      · rw [if_neg h0] at h; simp at h
    rw [if_neg h4] at h
    by_cases h5 : n = 5
    · rw [if_pos h5] at h
      by_cases h0 : i = 0
      · rw [if_pos h0] at h
        obtain ⟨b, hb, h⟩ := Option.bind_eq_some_iff.1 h
        have h := Option.some.inj h
        simp only [Prod.mk.injEq] at h
        obtain ⟨rfl, rfl⟩ := h
        obtain ⟨i', t', hv⟩ := whole_inv hb
        have e : L (((⟨#[58]⟩ : ByteArray) ++ t) ++ (⟨#[58]⟩ : ByteArray)) = 58 :: (L t ++ [58]) := by rw [L_app, L_app]; rfl
        rw [e] at hv ⊢
        obtain ⟨rfl, hu⟩ := byt_inv hv
        have : L t = t' := by simpa using hu
        rw [this] at hv ⊢
        rw [h5, h0]; exact hv
      · rw [if_neg h0] at h; simp at h
    rw [if_neg h5] at h; simp at h
  · rw [if_pos hz] at h; cases h
end Go.Proofs.YtbbaokjkmcfceaaGreatDoor.Pl
/- Chapter 5: an item is the same as itself; how many parameters a text has. -/
namespace Go.Proofs.YtbbaokjkmcfceaaGreatDoor.Pl
open Go.RowKit Go.Proofs.YtbbaokjkmcfceaaGreatDoor.Q Go.Proofs.YtbbaokjkmcfceaaGreatDoor.Sf Go.Proofs.YtbbaokjkmcfceaaGreatDoorW.PrintWords Go.Proofs.YtbbaokjkmcfceaaGreatDoorW.PrintLast
set_option linter.unusedVariables false
set_option linter.unusedSimpArgs false
theorem wrap_next (j : Nat) (h : j ≤ 100000) : wrap64 ((j : Int) + 1) = ((j + 1 : Nat) : Int) := by
  unfold wrap64; omega
end Go.Proofs.YtbbaokjkmcfceaaGreatDoor.Pl
/- Chapter 5: parameters' text, there and back. -/
namespace Go.Proofs.YtbbaokjkmcfceaaGreatDoor.Pl
open Go.RowKit Go.Proofs.YtbbaokjkmcfceaaGreatDoor.Q Go.Proofs.YtbbaokjkmcfceaaGreatDoor.Sf Go.Proofs.YtbbaokjkmcfceaaGreatDoorW.PrintWords Go.Proofs.YtbbaokjkmcfceaaGreatDoorW.PrintLast
set_option linter.unusedVariables false
set_option linter.unusedSimpArgs false
theorem rd_at5 (l : List S43) (j : Nat) (h : j < l.length) : rd_T43 l (j : Int) = l[j] := by
  unfold rd_T43; simp [List.getD_eq_getElem?_getD, h]
theorem flag_inv {u : List UInt8} {i : Int} {t : List UInt8} (h : VT u 6 i t) (hi : i ≠ 0) : i = 1 ∧ t = [] := by
  generalize hn : (6 : Int) = n at h
  cases h <;> first | exact ⟨rfl, rfl⟩ | exact absurd rfl hi | (exfalso; revert hn; decide)
theorem inL_iff (s : ByteArray) (seen : List ByteArray) : inL s seen = true ↔ s ∈ seen := by
  unfold inL
  rw [List.any_eq_true]
  constructor
  · rintro ⟨y, hy, e⟩; rw [← of_decide_eq_true e]; exact hy
  · intro h; exact ⟨s, h, by simp⟩
theorem key_all {k : ByteArray} (h1 : (keyF k).2.2 = 0) (h2 : (keyF k).2.1.toList = []) : KT (L k) := by
  unfold keyF at h1 h2
  cases hk : rdKey k with
  | none => rw [hk] at h1; simp at h1
  | some x =>
    obtain ⟨a, t⟩ := x
    rw [hk] at h2
    simp only [] at h2
    obtain ⟨b1, b2⟩ := key_inv hk
    rw [L_toList] at h2
    rw [h2, List.append_nil] at b1
    rw [b1]; exact b2
theorem key_ok {k : ByteArray} (h : KT (L k)) : (keyF k).2.2 = 0 ∧ (keyF k).2.1.toList = [] := by
  have := key_read (L k) [] h (fun c r' e => by cases e) k (by simp)
  unfold keyF
  rw [this]
  exact ⟨rfl, by rw [L_toList, L_B]⟩
theorem bad_not {p : S43} {b : Bool} {seen : List ByteArray} (h : badP p b seen = false) : KT (L p.f0) ∧ b = true ∧ p.f0 ∉ seen := by
  unfold badP at h
  simp only [Bool.or_eq_false_iff, bne_eq_false_iff_eq, Bool.not_eq_false'] at h
  refine ⟨key_all h.1 h.2.1, h.2.2.1, fun k => ?_⟩
  rw [(inL_iff _ _).2 k] at h
  exact absurd h.2.2.2 (by decide)
theorem bad_of {p : S43} {b : Bool} {seen : List ByteArray} (h1 : KT (L p.f0)) (h2 : b = true) (h3 : p.f0 ∉ seen) : badP p b seen = false := by
  have k := key_ok h1
  have : inL p.f0 seen = false := by
    cases e : inL p.f0 seen with
    | false => rfl
    | true => exact absurd ((inL_iff _ _).1 e) h3
  unfold badP
  rw [k.1, k.2, h2, this]; rfl
theorem part_L (p : S43) (o v : ByteArray) : L (partT p o v) = L o ++ (if p.f1 ≠ 6 ∨ p.f2 = 0 then 59 :: (L p.f0 ++ (61 :: L v)) else 59 :: L p.f0) := by
  unfold partT
  split
  · rw [L_app, L_app, L_app, L_app]
    show (L o ++ ([59] ++ L p.f0)) ++ ([61] ++ L v) = _
    simp
  · rw [L_app, L_app]
    show L o ++ ([59] ++ L p.f0) = _
    simp
end Go.Proofs.YtbbaokjkmcfceaaGreatDoor.Pl
/- Chapter 5: any value, any parameters and any item of few short texts have an answer; what they tell is read as itself. -/
namespace Go.Proofs.YtbbaokjkmcfceaaGreatDoor.Pl
open Go.RowKit Go.Proofs.YtbbaokjkmcfceaaGreatDoor.Q Go.Proofs.YtbbaokjkmcfceaaGreatDoor.Sf Go.Proofs.YtbbaokjkmcfceaaGreatDoorW.PrintWords Go.Proofs.YtbbaokjkmcfceaaGreatDoorW.PrintLast
set_option linter.unusedVariables false
set_option linter.unusedSimpArgs false
theorem whole_any (s : ByteArray) (m : Int) (hz : s.size ≤ 2199023255552) : ∃ b, sfitem_whole.f s m = some b := by
  unfold sfitem_whole.f sfitem_Next.f
  rw [if_pos hz]
  cases rdNext s with
  | none => exact ⟨false, by simp⟩
  | some x =>
    obtain ⟨v, l, t⟩ := x
    simp only [Option.bind_some]
    rw [if_pos trivial]
    split
    · split
      · exact ⟨_, rfl⟩
      · exact ⟨_, rfl⟩
    · exact ⟨_, rfl⟩
theorem itoa_len (i : Int) (h : -999999999999999 ≤ i ∧ i ≤ 999999999999999) : (itoaBA i).size ≤ 16 := by
  rw [size_L, itoa_L, List.length_append]
  have h1 : (sgO i).length ≤ 1 := by unfold sgO; split <;> simp
  have h2 := dec_len 14 i.natAbs (by omega)
  omega
theorem dec_size (i : Int) (h : -999999999999999 ≤ i ∧ i ≤ 999999999999999) : (decB i).size ≤ 20 := by
  rw [size_L, dec_L, List.length_append, List.length_append, List.length_cons]
  have h1 : (sgO i).length ≤ 1 := by unfold sgO; split <;> simp
  have h2 := dec_len 11 (i.natAbs / 1000) (by omega)
  have h3 := (fr_at (i.natAbs % 1000) (by omega)).2.2.1
  omega
/-- Any value has an answer, of at most so many bytes. -/
theorem value_any (k : ByteArray) (n i : Int) (t : ByteArray) (ht : t.size ≤ 1000) : ∃ o b, sfitem_value.f k n i t = some (o, b) ∧ o.size ≤ 2 * t.size + 20 := by
  have z0 : (⟨#[]⟩ : ByteArray).size = 0 := rfl
  unfold sfitem_value.f
  rw [if_neg (by omega)]
  by_cases hi : i < -999999999999999 ∨ 999999999999999 < i
  · rw [if_pos hi]; exact ⟨_, _, rfl, by omega⟩
  rw [if_neg hi]
  have hi' : -999999999999999 ≤ i ∧ i ≤ 999999999999999 := by omega
  have l1 := itoa_len i hi'
  have l2 := dec_size i hi'
  by_cases h1 : n = 1
  · rw [if_pos h1]; exact ⟨_, _, rfl, by omega⟩
  rw [if_neg h1]
  by_cases h2 : n = 2
  · rw [if_pos h2]; exact ⟨_, _, rfl, by omega⟩
  rw [if_neg h2]
  by_cases h6 : n = 6
  · rw [if_pos h6]
    have z1 : ((⟨#[63]⟩ : ByteArray) ++ itoaBA i).size = 1 + (itoaBA i).size := by rw [ByteArray.size_append]; rfl
    split
    · exact ⟨_, _, rfl, by omega⟩
    · exact ⟨_, _, rfl, by omega⟩
  rw [if_neg h6]
  by_cases h3 : n = 3
  · rw [if_pos h3]
    by_cases hp : Plain (L t)
    · rw [text_plain t i hp]
      refine ⟨_, _, rfl, ?_⟩
      have := esc_len (L t)
      rw [size_L] at ht ⊢
      rw [L_B]
      simp only [List.length_cons, List.length_append, List.length_nil]
      rw [size_L]
      omega
    · rw [text_bad t i hp]; exact ⟨_, _, rfl, by omega⟩
  rw [if_neg h3]
  by_cases h4 : n = 4
  · rw [if_pos h4]
    by_cases h0 : i = 0
    · rw [if_pos h0]
      obtain ⟨b, hb⟩ := whole_any t 4 (by omega)
      rw [hb]; exact ⟨_, _, rfl, by omega⟩
    · rw [if_neg h0]; exact ⟨_, _, rfl, by omega⟩
  rw [if_neg h4]
  by_cases h5 : n = 5
  · rw [if_pos h5]
    have z2 : (((⟨#[58]⟩ : ByteArray) ++ t) ++ (⟨#[58]⟩ : ByteArray)).size = 1 + t.size + 1 := by rw [ByteArray.size_append, ByteArray.size_append]; rfl
    by_cases h0 : i = 0
    · rw [if_pos h0]
      obtain ⟨b, hb⟩ := whole_any (((⟨#[58]⟩ : ByteArray) ++ t) ++ (⟨#[58]⟩ : ByteArray)) 5 (by omega)
      rw [hb]; exact ⟨_, _, rfl, by omega⟩
    · rw [if_neg h0]; exact ⟨_, _, rfl, by omega⟩
  rw [if_neg h5]; exact ⟨_, _, rfl, by omega⟩
/-- Few short texts. -/
def Short (p : S43) : Prop := p.f0.size ≤ 1000 ∧ p.f3.size ≤ 1000
theorem part_size (p : S43) (o v : ByteArray) : (partT p o v).size ≤ o.size + p.f0.size + v.size + 2 := by
  have := part_L p o v
  rw [size_L, this, List.length_append, size_L, size_L, size_L]
  split
  · simp only [List.length_cons, List.length_append]; omega
  · simp only [List.length_cons]; omega
theorem tail_any : ∀ (ps : List S43) (seen : List ByteArray) (o : ByteArray), (∀ q ∈ ps, Short q) → o.size + ps.length * 4000 ≤ 1000000 → ∃ o' e, tailF ps seen o = some (o', e) ∧ o'.size ≤ o.size + ps.length * 4000
  | [], seen, o, _, _ => ⟨o, 0, by rw [tailF], by omega⟩
  | p :: ps, seen, o, hf, hz => by
    have hp := hf p (List.mem_cons_self ..)
    obtain ⟨v, b, hv, hvz⟩ := value_any p.f0 p.f1 p.f2 p.f3 hp.2
    have hp1 := hp.1
    have hp2 := hp.2
    rw [List.length_cons] at hz ⊢
    rw [tailF, hv]
    simp only [Option.bind_some]
    rw [if_neg (by simp only [Decidable.not_not]; refine ⟨by omega, by omega, by omega⟩)]
    have z0 : (⟨#[]⟩ : ByteArray).size = 0 := rfl
    by_cases hb : badP p b seen = true
    · rw [if_pos hb]; exact ⟨_, _, rfl, by omega⟩
    · rw [if_neg hb]
      have hs := part_size p o v
      obtain ⟨o', e, h1, h2⟩ := tail_any ps (p.f0 :: seen) (partT p o v) (fun q hq => hf q (List.mem_cons_of_mem _ hq)) (by omega)
      exact ⟨o', e, h1, by omega⟩
end Go.Proofs.YtbbaokjkmcfceaaGreatDoor.Pl
/- Chapter 5: what the document's own reader gives is what the program's reader gives. -/
namespace Go.Proofs.YtbbaokjkmcfceaaGreatDoor.Pl
open Go.RowKit Go.Proofs.YtbbaokjkmcfceaaGreatDoor.Q Go.Proofs.YtbbaokjkmcfceaaGreatDoor.Sf Go.Proofs.YtbbaokjkmcfceaaGreatDoorW.PrintWords Go.Proofs.YtbbaokjkmcfceaaGreatDoorW.PrintLast
set_option linter.unusedVariables false
set_option linter.unusedSimpArgs false
theorem up {α : Type} {f : Nat → Option α} (hm : ∀ k, LeO (f k) (f (k + 1))) {k0 : Nat} {r : α} (h : f k0 = some r) : ∀ k, k0 ≤ k → f k = some r := by
  intro k hk
  induction k with
  | zero => obtain rfl : k0 = 0 := by omega
            exact h
  | succ k ih =>
    rcases Nat.lt_or_ge k k0 with c | c
    · obtain rfl : k0 = k + 1 := by omega
      exact h
    · exact hm k r (ih c)
theorem bt_u (s : ByteArray) (j : Nat) (h : j < s.size) : ∃ c : UInt8, bt s (j : Int) = (c.toNat : Int) := by
  have hl : j < s.data.toList.length := by rw [← Lib.size_eq]; exact h
  exact ⟨_, bt_list s j hl⟩
theorem letter_u (c : UInt8) : glacisref01_Letter.f c.toNat = some (leP c.toNat) :=
  of_decide_eq_true (allU (fun c : UInt8 => decide (glacisref01_Letter.f c.toNat = some (leP c.toNat))) (by decide +kernel) c)
theorem digit_u (c : UInt8) : glacisref01_Digit.f c.toNat = some (dgP c.toNat) :=
  of_decide_eq_true (allU (fun c : UInt8 => decide (glacisref01_Digit.f c.toNat = some (dgP c.toNat))) (by decide +kernel) c)
theorem base_u (c : UInt8) : glacisref05_base.f c.toNat = some (baP c.toNat) :=
  of_decide_eq_true (allU (fun c : UInt8 => decide (glacisref05_base.f c.toNat = some (baP c.toNat))) (by decide +kernel) c)
theorem tokens_u (c : UInt8) (k : Nat) (hk : 16 ≤ k) : glacisref05_tokens.f k c.toNat = some (tokP c.toNat) := by
  have h := of_decide_eq_true (allU (fun c : UInt8 => decide (glacisref05_tokens.f 16 c.toNat = some (tokP c.toNat))) (by decide +kernel) c)
  exact up (f := fun k => glacisref05_tokens.f k c.toNat) (fun k => glacisref05_tokens.mono _ k) h k hk
theorem small_u (c : UInt8) : glacisref05_small.f c.toNat true = some (smP c.toNat || decide ((c.toNat : Int) = 42)) :=
  of_decide_eq_true (allU (fun c : UInt8 => decide (glacisref05_small.f c.toNat true = some (smP c.toNat || decide ((c.toNat : Int) = 42)))) (by decide +kernel) c)
theorem small_v (c : UInt8) : glacisref05_small.f c.toNat false = some (keP c.toNat) :=
  of_decide_eq_true (allU (fun c : UInt8 => decide (glacisref05_small.f c.toNat false = some (keP c.toNat))) (by decide +kernel) c)
theorem L_ext (s : ByteArray) (a : Nat) : L (s.extract a s.size) = (L s).drop a := by
  unfold L
  rw [Lib.extract_data, Lib.size_eq, List.take_of_length_le (by simp)]
theorem L_ext0 (s : ByteArray) (a : Nat) : L (s.extract 0 a) = (L s).take a := by
  unfold L
  rw [Lib.extract_data]; simp
theorem L_extm (s : ByteArray) (a b : Nat) : L (s.extract a b) = ((L s).drop a).take (b - a) := by
  unfold L
  rw [Lib.extract_data]
theorem bt_L (s : ByteArray) (j : Nat) (h : j < (L s).length) : bt s (j : Int) = ((L s)[j].toNat : Int) := bt_list s j h
theorem drop_cons (l : List UInt8) (n : Nat) (h : n < l.length) : l.drop n = l[n] :: l.drop (n + 1) := List.drop_eq_getElem_cons h
theorem atF_ext (s : ByteArray) (n : Nat) (c : Int) : atF (s.extract n s.size) c = decide (n < s.size ∧ bt s (n : Int) = c) := by
  by_cases h : n < s.size
  · have hl : n < (L s).length := by rw [← size_L]; exact h
    have e : L (s.extract n s.size) = (L s)[n] :: (L s).drop (n + 1) := by rw [L_ext, drop_cons _ _ hl]
    rw [atF_cons e, bt_L s n hl]
    simp [h]
  · have e : L (s.extract n s.size) = [] := by rw [L_ext]; exact List.drop_eq_nil_of_le (by rw [← size_L]; omega)
    rw [atF_nil e]
    simp [h]
theorem tl_ext (s : ByteArray) (n : Nat) : tl (s.extract n s.size) = s.extract (n + 1) s.size := by
  apply L_inj
  rw [L_tl, L_ext, L_ext]; simp
theorem drp_is (p : Int → Bool) (s : ByteArray) : drpB p s = s.extract (spanB p s) s.size := rfl
theorem tl_is (s : ByteArray) : tl s = s.extract 1 s.size := rfl
theorem bt_tl (s : ByteArray) (j : Nat) (h : j + 1 < s.size) : bt (tl s) (j : Int) = bt s ((j + 1 : Nat) : Int) := by
  have h1 : j + 1 < (L s).length := by rw [← size_L]; exact h
  have h2 : j < (L (tl s)).length := by rw [L_tl, List.length_tail]; omega
  rw [bt_L _ _ h2, bt_L _ _ h1]
  have : (L (tl s))[j] = (L s)[j + 1] := by simp [L_tl]
  rw [this]
theorem digits_l (s : ByteArray) (hs : s.size ≤ 100000) : ∀ (m x k : Nat), x + m = s.size → m < k → (∀ j : Nat, j < x → dgP (bt s j) = true) → glacisref05_digits.l0 k s (x : Int) = some (spanB dgP s : Int)
  | 0, x, k, hm, hk, hj => by
    obtain ⟨k, rfl⟩ : ∃ k', k = k' + 1 := ⟨k - 1, by omega⟩
    rw [glacisref05_digits.l0, if_neg (by omega), span_eq dgP s x (by omega) hj (fun h => by omega)]
  | m + 1, x, k, hm, hk, hj => by
    obtain ⟨k, rfl⟩ : ∃ k', k = k' + 1 := ⟨k - 1, by omega⟩
    obtain ⟨c, hc⟩ := bt_u s x (by omega)
    rw [glacisref05_digits.l0, if_pos (by omega), if_pos (by omega), hc, digit_u]
    simp only [Option.bind_some]
    by_cases hd : dgP c.toNat = true
    · rw [if_pos hd, wrap_next x (by omega)]
      refine digits_l s hs m (x + 1) k (by omega) (by omega) (fun j hjx => ?_)
      by_cases e : j = x
      · subst e; rw [hc]; exact hd
      · exact hj j (by omega)
    · rw [if_neg hd, span_eq dgP s x (by omega) hj (fun _ => by rw [hc]; exact Bool.eq_false_iff.mpr hd)]
theorem digits_f (s : ByteArray) (hs : s.size ≤ 100000) (k : Nat) (hk : s.size < k) : glacisref05_digits.f k s = some (spanB dgP s : Int) := by
  unfold glacisref05_digits.f
  exact digits_l s hs s.size 0 k (by omega) hk (fun j hj => by omega)
theorem numL_snoc (l : List UInt8) (c : UInt8) : numL (l ++ [c]) = numL l * 10 + (c.toNat - 48) := by unfold numL; rw [List.foldl_append]; rfl
theorem wrap_id (x : Int) (h : -9000000000000000000 ≤ x ∧ x ≤ 9000000000000000000) : wrap64 x = x := by unfold wrap64; omega
theorem lt_p15 {x n : Nat} (h : x < 10 ^ n) (hn : n ≤ 15) : x < 1000000000000000 := Nat.lt_of_lt_of_le h (Nat.le_trans (Nat.pow_le_pow_right (by decide) hn) (by decide))
theorem told_l (s : ByteArray) (hs : s.size ≤ 15) (hd : ∀ c ∈ L s, dgU c = true) : ∀ (m x k : Nat), x + m = s.size → m < k → glacisref05_told.l0 k s (numL ((L s).take x) : Int) (x : Int) = some (numL (L s) : Int)
  | 0, x, k, hm, hk => by
    obtain ⟨k, rfl⟩ : ∃ k', k = k' + 1 := ⟨k - 1, by omega⟩
    rw [glacisref05_told.l0, if_neg (by omega), List.take_of_length_le (by rw [← size_L]; omega)]
  | m + 1, x, k, hm, hk => by
    obtain ⟨k, rfl⟩ : ∃ k', k = k' + 1 := ⟨k - 1, by omega⟩
    have hx : x < (L s).length := by rw [← size_L]; omega
    have hc := hd _ (List.getElem_mem hx)
    have hc2 := dg_ne hc
    have e : numL ((L s).take (x + 1)) = numL ((L s).take x) * 10 + ((L s)[x].toNat - 48) := by rw [take_snoc _ _ hx, numL_snoc]
    have hb : numL ((L s).take (x + 1)) < 1000000000000000 := lt_p15 (numL_bound ((L s).take (x + 1)) (fun c hc => hd c (List.mem_of_mem_take hc))) (by rw [List.length_take, ← size_L]; omega)
    rw [glacisref05_told.l0, if_pos (by omega), if_pos (by omega), bt_L s x hx, wrap_next x (by omega)]
    obtain ⟨d, hd48⟩ : ∃ d : Nat, (L s)[x].toNat = 48 + d := ⟨(L s)[x].toNat - 48, by omega⟩
    have hd9 : d ≤ 9 := by omega
    rw [hd48, Nat.add_sub_cancel_left] at e
    rw [e] at hb
    have m1 : ((((L s)[x].toNat : Int) - 48) % 256) = (d : Int) := by rw [hd48]; omega
    generalize numL ((L s).take x) = a at *
    have m2 : wrap64 (10 * (a : Int)) = 10 * (a : Int) := wrap_id _ (by omega)
    have m3 : wrap64 (10 * (a : Int) + (d : Int)) = 10 * (a : Int) + (d : Int) := wrap_id _ (by omega)
    have e2 : wrap64 ((wrap64 (10 * (a : Int))) + ((((L s)[x].toNat : Int) - 48) % 256)) = (numL ((L s).take (x + 1)) : Int) := by
      rw [m1, m2, m3, e]; omega
    rw [e2]
    exact told_l s hs hd m (x + 1) k (by omega) (by omega)
theorem told_f (s : ByteArray) (hs : s.size ≤ 15) (hd : ∀ c ∈ L s, dgU c = true) (k : Nat) (hk : 16 ≤ k) : glacisref05_told.f k s = some (numL (L s) : Int) := by
  unfold glacisref05_told.f
  have := told_l s hs hd s.size 0 k (by omega) (by omega)
  simpa [numL] using this
/-- The document's answer, of a value that is read. -/
def refV (o : Option ((Int × Int × ByteArray) × ByteArray)) : ByteArray × Int × Int × ByteArray × ByteArray × Bool := match o with | some (v, t) => (⟨#[]⟩, v.1, v.2.1, v.2.2, t, true) | none => (⟨#[]⟩, 0, 0, ⟨#[]⟩, ⟨#[]⟩, false)
theorem refV_some (v : Int × Int × ByteArray) (t : ByteArray) : refV (some (v, t)) = (⟨#[]⟩, v.1, v.2.1, v.2.2, t, true) := rfl
def rdN (sg : Int) (s1 : ByteArray) : Option ((Int × Int × ByteArray) × ByteArray) :=
  if (takB dgP s1).size = 0 then none
    else if atF (drpB dgP s1) 46 = true then
      (if (takB dgP s1).size > 12 ∨ (takB dgP (tl (drpB dgP s1))).size = 0 ∨ (takB dgP (tl (drpB dgP s1))).size > 3 then none
      else some ((2, sg * (numV (takB dgP s1 ++ (takB dgP (tl (drpB dgP s1)) ++ zer (takB dgP (tl (drpB dgP s1))).size)) : Int), ⟨#[]⟩), drpB dgP (tl (drpB dgP s1))))
    else if (takB dgP s1).size > 15 then none else some ((1, sg * (numV (takB dgP s1) : Int), ⟨#[]⟩), drpB dgP s1)
theorem rdN_eq (s : ByteArray) : rdNumber s = rdN (sgn s) (atR s 45) := rdNumber_eq s
theorem number_j0 (s : ByteArray) (hs : s.size ≤ 100000) (sg : Int) (hsg : sg = 1 ∨ sg = -1) (k : Nat) (hk : s.size + 30 < k) : glacisref05_number.j0 k s sg = some (refV (rdN sg s)) := by
  obtain ⟨k, rfl⟩ : ∃ k', k = k' + 10 := ⟨k - 10, by omega⟩
  have hn := span_le dgP s
  have hall : ∀ c ∈ L (takB dgP s), dgU c = true := tak_all dgP s
  rw [glacisref05_number.j0, digits_f s hs _ (by omega)]
  simp only [Option.bind_some]
  unfold rdN
  rw [drp_is dgP s, tl_ext, atF_ext]
  have et : takB dgP s = s.extract 0 (spanB dgP s) := rfl
  rw [tak_size]
  by_cases h0 : spanB dgP s = 0
  · rw [if_pos (by omega), if_pos h0, glacisref05_number.j1, if_pos rfl]; rfl
  rw [if_neg (by omega), if_neg h0, glacisref05_number.j1]
  by_cases h15 : (spanB dgP s : Int) > 15
  · rw [decide_eq_true h15, if_pos rfl]
    by_cases h46 : spanB dgP s < s.size ∧ bt s (spanB dgP s) = 46
    · rw [decide_eq_true h46, if_pos rfl, if_pos (by omega)]; rfl
    · rw [decide_eq_false h46, if_neg (by decide), if_pos (by omega)]; rfl
  rw [decide_eq_false h15, if_neg (by decide)]
  have hint : glacisref05_number.j2 (k + 8) s sg (spanB dgP s) true = some (refV (some ((1, sg * (numV (takB dgP s) : Int), ⟨#[]⟩), s.extract (spanB dgP s) s.size))) := by
    have hz : (takB dgP s).size ≤ 15 := by rw [tak_size]; omega
    have hb := lt_p15 (numL_bound (L (takB dgP s)) hall) (by rw [← size_L]; exact hz)
    rw [glacisref05_number.j2, if_pos rfl, if_pos (by omega), if_pos (by omega)]
    have e1 : s.extract 0 ((spanB dgP s : Int)).toNat = takB dgP s := rfl
    rw [e1, told_f _ hz hall _ (by omega)]
    simp only [Option.bind_some]
    rw [wrap_id _ (by rcases hsg with rfl | rfl <;> omega), numV_L, refV_some]
    rfl
  by_cases h46 : spanB dgP s < s.size ∧ bt s (spanB dgP s) = 46
  · rw [decide_eq_true h46, if_pos (show true = true from rfl)]
    rw [if_neg (by omega), if_pos (by omega), if_pos (by omega), h46.2]
    have hw : wrap64 ((spanB dgP s : Int) + 1) = ((spanB dgP s + 1 : Nat) : Int) := wrap_next _ (by omega)
    rw [show ((46 : Int) != 46) = false from rfl, glacisref05_number.j2, if_neg (by decide), hw, if_pos (by omega), if_pos (by omega)]
    have e2 : s.extract (((spanB dgP s + 1 : Nat) : Int)).toNat s.size = s.extract (spanB dgP s + 1) s.size := rfl
    rw [e2]
    have hz2 : (s.extract (spanB dgP s + 1) s.size).size ≤ s.size := by rw [ByteArray.size_extract]; omega
    rw [digits_f _ (by omega) _ (by omega)]
    simp only [Option.bind_some]
    generalize hP : s.extract (spanB dgP s + 1) s.size = P at *
    have hPL : L P = (L s).drop (spanB dgP s + 1) := by rw [← hP, L_ext]
    have hPs : P.size = s.size - (spanB dgP s + 1) := by rw [← hP, ByteArray.size_extract]; omega
    have hm := span_le dgP P
    have hall2 : ∀ c ∈ L (takB dgP P), dgU c = true := tak_all dgP P
    rw [tak_size]
    by_cases hbad : spanB dgP s > 12 ∨ spanB dgP P = 0 ∨ spanB dgP P > 3
    · rw [if_pos hbad]
      have hj : ∀ b : Bool, b = true → glacisref05_number.j3 (k + 7) s sg (spanB dgP s) (spanB dgP P) b = some (refV none) := by
        intro b hb
        rw [glacisref05_number.j3, if_pos hb]; rfl
      by_cases b1 : (spanB dgP s : Int) > 12
      · rw [if_pos b1]; exact hj true rfl
      rw [if_neg b1]
      by_cases b2 : (spanB dgP P : Int) < 1
      · rw [if_pos b2]; exact hj true rfl
      rw [if_neg b2]
      exact hj _ (decide_eq_true (by omega))
    · rw [if_neg hbad, if_neg (by omega), if_neg (by omega), decide_eq_false (by omega), glacisref05_number.j3, if_neg (by decide), if_pos (by omega), if_pos (by omega), hw, if_pos (by omega)]
      have hw2 : wrap64 (((spanB dgP s + 1 : Nat) : Int) + (spanB dgP P : Int)) = ((spanB dgP s + 1 + spanB dgP P : Nat) : Int) := by unfold wrap64; omega
      rw [hw2, if_pos (by omega), if_pos (by omega)]
      have e3 : s.extract 0 ((spanB dgP s : Int)).toNat = takB dgP s := rfl
      have e4 : s.extract (((spanB dgP s + 1 : Nat) : Int)).toNat (((spanB dgP s + 1 + spanB dgP P : Nat) : Int)).toNat = takB dgP P := by
        apply L_inj
        rw [L_extm]
        have : L (takB dgP P) = (L P).take (spanB dgP P) := L_ext0 P _
        rw [this, hPL]
        congr 1
        omega
      rw [e3, e4]
      have z1 := tak_size dgP s
      have z2 := tak_size dgP P
      rw [if_pos (by omega)]
      have hz : (takB dgP s ++ takB dgP P).size ≤ 15 := by rw [ByteArray.size_append]; omega
      have hall3 : ∀ c ∈ L (takB dgP s ++ takB dgP P), dgU c = true := by
        rw [L_app]; intro c hc
        rcases List.mem_append.1 hc with hc | hc
        · exact hall c hc
        · exact hall2 c hc
      rw [told_f _ hz hall3 _ (by omega)]
      simp only [Option.bind_some]
      have hb := numL_bound (L (takB dgP s ++ takB dgP P)) hall3
      have hlen : (L (takB dgP s ++ takB dgP P)).length = spanB dgP s + spanB dgP P := by rw [← size_L, ByteArray.size_append]; omega
      have hval : numV (takB dgP s ++ (takB dgP P ++ zer (spanB dgP P))) = numL (L (takB dgP s ++ takB dgP P)) * 10 ^ (3 - spanB dgP P) := by
        have eqa : takB dgP s ++ (takB dgP P ++ zer (spanB dgP P)) = (takB dgP s ++ takB dgP P) ++ zer (spanB dgP P) := L_inj (by simp only [L_app, List.append_assoc])
        rw [eqa, numV_L, L_app, zer_L, numL_app]
        have hzl : (zerL (spanB dgP P)).length = 3 - spanB dgP P := zer_len _ (by omega)
        have hz0 : numL (zerL (spanB dgP P)) = 0 := by
          rcases (show spanB dgP P = 1 ∨ spanB dgP P = 2 ∨ spanB dgP P = 3 by omega) with e | e | e <;> rw [e] <;> rfl
        rw [hzl, hz0, Nat.add_zero]
      rw [hval, refV_some]
      have hrest : drpB dgP P = s.extract (spanB dgP s + 1 + spanB dgP P) s.size := by
        apply L_inj
        have : L (drpB dgP P) = (L P).drop (spanB dgP P) := L_ext P _
        rw [this, hPL, L_ext, List.drop_drop]
      rw [hrest]
      generalize numL (L (takB dgP s ++ takB dgP P)) = X at *
      have hX : X < 10 ^ (spanB dgP s + spanB dgP P) := by rw [← hlen]; exact hb
      have hlast : ∀ (k' : Nat) (Y : Int), glacisref05_number.l0 (k' + 1) s sg (spanB dgP s) (spanB dgP P) Y 3 = some (⟨#[]⟩, 2, wrap64 (sg * Y), ⟨#[]⟩, s.extract (spanB dgP s + 1 + spanB dgP P) s.size, true) := by
        intro k' Y
        rw [glacisref05_number.l0, if_neg (by decide), hw, hw2, if_pos (by omega), if_pos (by omega)]
        rfl
      have hle : X < 10 ^ 12 * 10 ^ spanB dgP P := by
        rw [← Nat.pow_add]
        exact Nat.lt_of_lt_of_le hX (Nat.pow_le_pow_right (by omega) (by omega))
      rcases (show spanB dgP P = 1 ∨ spanB dgP P = 2 ∨ spanB dgP P = 3 by omega) with e | e | e
      · rw [e] at hlast hle ⊢
        rw [show k + 6 = (k + 5) + 1 from rfl, show (((1 : Nat)) : Int) = 1 from rfl] at *
        rw [glacisref05_number.l0, if_pos (by decide), wrap_id (10 * (X : Int)) (by omega), show wrap64 ((1 : Int) + 1) = 2 from wrap_id _ (by omega), glacisref05_number.l0, if_pos (by decide), wrap_id (10 * (10 * (X : Int))) (by omega), show wrap64 ((2 : Int) + 1) = 3 from wrap_id _ (by omega), hlast]
        rw [wrap_id _ (by rcases hsg with rfl | rfl <;> omega)]
        congr 3
        rw [show (3 - 1 : Nat) = 2 from rfl]
        push_cast
        rcases hsg with rfl | rfl <;> simp <;> omega
      · rw [e] at hlast hle ⊢
        rw [show k + 6 = (k + 5) + 1 from rfl, show (((2 : Nat)) : Int) = 2 from rfl] at *
        rw [glacisref05_number.l0, if_pos (by decide), wrap_id (10 * (X : Int)) (by omega), show wrap64 ((2 : Int) + 1) = 3 from wrap_id _ (by omega), hlast]
        rw [wrap_id _ (by rcases hsg with rfl | rfl <;> omega)]
        congr 3
        rw [show (3 - 2 : Nat) = 1 from rfl]
        push_cast
        rcases hsg with rfl | rfl <;> simp <;> omega
      · rw [e] at hlast hle ⊢
        rw [show k + 6 = (k + 5) + 1 from rfl, show (((3 : Nat)) : Int) = 3 from rfl] at *
        rw [hlast]
        rw [wrap_id _ (by rcases hsg with rfl | rfl <;> omega)]
        congr 3
        rw [show (3 - 3 : Nat) = 0 from rfl]
        simp
  · rw [decide_eq_false h46, if_neg (show ¬ (false = true) by decide), if_neg (show ¬ (spanB dgP s > 15) by omega)]
    by_cases he : (spanB dgP s : Int) = (s.size : Int)
    · rw [if_pos he]; exact hint
    · rw [if_neg he, if_pos (by omega), if_pos (by omega)]
      have : (bt s (spanB dgP s) != 46) = true := by
        rw [bne_iff_ne]; intro e; exact h46 ⟨by omega, e⟩
      rw [this]; exact hint
theorem number_f (s : ByteArray) (hs : s.size ≤ 100000) (h0 : 0 < s.size) (k : Nat) (hk : s.size + 30 < k) : glacisref05_number.f k s = some (refV (rdNumber s)) := by
  unfold glacisref05_number.f
  rw [if_pos (by omega), rdN_eq]
  unfold sgn atR atF
  by_cases h : bt s 0 = 45
  · rw [if_pos h, if_pos (by omega), decide_eq_true (show 0 < s.size ∧ bt s 0 = 45 from ⟨h0, h⟩), if_pos rfl, if_pos rfl]
    have hz := tl_size s
    exact number_j0 (tl s) (by omega) (-1) (Or.inr rfl) k (by omega)
  · rw [if_neg h, decide_eq_false (show ¬ (0 < s.size ∧ bt s 0 = 45) from fun e => h e.2), if_neg (by decide), if_neg (by decide)]
    exact number_j0 s hs 1 (Or.inl rfl) k hk
end Go.Proofs.YtbbaokjkmcfceaaGreatDoor.Pl
/- Chapter 5: the document's own reader: texts in quotes, values, keys, parameters, items. -/
namespace Go.Proofs.YtbbaokjkmcfceaaGreatDoor.Pl
open Go.RowKit Go.Proofs.YtbbaokjkmcfceaaGreatDoor.Q Go.Proofs.YtbbaokjkmcfceaaGreatDoor.Sf Go.Proofs.YtbbaokjkmcfceaaGreatDoorW.PrintWords Go.Proofs.YtbbaokjkmcfceaaGreatDoorW.PrintLast
set_option linter.unusedVariables false
set_option linter.unusedSimpArgs false
theorem nums_snoc (xs : List Int) (s : ByteArray) (i : Nat) (h : i < s.size) : strOfNums (xs ++ [bt s i]) = strOfNums xs ++ s.extract i (i + 1) := by
  have hl : i < (L s).length := by rw [← size_L]; exact h
  apply L_inj
  rw [bt_L s i hl, num_app xs _ _ rfl, L_app, L_extm, drop_cons _ _ hl]
  rw [show i + 1 - i = 1 by omega]; rfl
theorem ext_size (s : ByteArray) (i : Nat) (h : i < s.size) : (s.extract i (i + 1)).size = 1 := by rw [ByteArray.size_extract]; omega
theorem fits (a b : Nat) (ha : a ≤ 100000) (hb : b = 1) : a + b ≤ 9223372036854775807 := by omega
theorem qF_shut (d : Nat) (s : ByteArray) (xs : List Int) (h0 : 0 < s.size) (h : bt s 0 = 34) : qF (d + 1) s xs = some (strOfNums xs, tl s) := by
  rw [qF, if_pos h0, if_pos h]
theorem qF_nil (d : Nat) (s : ByteArray) (xs : List Int) (h0 : ¬ 0 < s.size) : qF (d + 1) s xs = none := by
  rw [qF, if_neg h0]
theorem qF_bad (d : Nat) (s : ByteArray) (xs : List Int) (h0 : 0 < s.size) (h : bt s 0 ≠ 34) (hb : bt s 0 < 32 ∨ 126 < bt s 0) : qF (d + 1) s xs = none := by
  rw [qF, if_pos h0, if_neg h, if_pos (by rcases hb with h | h; exact Or.inl h; exact Or.inr (Or.inl h))]
theorem wi_of {c : UInt8} (h : (c.toNat : Int) = 34 ∨ (c.toNat : Int) = 92) : wiP c.toNat ⟨#[34, 92]⟩ = true := by
  rw [wiQ]; exact decide_eq_true (by omega)
theorem wi_not {c : UInt8} (h : ¬ ((c.toNat : Int) = 34 ∨ (c.toNat : Int) = 92)) : ¬ wiP c.toNat ⟨#[34, 92]⟩ = true := by
  rw [wiQ]; intro e; have := of_decide_eq_true e; omega
theorem qF_esc (d : Nat) (s : ByteArray) (xs : List Int) (h0 : 0 < s.size) (h : bt s 0 = 92) (h1 : 0 < (tl s).size) (hq : bt (tl s) 0 = 34 ∨ bt (tl s) 0 = 92) : qF (d + 1) s xs = qF d (tl (tl s)) (xs ++ [bt (tl s) 0]) := by
  obtain ⟨c, hc⟩ := bt_u (tl s) 0 h1
  have hc' : bt (tl s) 0 = (c.toNat : Int) := hc
  rw [hc'] at hq
  have hw := wi_of hq
  rw [← hc'] at hw
  rw [qF, if_pos h0, if_neg (by rw [h]; decide), if_neg (by
    rintro (k | k | ⟨_, k⟩)
    · rw [h] at k; exact absurd k (by decide)
    · rw [h] at k; exact absurd k (by decide)
    · exact k ⟨h1, hw⟩), if_pos h]
theorem qF_escbad (d : Nat) (s : ByteArray) (xs : List Int) (h0 : 0 < s.size) (h : bt s 0 = 92) (hq : ¬ (0 < (tl s).size ∧ (bt (tl s) 0 = 34 ∨ bt (tl s) 0 = 92))) : qF (d + 1) s xs = none := by
  rw [qF, if_pos h0, if_neg (by rw [h]; decide), if_pos (by
    refine Or.inr (Or.inr ⟨h, fun k => ?_⟩)
    obtain ⟨c, hc⟩ := bt_u (tl s) 0 k.1
    have hc' : bt (tl s) 0 = (c.toNat : Int) := hc
    have k2 := k.2
    rw [hc'] at hq k2
    exact wi_not (fun e => hq ⟨k.1, e⟩) k2)]
theorem qF_plain (d : Nat) (s : ByteArray) (xs : List Int) (h0 : 0 < s.size) (h : bt s 0 ≠ 34) (h1 : ¬ bt s 0 < 32) (h2 : ¬ 126 < bt s 0) (h3 : bt s 0 ≠ 92) : qF (d + 1) s xs = qF d (tl s) (xs ++ [bt s 0]) := by
  rw [qF, if_pos h0, if_neg h, if_neg (by
    rintro (k | k | ⟨k, _⟩)
    · exact h1 k
    · exact h2 k
    · exact h3 k), if_neg h3]
theorem r_shut (k i : Nat) (s o : ByteArray) (hs : s.size ≤ 100000) (hi : i < s.size) (h : bt s i = 34) : glacisref05_quoted.l0 (k + 1) s o (i : Int) = some (⟨#[]⟩, 3, 0, o, s.extract (i + 1) s.size, true) := by
  rw [glacisref05_quoted.l0, if_pos (by omega), if_pos (by omega), if_pos h, wrap_next i (by omega), if_pos (by omega), if_pos (by omega)]; rfl
theorem r_nil (k i : Nat) (s o : ByteArray) (hi : ¬ i < s.size) : glacisref05_quoted.l0 (k + 1) s o (i : Int) = some (refV none) := by
  rw [glacisref05_quoted.l0, if_neg (by omega)]; rfl
theorem r_j (k i : Nat) (s o : ByteArray) (hi : i < s.size) (h : bt s i ≠ 34) : glacisref05_quoted.l0 (k + 1) s o (i : Int) = glacisref05_quoted.j1 k s o i (decide (bt s i < 32 ∨ 126 < bt s i)) := by
  rw [glacisref05_quoted.l0, if_pos (by omega), if_pos (by omega), if_neg h]
  by_cases h1 : bt s i < 32
  · rw [if_pos h1, decide_eq_true (Or.inl h1)]
  · rw [if_neg h1]
    by_cases h2 : bt s i > 126
    · rw [decide_eq_true h2, decide_eq_true (Or.inr h2)]
    · rw [decide_eq_false h2, decide_eq_false (by rintro (k | k); exact h1 k; exact h2 k)]
theorem r_bad (k i : Nat) (s o : ByteArray) (hi : i < s.size) (h : bt s i ≠ 34) (hb : bt s i < 32 ∨ 126 < bt s i) : glacisref05_quoted.l0 (k + 2) s o (i : Int) = some (refV none) := by
  rw [r_j (k + 1) i s o hi h, decide_eq_true hb, glacisref05_quoted.j1, if_pos rfl]; rfl
theorem r_plain (k i : Nat) (s o : ByteArray) (hs : s.size ≤ 100000) (hi : i < s.size) (ho : o.size ≤ 100000) (h : bt s i ≠ 34) (hb : ¬ (bt s i < 32 ∨ 126 < bt s i)) (h9 : bt s i ≠ 92) : glacisref05_quoted.l0 (k + 2) s o (i : Int) = glacisref05_quoted.l0 k s (o ++ s.extract i (i + 1)) ((i + 1 : Nat) : Int) := by
  have p1 : ((i : Int)) ≤ (((i + 1 : Nat) : Int)) := by omega
  have p2 : (((i + 1 : Nat) : Int)) ≤ (s.size : Int) := by omega
  have p3 : (0 : Int) ≤ (i : Int) := by omega
  have p4 : (i : Int) < (s.size : Int) := by omega
  have hw := wrap_next i (by omega)
  rw [r_j (k + 1) i s o hi h, decide_eq_false hb, glacisref05_quoted.j1, if_neg (by decide), if_pos p3, if_pos p4, if_neg h9, hw, if_pos p1, if_pos p2]
  simp only [Int.toNat_natCast]
  rw [if_pos (fits _ _ ho (ext_size s i hi))]
theorem r_esc (k i : Nat) (s o : ByteArray) (hs : s.size ≤ 100000) (hi : i + 1 < s.size) (ho : o.size ≤ 100000) (h9 : bt s i = 92) (hq : bt s ((i + 1 : Nat) : Int) = 34 ∨ bt s ((i + 1 : Nat) : Int) = 92) : glacisref05_quoted.l0 (k + 2) s o (i : Int) = glacisref05_quoted.l0 k s (o ++ s.extract (i + 1) (i + 1 + 1)) ((i + 1 + 1 : Nat) : Int) := by
  have p1 : (((i + 1 : Nat) : Int)) ≤ (((i + 1 + 1 : Nat) : Int)) := by omega
  have p2 : (((i + 1 + 1 : Nat) : Int)) ≤ (s.size : Int) := by omega
  have p3 : (0 : Int) ≤ (i : Int) := by omega
  have p4 : (i : Int) < (s.size : Int) := by omega
  have p5 : ¬ (((i + 1 : Nat) : Int)) = (s.size : Int) := by omega
  have p6 : (0 : Int) ≤ (((i + 1 : Nat) : Int)) := by omega
  have p7 : (((i + 1 : Nat) : Int)) < (s.size : Int) := by omega
  have hw := wrap_next i (by omega)
  have hw2 := wrap_next (i + 1) (by omega)
  rw [r_j (k + 1) i s o (by omega) (by rw [h9]; decide), decide_eq_false (by rw [h9]; decide), glacisref05_quoted.j1, if_neg (by decide), if_pos p3, if_pos p4, if_pos h9, hw, if_neg p5, if_pos p6, if_pos p7, hw2]
  rcases hq with hq | hq
  · rw [if_pos hq, if_pos p1, if_pos p2]
    simp only [Int.toNat_natCast]
    rw [if_pos (fits _ _ ho (ext_size s (i + 1) hi))]
  · rw [if_neg (by rw [hq]; decide), if_pos hq, if_pos p1, if_pos p2]
    simp only [Int.toNat_natCast]
    rw [if_pos (fits _ _ ho (ext_size s (i + 1) hi))]
theorem r_escbad (k i : Nat) (s o : ByteArray) (hs : s.size ≤ 100000) (hi : i < s.size) (h9 : bt s i = 92) (hq : ¬ (i + 1 < s.size ∧ (bt s ((i + 1 : Nat) : Int) = 34 ∨ bt s ((i + 1 : Nat) : Int) = 92))) : glacisref05_quoted.l0 (k + 2) s o (i : Int) = some (refV none) := by
  have p3 : (0 : Int) ≤ (i : Int) := by omega
  have p4 : (i : Int) < (s.size : Int) := by omega
  have hw := wrap_next i (by omega)
  rw [r_j (k + 1) i s o hi (by rw [h9]; decide), decide_eq_false (by rw [h9]; decide), glacisref05_quoted.j1, if_neg (by decide), if_pos p3, if_pos p4, if_pos h9, hw]
  by_cases he : i + 1 = s.size
  · rw [if_pos (show (((i + 1 : Nat) : Int)) = (s.size : Int) by omega)]; rfl
  · have h1 : i + 1 < s.size := by omega
    have p6 : (0 : Int) ≤ (((i + 1 : Nat) : Int)) := by omega
    have p7 : (((i + 1 : Nat) : Int)) < (s.size : Int) := by omega
    rw [if_neg (show ¬ (((i + 1 : Nat) : Int)) = (s.size : Int) by omega), if_pos p6, if_pos p7, if_neg (fun e => hq ⟨h1, Or.inl e⟩), if_neg (fun e => hq ⟨h1, Or.inr e⟩)]; rfl
theorem bt_ext (s : ByteArray) (i : Nat) (h : i < s.size) : bt (s.extract i s.size) 0 = bt s i := by
  have hl : i < (L s).length := by rw [← size_L]; exact h
  have e : L (s.extract i s.size) = (L s)[i] :: (L s).drop (i + 1) := by rw [L_ext, drop_cons _ _ hl]
  rw [bt0 e, bt_L s i hl]
theorem quoted_l (s : ByteArray) (hs : s.size ≤ 100000) : ∀ (d i k : Nat) (xs : List Int), s.size < i + d → i ≤ s.size → 2 * s.size + 2 < k + 2 * i → (strOfNums xs).size ≤ i →
    glacisref05_quoted.l0 k s (strOfNums xs) (i : Int) = some (refV ((qF d (s.extract i s.size) xs).map mkQ))
  | 0, i, k, xs, hd, hi, hk, hx => by omega
  | d + 1, i, k, xs, hd, hi, hk, hx => by
    obtain ⟨k, rfl⟩ : ∃ k', k = k' + 2 := ⟨k - 2, by omega⟩
    have hz : (s.extract i s.size).size + i = s.size := by rw [ByteArray.size_extract]; omega
    have ho : (strOfNums xs).size ≤ 100000 := Nat.le_trans hx (Nat.le_trans hi hs)
    by_cases h : i < s.size
    · have hb := bt_ext s i h
      have h0 : 0 < (s.extract i s.size).size := by omega
      by_cases c34 : bt s i = 34
      · rw [r_shut (k + 1) i s _ hs h c34, qF_shut d _ xs h0 (hb.trans c34), tl_ext]; rfl
      by_cases cb : bt s i < 32 ∨ 126 < bt s i
      · rw [r_bad k i s _ h c34 cb, qF_bad d _ xs h0 (by rw [hb]; exact c34) (by rw [hb]; exact cb)]; rfl
      by_cases c92 : bt s i = 92
      · have hz1 : (s.extract (i + 1) s.size).size + (i + 1) = s.size := by rw [ByteArray.size_extract]; omega
        by_cases hq : i + 1 < s.size ∧ (bt s ((i + 1 : Nat) : Int) = 34 ∨ bt s ((i + 1 : Nat) : Int) = 92)
        · have hb1 := bt_ext s (i + 1) hq.1
          rw [r_esc k i s _ hs hq.1 ho c92 hq.2, qF_esc d _ xs h0 (hb.trans c92) (by rw [tl_ext]; omega) (by rw [tl_ext, hb1]; exact hq.2), tl_ext, tl_ext, hb1, ← nums_snoc xs s (i + 1) hq.1]
          refine quoted_l s hs d (i + 1 + 1) k _ (by omega) (by omega) (by omega) ?_
          rw [nums_snoc xs s (i + 1) hq.1, ByteArray.size_append, ext_size s (i + 1) hq.1]; omega
        · rw [r_escbad k i s _ hs h c92 hq, qF_escbad d _ xs h0 (hb.trans c92) (by
            rw [tl_ext]
            rintro ⟨k1, k2⟩
            have h1 : i + 1 < s.size := by omega
            rw [bt_ext s (i + 1) h1] at k2
            exact hq ⟨h1, k2⟩)]
          rfl
      · rw [r_plain k i s _ hs h ho c34 cb c92, qF_plain d _ xs h0 (by rw [hb]; exact c34) (by rw [hb]; exact fun e => cb (Or.inl e)) (by rw [hb]; exact fun e => cb (Or.inr e)) (by rw [hb]; exact c92), tl_ext, hb, ← nums_snoc xs s i h]
        refine quoted_l s hs d (i + 1) k _ (by omega) (by omega) (by omega) ?_
        rw [nums_snoc xs s i h, ByteArray.size_append, ext_size s i h]; omega
    · rw [r_nil (k + 1) i s _ h, qF_nil d _ xs (by omega)]; rfl
theorem quoted_f (s : ByteArray) (hs : s.size ≤ 100000) (h0 : 0 < s.size) (k : Nat) (hk : 2 * s.size + 10 < k) : glacisref05_quoted.f k s = some (refV (rdQuoted (tl s))) := by
  unfold glacisref05_quoted.f rdQuoted
  have z := tl_lt s h0
  rw [z]
  have := quoted_l s hs s.size 1 k [] (by omega) (by omega) (by omega) (by show (0 : Nat) ≤ 1; omega)
  exact this
theorem tok_l (s : ByteArray) (hs : s.size ≤ 100000) : ∀ (m x k : Nat), x + m = s.size → m + 17 < k → (∀ j : Nat, j < x → tokP (bt s j) = true) → glacisref05_value.l0 k s (x : Int) = some (refV (some ((4, 0, takB tokP s), drpB tokP s)))
  | 0, x, k, hm, hk, hj => by
    obtain ⟨k, rfl⟩ : ∃ k', k = k' + 1 := ⟨k - 1, by omega⟩
    have e := span_eq tokP s x (by omega) hj (fun h => by omega)
    rw [glacisref05_value.l0, if_neg (by omega), if_pos (by omega), if_pos (by omega)]
    unfold takB drpB
    rw [e]; rfl
  | m + 1, x, k, hm, hk, hj => by
    obtain ⟨k, rfl⟩ : ∃ k', k = k' + 1 := ⟨k - 1, by omega⟩
    obtain ⟨c, hc⟩ := bt_u s x (by omega)
    rw [glacisref05_value.l0, if_pos (by omega), if_pos (by omega), hc, tokens_u c k (by omega)]
    simp only [Option.bind_some]
    by_cases hd : tokP c.toNat = true
    · rw [if_pos hd, wrap_next x (by omega)]
      refine tok_l s hs m (x + 1) k (by omega) (by omega) (fun j hjx => ?_)
      by_cases e : j = x
      · subst e; rw [hc]; exact hd
      · exact hj j (by omega)
    · have e := span_eq tokP s x (by omega) hj (fun _ => by rw [hc]; exact Bool.eq_false_iff.mpr hd)
      rw [if_neg hd, if_pos (by omega)]
      unfold takB drpB
      rw [e]; rfl
theorem base_l (s : ByteArray) (hs : s.size ≤ 100000) (h0 : 0 < s.size) : ∀ (m x k : Nat), x + 1 + m = s.size → m < k → (∀ j : Nat, j < x → baP (bt (tl s) j) = true) → glacisref05_value.l1 k s ((x + 1 : Nat) : Int) = some (refV (rdBytes (tl s)))
  | 0, x, k, hm, hk, hj => by
    obtain ⟨k, rfl⟩ : ∃ k', k = k' + 1 := ⟨k - 1, by omega⟩
    have hz := tl_lt s h0
    have e := span_eq baP (tl s) x (by omega) hj (fun h => by omega)
    rw [glacisref05_value.l1, if_neg (by omega), if_pos (by omega)]
    unfold rdBytes
    rw [drp_is, e, atF_ext, decide_eq_false (by omega), if_neg (by decide)]; rfl
  | m + 1, x, k, hm, hk, hj => by
    obtain ⟨k, rfl⟩ : ∃ k', k = k' + 1 := ⟨k - 1, by omega⟩
    have hz := tl_lt s h0
    have hb : bt (tl s) (x : Int) = bt s ((x + 1 : Nat) : Int) := bt_tl s x (by omega)
    obtain ⟨c, hc⟩ := bt_u s (x + 1) (by omega)
    rw [glacisref05_value.l1, if_pos (by omega), if_pos (by omega), hc, base_u c]
    simp only [Option.bind_some]
    by_cases hd : baP c.toNat = true
    · rw [if_pos hd, wrap_next _ (by omega)]
      refine base_l s hs h0 m (x + 1) k (by omega) (by omega) (fun j hjx => ?_)
      by_cases e : j = x
      · subst e; rw [hb, hc]; exact hd
      · exact hj j (by omega)
    · have e := span_eq baP (tl s) x (by omega) hj (fun _ => by rw [hb, hc]; exact Bool.eq_false_iff.mpr hd)
      rw [if_neg hd, if_neg (by omega)]
      unfold rdBytes
      rw [drp_is, e, atF_ext, hb, hc]
      by_cases h58 : (c.toNat : Int) = 58
      · rw [if_pos h58, decide_eq_true ⟨by omega, h58⟩, if_pos rfl, if_pos (by omega), if_pos (by omega), wrap_next _ (by omega), if_pos (by omega), if_pos (by omega), refV_some]
        have e1 : s.extract 1 (((x + 1 : Nat) : Int)).toNat = takB baP (tl s) := by
          apply L_inj
          unfold takB
          rw [e, L_ext0, L_tl, L_extm]
          rw [show (((x + 1 : Nat) : Int)).toNat - 1 = x by omega, List.drop_one]
        have e2 : s.extract (((x + 1 + 1 : Nat) : Int)).toNat s.size = tl ((tl s).extract x (tl s).size) := by
          rw [tl_ext]
          apply L_inj
          rw [L_ext, L_ext, L_tl, ← List.drop_one, List.drop_drop]
          congr 1
          omega
        rw [e1, e2]
      · rw [if_neg h58, decide_eq_false (fun h => h58 h.2), if_neg (by decide)]; rfl
theorem firsts (c : UInt8) : ((c.toNat : Int) = 45 ∨ dgP c.toNat = true → (c.toNat : Int) ≠ 34) ∧ (leP c.toNat = true ∨ (c.toNat : Int) = 42 → tokP c.toNat = true ∧ (c.toNat : Int) ≠ 34) := by
  have h := allU (fun c : UInt8 => (!(decide ((c.toNat : Int) = 45) || dgP c.toNat) || !decide ((c.toNat : Int) = 34)) && (!(leP c.toNat || decide ((c.toNat : Int) = 42)) || (tokP c.toNat && !decide ((c.toNat : Int) = 34)))) (by decide +kernel) c
  simp only [Bool.and_eq_true, Bool.or_eq_true, Bool.not_eq_true', Bool.or_eq_false_iff, decide_eq_false_iff_not] at h
  refine ⟨fun k => ?_, fun k => ?_⟩
  · rcases h.1 with ⟨a, b⟩ | a
    · rcases k with k | k
      · exact absurd k a
      · rw [k] at b; cases b
    · exact a
  · rcases h.2 with ⟨a, b⟩ | a
    · rcases k with k | k
      · rw [k] at a; cases a
      · exact absurd k b
    · exact a
theorem value_f (s : ByteArray) (hs : s.size ≤ 100000) (k : Nat) (hk : 2 * s.size + 100 < k) : glacisref05_value.f k s = some (refV (rdValue s)) := by
  unfold glacisref05_value.f rdValue
  by_cases h0 : 0 < s.size
  · obtain ⟨c, hc⟩ := bt_u s 0 h0
    have hne : ¬ s.toList = ([] : List UInt8) := by
      rw [L_toList]; intro e; rw [size_L, e] at h0; exact absurd h0 (by simp)
    have hc' : bt s 0 = (c.toNat : Int) := hc
    obtain ⟨f1, f2⟩ := firsts c
    rw [if_neg hne, if_pos (by omega), if_pos h0, hc', letter_u, digit_u]
    simp only [Option.bind_some]
    obtain ⟨k, rfl⟩ : ∃ k', k = k' + 3 := ⟨k - 3, by omega⟩
    have hj0 : ∀ b : Bool, b = true → (c.toNat : Int) = 45 ∨ dgP c.toNat = true → glacisref05_value.j0 (k + 3) s (leP c.toNat) b = some (refV (if (c.toNat : Int) = 45 ∨ dgP c.toNat = true then rdNumber s else if leP c.toNat = true ∨ (c.toNat : Int) = 42 then some ((4, 0, takB tokP s), drpB tokP s) else if (c.toNat : Int) = 34 then rdQuoted (tl s) else if (c.toNat : Int) = 58 then rdBytes (tl s) else if (c.toNat : Int) = 63 then rdBool (tl s) else none)) := by
      intro b hb hcn
      rw [glacisref05_value.j0, if_pos hb, number_f s hs h0 _ (by omega), if_pos hcn]
      simp only [Option.bind_some]
    by_cases c45 : (c.toNat : Int) = 45
    · rw [if_pos c45]; exact hj0 true rfl (Or.inl c45)
    rw [if_neg c45]
    by_cases cd : dgP c.toNat = true
    · exact hj0 _ cd (Or.inr cd)
    rw [if_neg (by rintro (h | h); exact c45 h; exact cd h), glacisref05_value.j0, if_neg cd, if_pos (by omega), hc']
    by_cases c34 : (c.toNat : Int) = 34
    · rw [if_pos c34, quoted_f s hs h0 _ (by omega), if_neg (fun h => (f2 h).2 c34), if_pos c34]
      simp only [Option.bind_some]
    rw [if_neg c34]
    have hj1 : ∀ b : Bool, b = true → leP c.toNat = true ∨ (c.toNat : Int) = 42 → glacisref05_value.j1 (k + 2) s b = some (refV (if leP c.toNat = true ∨ (c.toNat : Int) = 42 then some ((4, 0, takB tokP s), drpB tokP s) else if (c.toNat : Int) = 34 then rdQuoted (tl s) else if (c.toNat : Int) = 58 then rdBytes (tl s) else if (c.toNat : Int) = 63 then rdBool (tl s) else none)) := by
      intro b hb hcn
      rw [glacisref05_value.j1, if_pos hb, if_pos hcn]
      exact tok_l s hs (s.size - 1) 1 (k + 1) (by omega) (by omega) (fun j hj => by
        obtain rfl : j = 0 := by omega
        rw [hc]; exact (f2 hcn).1)
    by_cases cl : leP c.toNat = true
    · rw [if_pos cl]; exact hj1 true rfl (Or.inl cl)
    rw [if_neg cl]
    by_cases c42 : (c.toNat : Int) = 42
    · exact hj1 _ (beq_iff_eq.2 c42) (Or.inr c42)
    rw [if_neg (by rintro (h | h); exact cl h; exact c42 h), if_neg c34, glacisref05_value.j1, if_neg (by simpa using c42), if_pos (by omega), hc']
    by_cases c58 : (c.toNat : Int) = 58
    · rw [if_pos c58, if_pos c58]
      exact base_l s hs h0 (s.size - 1) 0 (k + 1) (by omega) (by omega) (fun j hj => by omega)
    rw [if_neg c58, if_neg c58]
    by_cases c63 : (c.toNat : Int) = 63
    · rw [if_pos c63, if_pos c63]
      unfold rdBool
      have hz := tl_lt s h0
      by_cases h2 : (s.size : Int) < 2
      · have e : L (tl s) = [] := by
          have : (L (tl s)).length = 0 := by rw [← size_L]; omega
          exact List.length_eq_zero_iff.1 this
        rw [if_pos h2, atF_nil e, atF_nil e, if_neg (by decide), if_neg (by decide)]; rfl
      · rw [if_neg h2, if_pos (by omega)]
        have hb : bt (tl s) 0 = bt s 1 := bt_tl s 0 (by omega)
        have a1 : ∀ n : Int, atF (tl s) n = decide (bt s 1 = n) := fun n => by
          unfold atF; rw [hb]; simp [show 0 < (tl s).size by omega]
        have er : s.extract 2 s.size = tl (tl s) := by rw [tl_is s, tl_ext]
        rw [a1, a1]
        by_cases d48 : bt s 1 = 48
        · rw [if_pos d48, if_pos (by omega), d48, er]; rfl
        rw [if_neg d48]
        by_cases d49 : bt s 1 = 49
        · rw [if_pos d49, if_pos (by omega), d49, er]; rfl
        · rw [if_neg d49, decide_eq_false d49, decide_eq_false d48, if_neg (by decide), if_neg (by decide)]; rfl
    · rw [if_neg c63, if_neg c63]; rfl
  · have he : s.toList = ([] : List UInt8) := by
      rw [L_toList]
      have : (L s).length = 0 := by rw [← size_L]; omega
      exact List.length_eq_zero_iff.1 this
    rw [if_pos he, if_neg h0]; rfl
def refK (o : Option (ByteArray × ByteArray)) : ByteArray × ByteArray × Int := match o with | some (k, t) => (k, t, 0) | none => (⟨#[]⟩, ⟨#[]⟩, 50)
theorem key_l (s : ByteArray) (hs : s.size ≤ 100000) (h0 : 0 < s.size) (hf : smP (bt s 0) = true ∨ bt s 0 = 42) : ∀ (m x k : Nat), x + 1 + m = s.size → m < k → (∀ j : Nat, j < x + 1 → keP (bt s j) = true) → glacisref05_Key.l0 k s ((x + 1 : Nat) : Int) = some (takB keP s, drpB keP s, 0)
  | 0, x, k, hm, hk, hj => by
    obtain ⟨k, rfl⟩ : ∃ k', k = k' + 1 := ⟨k - 1, by omega⟩
    have e := span_eq keP s (x + 1) (by omega) hj (fun h => by omega)
    rw [glacisref05_Key.l0, if_neg (by omega), if_neg (by omega), if_pos (by omega), if_pos (by omega)]
    unfold takB drpB
    rw [e]; rfl
  | m + 1, x, k, hm, hk, hj => by
    obtain ⟨k, rfl⟩ : ∃ k', k = k' + 1 := ⟨k - 1, by omega⟩
    obtain ⟨c, hc⟩ := bt_u s (x + 1) (by omega)
    have hb : ((((x + 1 : Nat) : Int)) == 0) = false := by rw [beq_eq_false_iff_ne]; omega
    rw [glacisref05_Key.l0, if_pos (by omega), if_pos (by omega), hc, hb, small_v c]
    simp only [Option.bind_some]
    by_cases hd : keP c.toNat = true
    · rw [if_pos hd, wrap_next _ (by omega)]
      refine key_l s hs h0 hf m (x + 1) k (by omega) (by omega) (fun j hjx => ?_)
      by_cases e : j = x + 1
      · subst e; rw [hc]; exact hd
      · exact hj j (by omega)
    · have e := span_eq keP s (x + 1) (by omega) hj (fun _ => by rw [hc]; exact Bool.eq_false_iff.mpr hd)
      rw [if_neg hd, if_neg (by omega), if_pos (by omega)]
      unfold takB drpB
      rw [e]; rfl
theorem key_f (s : ByteArray) (hs : s.size ≤ 100000) (k : Nat) (hk : s.size + 2 < k) : glacisref05_Key.f k s = some (refK (rdKey s)) := by
  unfold glacisref05_Key.f rdKey
  obtain ⟨k, rfl⟩ : ∃ k', k = k' + 1 := ⟨k - 1, by omega⟩
  rw [glacisref05_Key.l0]
  by_cases h0 : 0 < s.size
  · obtain ⟨c, hc⟩ := bt_u s 0 h0
    have hc' : bt s 0 = (c.toNat : Int) := hc
    rw [if_pos (by omega), if_pos (by omega), hc', show ((0 : Int) == 0) = true from rfl, small_u c]
    simp only [Option.bind_some]
    by_cases hf : smP c.toNat = true ∨ (c.toNat : Int) = 42
    · have e : (smP c.toNat || decide ((c.toNat : Int) = 42)) = true := by
        rcases hf with h | h
        · rw [h]; rfl
        · rw [decide_eq_true h, Bool.or_true]
      rw [if_pos e, if_pos ⟨h0, hf⟩]
      rw [show wrap64 ((0 : Int) + 1) = ((0 + 1 : Nat) : Int) from wrap_id _ (by omega)]
      have := key_l s hs h0 (by rw [hc']; exact hf) (s.size - 1) 0 k (by omega) (by omega) (fun j hj => by
        obtain rfl : j = 0 := by omega
        rw [hc]; exact (key_first c hf).1)
      exact this
    · have e : (smP c.toNat || decide ((c.toNat : Int) = 42)) = false := by
        rw [Bool.or_eq_false_iff]
        exact ⟨Bool.eq_false_iff.mpr (fun h => hf (Or.inl h)), decide_eq_false (fun h => hf (Or.inr h))⟩
      rw [e, if_neg (by decide), if_pos trivial, if_neg (fun h => hf h.2)]; rfl
  · rw [if_neg (by omega), if_pos rfl, if_neg (fun h => h0 h.1)]; rfl
end Go.Proofs.YtbbaokjkmcfceaaGreatDoor.Pl
/- Chapter 5: the document's own reader: parameters, items, fields. -/
namespace Go.Proofs.YtbbaokjkmcfceaaGreatDoor.Pl
open Go.RowKit Go.Proofs.YtbbaokjkmcfceaaGreatDoor.Q Go.Proofs.YtbbaokjkmcfceaaGreatDoor.Sf Go.Proofs.YtbbaokjkmcfceaaGreatDoorW.PrintWords Go.Proofs.YtbbaokjkmcfceaaGreatDoorW.PrintLast
set_option linter.unusedVariables false
set_option linter.unusedSimpArgs false
theorem toList_inj {a b : ByteArray} : a.toList = b.toList ↔ a = b := ⟨fun h => L_inj (by rw [← L_toList, ← L_toList, h]), fun h => by rw [h]⟩
end Go.Proofs.YtbbaokjkmcfceaaGreatDoor.Pl
/- Chapter 5: the document's own texts of values, parameters and items are the program's. -/
namespace Go.Proofs.YtbbaokjkmcfceaaGreatDoor.Pl
open Go.RowKit Go.Proofs.YtbbaokjkmcfceaaGreatDoor.Q Go.Proofs.YtbbaokjkmcfceaaGreatDoor.Sf Go.Proofs.YtbbaokjkmcfceaaGreatDoorW.PrintWords Go.Proofs.YtbbaokjkmcfceaaGreatDoorW.PrintLast
set_option linter.unusedVariables false
set_option linter.unusedSimpArgs false
theorem itoa_s (n : Int) (h : -9000000000000000000 ≤ n ∧ n ≤ 9000000000000000000) : strconv_Itoa.f n = some (itoaBA n) := by
  unfold strconv_Itoa.f
  rw [if_pos (by omega)]
theorem fit2 (a b : Nat) (ha : a ≤ 1000000) (hb : b ≤ 1000000) : a + b ≤ 9223372036854775807 := by omega
def dgt (d : Nat) : List UInt8 := [UInt8.ofNat (48 + d)]
/-- The document's digits behind the point. -/
def refFr (r : Nat) : List UInt8 := dgt (r / 100) ++ ((if r % 100 = 0 then [] else dgt (r / 10 % 10)) ++ (if r % 10 = 0 then [] else dgt (r % 10)))
set_option maxRecDepth 100000 in
theorem fr_ref (r : Nat) (h : r < 1000) : refFr r = frL r := by
  have h1 : ((List.range 1000).all fun r => decide (refFr r = frL r)) = true := by decide +kernel
  exact of_decide_eq_true (List.all_eq_true.1 h1 r (List.mem_range.2 h))
theorem tm1000 (a : Nat) : Int.tmod (a : Int) 1000 = ((a % 1000 : Nat) : Int) := by rw [Int.tmod_eq_emod_of_nonneg (by omega)]; omega
theorem tm100 (a : Nat) : Int.tmod (a : Int) 100 = ((a % 100 : Nat) : Int) := by rw [Int.tmod_eq_emod_of_nonneg (by omega)]; omega
theorem tm10 (a : Nat) : Int.tmod (a : Int) 10 = ((a % 10 : Nat) : Int) := by rw [Int.tmod_eq_emod_of_nonneg (by omega)]; omega
theorem td1000 (a : Nat) : Int.tdiv (a : Int) 1000 = ((a / 1000 : Nat) : Int) := by rw [Int.tdiv_eq_ediv_of_nonneg (by omega)]; omega
theorem td100 (a : Nat) : Int.tdiv (a : Int) 100 = ((a / 100 : Nat) : Int) := by rw [Int.tdiv_eq_ediv_of_nonneg (by omega)]; omega
theorem td10 (a : Nat) : Int.tdiv (a : Int) 10 = ((a / 10 : Nat) : Int) := by rw [Int.tdiv_eq_ediv_of_nonneg (by omega)]; omega
theorem wrap_nat (a : Nat) (h : a ≤ 1000000000000000) : wrap64 (a : Int) = (a : Int) := wrap_id _ (by omega)
theorem itoa_nat (a : Nat) (h : a ≤ 1000000000000000) : strconv_Itoa.f (a : Int) = some (B (Lib.decDigits a)) := by
  rw [itoa_s _ (by omega)]
  refine congrArg some (L_inj ?_)
  rw [itoa_L, L_B]
  have : sgO (a : Int) = [] := by unfold sgO; rw [if_neg (by omega)]
  rw [this, Int.natAbs_natCast, List.nil_append]
theorem itoa_one (d : Nat) (h : d < 10) : strconv_Itoa.f (d : Int) = some (B (dgt d)) := by
  rw [itoa_nat d (by omega), Lib.decDigits, dif_pos h]; rfl
theorem zd (d : Nat) : (B (dgt d)).size = 1 := by rw [size_L, L_B]; rfl
theorem dec_fin (sg q x : ByteArray) (hs : sg.size ≤ 1) (hq : q.size ≤ 12) (hx : x.size ≤ 3) : (if sg.size + q.size ≤ 9223372036854775807 then (if (sg ++ q).size + 1 ≤ 9223372036854775807 then (if ((sg ++ q) ++ (⟨#[46]⟩ : ByteArray)).size + x.size ≤ 9223372036854775807 then (some (((sg ++ q) ++ (⟨#[46]⟩ : ByteArray)) ++ x)) else (none)) else (none)) else (none)) = some (((sg ++ q) ++ (⟨#[46]⟩ : ByteArray)) ++ x) := by
  have z46 : (⟨#[46]⟩ : ByteArray).size = 1 := rfl
  have a1 : (sg ++ q).size ≤ 13 := by rw [ByteArray.size_append]; omega
  have a2 : ((sg ++ q) ++ (⟨#[46]⟩ : ByteArray)).size ≤ 14 := by rw [ByteArray.size_append]; omega
  have f1 := fit2 sg.size q.size (by omega) (by omega)
  have f2 := fit2 (sg ++ q).size 1 (by omega) (by omega)
  have f3 := fit2 ((sg ++ q) ++ (⟨#[46]⟩ : ByteArray)).size x.size (by omega) (by omega)
  rw [if_pos f1, if_pos f2, if_pos f3]
def lastD (r : Nat) : ByteArray := if r % 10 = 0 then ⟨#[]⟩ else B (dgt (r % 10))
theorem dec_j1 (k m r : Nat) (sg x : ByteArray) (hm : m ≤ 999999999999999) (hs : sg.size ≤ 1) (hx : x.size ≤ 2) : glacisref05_decimal.j1 (k + 1) (m : Int) sg (r : Int) x = some (((sg ++ B (Lib.decDigits (m / 1000))) ++ (⟨#[46]⟩ : ByteArray)) ++ (x ++ lastD r)) := by
  have hq : (B (Lib.decDigits (m / 1000))).size ≤ 12 := by rw [size_L, L_B]; exact dec_len 11 _ (by omega)
  rw [glacisref05_decimal.j1, tm10, td1000, wrap_nat _ (by omega)]
  unfold lastD
  by_cases h : r % 10 = 0
  · rw [if_pos (show ((r % 10 : Nat) : Int) = 0 by omega), itoa_nat _ (by omega), if_pos h]
    simp only [Option.bind_some]
    rw [dec_fin sg _ x hs hq (by omega)]
    congr 1
    apply L_inj
    first | (simp only [L_app]; done) | (simp only [L_app]; show _ = _ ++ (L x ++ []); rw [List.append_nil])
  · have z := zd (r % 10)
    have f := fit2 x.size (B (dgt (r % 10))).size (by omega) (by omega)
    rw [if_neg (show ¬ ((r % 10 : Nat) : Int) = 0 by omega), itoa_one _ (by omega), if_neg h]
    simp only [Option.bind_some]
    rw [if_pos f, itoa_nat _ (by omega)]
    simp only [Option.bind_some]
    rw [dec_fin sg _ (x ++ B (dgt (r % 10))) hs hq (by rw [ByteArray.size_append]; omega)]
theorem dec_join (q u l : List UInt8) (sg x y : ByteArray) (hx : L x ++ L y = l) : ((sg ++ B q) ++ (⟨#[46]⟩ : ByteArray)) ++ (x ++ y) = B (L sg ++ (q ++ 46 :: l)) := by
  apply L_inj
  rw [L_app, L_app, L_app, L_app, L_B, L_B, hx]
  show ((L sg ++ q) ++ [46]) ++ l = _
  simp
theorem lastD_L (r : Nat) : L (lastD r) = if r % 10 = 0 then [] else dgt (r % 10) := by
  unfold lastD
  split
  · rfl
  · exact L_B _
theorem dec_j0 (k : Nat) (hk : 3 ≤ k) (m : Nat) (hm : m ≤ 999999999999999) (sg : ByteArray) (hs : sg.size ≤ 1) : glacisref05_decimal.j0 k (m : Int) sg = some (B (L sg ++ (Lib.decDigits (m / 1000) ++ 46 :: frL (m % 1000)))) := by
  obtain ⟨k, rfl⟩ : ∃ k', k = k' + 2 := ⟨k - 2, by omega⟩
  rw [glacisref05_decimal.j0, tm1000, td100, wrap_nat _ (by omega), tm100, td10, wrap_nat _ (by omega), tm10, itoa_one _ (by omega)]
  simp only [Option.bind_some]
  rw [← fr_ref (m % 1000) (by omega)]
  have z1 := zd (m % 1000 / 100)
  by_cases h : m % 1000 % 100 = 0
  · rw [if_pos (show ((m % 1000 % 100 : Nat) : Int) = 0 by omega), dec_j1 k m (m % 1000) sg _ hm hs (by omega)]
    rw [dec_join (Lib.decDigits (m / 1000)) [] (refFr (m % 1000)) sg _ _ (by rw [L_B, lastD_L]; unfold refFr; rw [if_pos h]; rfl)]
  · have z2 := zd (m % 1000 / 10 % 10)
    have f := fit2 (B (dgt (m % 1000 / 100))).size (B (dgt (m % 1000 / 10 % 10))).size (by omega) (by omega)
    rw [if_neg (show ¬ ((m % 1000 % 100 : Nat) : Int) = 0 by omega), itoa_one _ (by omega)]
    simp only [Option.bind_some]
    rw [if_pos f, dec_j1 k m (m % 1000) sg _ hm hs (by rw [ByteArray.size_append]; omega)]
    rw [dec_join (Lib.decDigits (m / 1000)) [] (refFr (m % 1000)) sg _ _ (by rw [L_app, L_B, L_B, lastD_L]; unfold refFr; rw [if_neg h, List.append_assoc])]
theorem decimal_f (k : Nat) (hk : 3 ≤ k) (i : Int) (h : -999999999999999 ≤ i ∧ i ≤ 999999999999999) : glacisref05_decimal.f k i = some (decB i) := by
  have e : decB i = B (sgO i ++ (Lib.decDigits (i.natAbs / 1000) ++ 46 :: frL (i.natAbs % 1000))) := by rw [← dec_L, B_L]
  unfold glacisref05_decimal.f
  rw [e]
  by_cases c : i < 0
  · have w : wrap64 (-i) = (i.natAbs : Int) := by rw [wrap_id _ (by omega)]; omega
    rw [if_pos c, w, dec_j0 k hk i.natAbs (by omega) _ (by decide)]
    unfold sgO
    rw [if_pos c]; rfl
  · have w : i = (i.natAbs : Int) := by omega
    rw [if_neg c]
    have := dec_j0 k hk i.natAbs (by omega) ⟨#[]⟩ (by decide)
    rw [← w] at this
    rw [this]
    unfold sgO
    rw [if_neg c]; rfl
theorem esc_snoc (u : List UInt8) (c : UInt8) : esc (u ++ [c]) = esc u ++ (if c.toNat = 34 ∨ c.toNat = 92 then [92, c] else [c]) := by unfold esc; rw [List.flatMap_append, List.flatMap_singleton]
theorem quo_end (k : Nat) (t o : ByteArray) (ho : o.size ≤ 5000) (i : Int) (h : ¬ i < (t.size : Int)) : glacisref05_Value.l0 (k + 1) t o i = some (B (34 :: (L o ++ [34])), true) := by
  have z1 : ((⟨#[34]⟩ : ByteArray) ++ o).size ≤ 6000 := by rw [ByteArray.size_append]; show 1 + o.size ≤ 6000; omega
  rw [glacisref05_Value.l0, if_neg h, if_pos (fit2 _ _ (by omega) (by omega)), if_pos (fit2 _ _ (by omega) (by omega))]
  have : (((⟨#[34]⟩ : ByteArray) ++ o) ++ (⟨#[34]⟩ : ByteArray)) = B (34 :: (L o ++ [34])) := by
    apply L_inj
    rw [L_app, L_app, L_B]; rfl
  rw [this]
theorem quo_bad (k i : Nat) (t o : ByteArray) (c : UInt8) (hi : i < t.size) (hc : bt t i = (c.toNat : Int)) (h : ¬ (32 ≤ c.toNat ∧ c.toNat ≤ 126)) : glacisref05_Value.l0 (k + 2) t o (i : Int) = some (⟨#[]⟩, false) := by
  rw [glacisref05_Value.l0, if_pos (by omega), if_pos (by omega), hc]
  by_cases h1 : (c.toNat : Int) < 32
  · rw [if_pos h1, glacisref05_Value.j3, if_pos rfl]
  · rw [if_neg h1, decide_eq_true (show (c.toNat : Int) > 126 by omega), glacisref05_Value.j3, if_pos rfl]
theorem quo_go (k i : Nat) (t o : ByteArray) (c : UInt8) (ht : t.size ≤ 1000) (hi : i < t.size) (ho : o.size ≤ 5000) (hc : bt t i = (c.toNat : Int)) (h : 32 ≤ c.toNat ∧ c.toNat ≤ 126) :
    ∃ o2, glacisref05_Value.l0 (k + 2) t o (i : Int) = glacisref05_Value.l0 k t o2 ((i + 1 : Nat) : Int) ∧ L o2 = L o ++ (if c.toNat = 34 ∨ c.toNat = 92 then [92, c] else [c]) := by
  have p1 : ((i : Int)) ≤ (((i + 1 : Nat) : Int)) := by omega
  have p2 : (((i + 1 : Nat) : Int)) ≤ (t.size : Int) := by omega
  have p3 : (0 : Int) ≤ (i : Int) := by omega
  have p4 : (i : Int) < (t.size : Int) := by omega
  have hw := wrap_next i (by omega)
  have hl : i < (L t).length := by rw [← size_L]; exact hi
  have e1 : L (t.extract i (i + 1)) = [c] := by
    rw [L_extm, drop_cons _ _ hl, show i + 1 - i = 1 by omega]
    have : (L t)[i] = c := u_eq (by rw [← bt_L t i hl, hc])
    rw [this]; rfl
  have z1 := ext_size t i hi
  have z2 : (o ++ (⟨#[92]⟩ : ByteArray)).size ≤ 6000 := by rw [ByteArray.size_append]; show o.size + 1 ≤ 6000; omega
  have n1 : ¬ (c.toNat : Int) < 32 := by omega
  have n2 : ¬ (c.toNat : Int) > 126 := by omega
  have f1 := fit2 o.size 1 (by omega) (by omega)
  have f2 := fit2 (o ++ (⟨#[92]⟩ : ByteArray)).size (t.extract i (i + 1)).size (by omega) (by omega)
  have f3 := fit2 o.size (t.extract i (i + 1)).size (by omega) (by omega)
  rw [glacisref05_Value.l0, if_pos p4, if_pos p3, hc, if_neg n1, decide_eq_false n2, glacisref05_Value.j3, if_neg (by decide), if_pos p3, if_pos p4, hc, hw]
  simp only [Int.toNat_natCast]
  by_cases c34 : (c.toNat : Int) = 34
  · refine ⟨(o ++ (⟨#[92]⟩ : ByteArray)) ++ t.extract i (i + 1), ?_, ?_⟩
    · rw [if_pos c34, if_pos f1, if_pos p1, if_pos p2, if_pos f2]
    · rw [L_app, L_app, e1, if_pos (Or.inl (by omega))]
      show (L o ++ [92]) ++ [c] = _
      simp
  · rw [if_neg c34]
    by_cases c92 : (c.toNat : Int) = 92
    · refine ⟨(o ++ (⟨#[92]⟩ : ByteArray)) ++ t.extract i (i + 1), ?_, ?_⟩
      · rw [if_pos c92, if_pos f1, if_pos p1, if_pos p2, if_pos f2]
      · rw [L_app, L_app, e1, if_pos (Or.inr (by omega))]
        show (L o ++ [92]) ++ [c] = _
        simp
    · refine ⟨o ++ t.extract i (i + 1), ?_, ?_⟩
      · rw [if_neg c92, if_pos p1, if_pos p2, if_pos f3]
      · rw [L_app, e1, if_neg (by omega)]
theorem quo_l (t : ByteArray) (ht : t.size ≤ 1000) : ∀ (m i k : Nat) (o : ByteArray), i + m = t.size → 2 * m < k → L o = esc ((L t).take i) → Plain ((L t).take i) →
    ∃ o' b, glacisref05_Value.l0 k t o (i : Int) = some (o', b) ∧ (b = true ↔ Plain (L t)) ∧ (Plain (L t) → o' = B (34 :: (esc (L t) ++ [34])))
  | 0, i, k, o, hm, hk, ho, hp => by
    obtain ⟨k, rfl⟩ : ∃ k', k = k' + 1 := ⟨k - 1, by omega⟩
    have e : (L t).take i = L t := List.take_of_length_le (by rw [← size_L]; omega)
    rw [e] at ho hp
    have hz : o.size ≤ 5000 := by
      have := esc_len (L t)
      rw [size_L, ho]
      rw [size_L] at ht
      omega
    exact ⟨_, true, quo_end k t o hz i (by omega), ⟨fun _ => hp, fun _ => rfl⟩, fun _ => by rw [ho]⟩
  | m + 1, i, k, o, hm, hk, ho, hp => by
    obtain ⟨k, rfl⟩ : ∃ k', k = k' + 2 := ⟨k - 2, by omega⟩
    have hi : i < t.size := by omega
    have hl : i < (L t).length := by rw [← size_L]; exact hi
    have hc : bt t i = ((L t)[i].toNat : Int) := bt_L t i hl
    have et := take_snoc (L t) i hl
    by_cases h : 32 ≤ (L t)[i].toNat ∧ (L t)[i].toNat ≤ 126
    · have hz : o.size ≤ 5000 := by
        have := esc_len ((L t).take i)
        rw [size_L, ho]
        rw [size_L] at ht
        rw [List.length_take] at this
        omega
      obtain ⟨o2, h1, h2⟩ := quo_go k i t o _ ht hi hz hc h
      rw [h1]
      refine quo_l t ht m (i + 1) k o2 (by omega) (by omega) ?_ ?_
      · rw [h2, ho, et, esc_snoc]
      · rw [et]
        intro c hcm
        rcases List.mem_append.1 hcm with hcm | hcm
        · exact hp c hcm
        · rw [List.mem_singleton.1 hcm]; exact h
    · have hn : ¬ Plain (L t) := fun hP => h (hP _ (List.getElem_mem hl))
      exact ⟨⟨#[]⟩, false, quo_bad k i t o _ hi hc h, ⟨fun e => by (cases e), fun hP => absurd hP hn⟩, fun hP => absurd hP hn⟩
theorem rd_whole {s : ByteArray} {n i : Int} {t : List UInt8} (h : VT (L s) n i t) : rdValue s = some ((n, i, B t), B []) := value_read h [] Ends.nil s (by simp)
theorem tok_case (t : ByteArray) (ht : t.size ≤ 20000) (k : Nat) (hk : 50000 < k) (m : Int) : ∃ b, sfitem_whole.f t m = some b ∧ ((glacisref05_value.f k t).bind fun bt310 => (if bt310.2.2.2.2.2 = true then (if bt310.2.2.2.2.1.toList = ([] : List UInt8) then some (t, (bt310.2.1 == m)) else some (t, false)) else some (t, false))) = some (t, b) := by
  rw [value_f t (by omega) k (by omega)]
  simp only [Option.bind_some]
  cases hV : rdValue t with
  | none =>
    refine ⟨false, ?_, by rw [if_neg (show ¬ (refV none).2.2.2.2.2 = true by decide)]⟩
    obtain ⟨b, hb⟩ := whole_any t m (by omega)
    cases b with
    | false => exact hb
    | true =>
      obtain ⟨i, t', h⟩ := whole_inv hb
      rw [rd_whole h] at hV; cases hV
  | some vr =>
    obtain ⟨⟨n, i, tx⟩, r⟩ := vr
    rw [if_pos (show (refV (some ((n, i, tx), r))).2.2.2.2.2 = true from rfl)]
    by_cases hr : r.toList = ([] : List UInt8)
    · obtain ⟨u, a1, a2⟩ := value_inv hV
      rw [L_toList] at hr
      rw [hr, List.append_nil] at a1
      rw [← a1] at a2
      refine ⟨decide (n = m), whole_of a2 (by omega) m, ?_⟩
      rw [if_pos (show (refV (some ((n, i, tx), r))).2.2.2.2.1.toList = ([] : List UInt8) by rw [L_toList]; exact hr)]
      show some (t, (n == m)) = _
      rw [show (n == m) = decide (n = m) from rfl]
    · refine ⟨false, ?_, by rw [if_neg (show ¬ (refV (some ((n, i, tx), r))).2.2.2.2.1.toList = ([] : List UInt8) from hr)]⟩
      obtain ⟨b, hb⟩ := whole_any t m (by omega)
      cases b with
      | false => exact hb
      | true =>
        obtain ⟨i', t', h⟩ := whole_inv hb
        rw [rd_whole h] at hV
        have hV := Option.some.inj hV
        simp only [Prod.mk.injEq] at hV
        rw [← hV.2, L_toList, L_B] at hr
        exact absurd rfl hr
theorem byt_case (t : ByteArray) (ht : t.size ≤ 1000) (k : Nat) (hk : 50000 < k) : ∃ b, sfitem_whole.f (((⟨#[58]⟩ : ByteArray) ++ t) ++ (⟨#[58]⟩ : ByteArray)) 5 = some b ∧ ((glacisref05_value.f k (((⟨#[58]⟩ : ByteArray) ++ t) ++ (⟨#[58]⟩ : ByteArray))).bind fun bt317 => (if bt317.2.2.2.2.2 = true then (if bt317.2.2.2.2.1.toList = ([] : List UInt8) then (if bt317.2.1 = 5 then (some (((⟨#[58]⟩ : ByteArray) ++ t) ++ (⟨#[58]⟩ : ByteArray), (bt317.2.2.2.1.toList == t.toList))) else (some (((⟨#[58]⟩ : ByteArray) ++ t) ++ (⟨#[58]⟩ : ByteArray), false))) else (some (((⟨#[58]⟩ : ByteArray) ++ t) ++ (⟨#[58]⟩ : ByteArray), false))) else (some (((⟨#[58]⟩ : ByteArray) ++ t) ++ (⟨#[58]⟩ : ByteArray), false)))) = some (((⟨#[58]⟩ : ByteArray) ++ t) ++ (⟨#[58]⟩ : ByteArray), b) := by
  have eL : L (((⟨#[58]⟩ : ByteArray) ++ t) ++ (⟨#[58]⟩ : ByteArray)) = 58 :: (L t ++ [58]) := by rw [L_app, L_app]; rfl
  have hz : (((⟨#[58]⟩ : ByteArray) ++ t) ++ (⟨#[58]⟩ : ByteArray)).size ≤ 2000 := by rw [size_L, eL]; rw [size_L] at ht; simp only [List.length_cons, List.length_append, List.length_nil]; omega
  generalize ((⟨#[58]⟩ : ByteArray) ++ t) ++ (⟨#[58]⟩ : ByteArray) = s at *
  rw [value_f s (by omega) k (by omega)]
  simp only [Option.bind_some]
  cases hV : rdValue s with
  | none =>
    refine ⟨false, ?_, by rw [if_neg (show ¬ (refV none).2.2.2.2.2 = true by decide)]⟩
    obtain ⟨b, hb⟩ := whole_any s 5 (by omega)
    cases b with
    | false => exact hb
    | true =>
      obtain ⟨i, t', h⟩ := whole_inv hb
      rw [rd_whole h] at hV; cases hV
  | some vr =>
    obtain ⟨⟨n, i, tx⟩, r⟩ := vr
    rw [if_pos (show (refV (some ((n, i, tx), r))).2.2.2.2.2 = true from rfl)]
    by_cases hr : r.toList = ([] : List UInt8)
    · obtain ⟨u, a1, a2⟩ := value_inv hV
      rw [L_toList] at hr
      rw [hr, List.append_nil] at a1
      rw [← a1] at a2
      refine ⟨decide (n = 5), whole_of a2 (by omega) 5, ?_⟩
      rw [if_pos (show (refV (some ((n, i, tx), r))).2.2.2.2.1.toList = ([] : List UInt8) by rw [L_toList]; exact hr)]
      by_cases h5 : n = 5
      · rw [if_pos (show (refV (some ((n, i, tx), r))).2.1 = 5 from h5), decide_eq_true h5]
        have a3 : VT (L s) 5 i (L tx) := by rw [← h5]; exact a2
        obtain ⟨_, hu⟩ := byt_inv a3
        rw [eL] at hu
        have : L t = L tx := by simpa using hu
        show some (s, (tx.toList == t.toList)) = _
        rw [L_toList, L_toList, this]; simp
      · rw [if_neg (show ¬ (refV (some ((n, i, tx), r))).2.1 = 5 from h5), decide_eq_false h5]
    · refine ⟨false, ?_, by rw [if_neg (show ¬ (refV (some ((n, i, tx), r))).2.2.2.2.1.toList = ([] : List UInt8) from hr)]⟩
      obtain ⟨b, hb⟩ := whole_any s 5 (by omega)
      cases b with
      | false => exact hb
      | true =>
        obtain ⟨i', t', h⟩ := whole_inv hb
        rw [rd_whole h] at hV
        have hV := Option.some.inj hV
        simp only [Prod.mk.injEq] at hV
        rw [← hV.2, L_toList, L_B] at hr
        exact absurd rfl hr
end Go.Proofs.YtbbaokjkmcfceaaGreatDoor.Pl
/- Chapter 5: the document's own texts of values, parameters and items are the program's: all kinds. -/
namespace Go.Proofs.YtbbaokjkmcfceaaGreatDoor.Pl
open Go.RowKit Go.Proofs.YtbbaokjkmcfceaaGreatDoor.Q Go.Proofs.YtbbaokjkmcfceaaGreatDoor.Sf Go.Proofs.YtbbaokjkmcfceaaGreatDoorW.PrintWords Go.Proofs.YtbbaokjkmcfceaaGreatDoorW.PrintLast
set_option linter.unusedVariables false
set_option linter.unusedSimpArgs false
def Small15 (i : Int) : Prop := -999999999999999 ≤ i ∧ i ≤ 999999999999999
/-- j1 where the value may not be. -/
theorem v_no (k : Nat) (n i : Int) (t : ByteArray) : glacisref05_Value.j1 (k + 1) n i t true = some (⟨#[]⟩, false) := by
  rw [glacisref05_Value.j1, if_pos rfl]
theorem v_j0 (k : Nat) (n i : Int) (t : ByteArray) (b : Bool) (h : (b = true ∧ ¬ t.toList = ([] : List UInt8)) ∨ (b = false ∧ ¬ i = 0) ∨ i < -999999999999999 ∨ i > 999999999999999) : glacisref05_Value.j0 (k + 2) n i t b = some (⟨#[]⟩, false) := by
  rw [glacisref05_Value.j0]
  have hr : (if i < (-999999999999999) then glacisref05_Value.j1 (k + 1) n i t true else glacisref05_Value.j1 (k + 1) n i t (decide (i > 999999999999999))) = some (⟨#[]⟩, false) ∨ ¬ (i < -999999999999999 ∨ i > 999999999999999) := by
    by_cases h1 : i < -999999999999999
    · exact Or.inl (by rw [if_pos h1]; exact v_no k n i t)
    · by_cases h2 : i > 999999999999999
      · exact Or.inl (by rw [if_neg h1, decide_eq_true h2]; exact v_no k n i t)
      · exact Or.inr (by rintro (h | h); exact h1 h; exact h2 h)
  cases b with
  | true =>
    rw [if_pos rfl]
    by_cases ht : t.toList = ([] : List UInt8)
    · rw [if_pos ht]
      rcases hr with hr | hr
      · exact hr
      · rcases h with h | h | h
        · exact absurd ht h.2
        · exact absurd h.1 (by decide)
        · exact absurd h hr
    · rw [if_neg ht]; exact v_no k n i t
  | false =>
    rw [if_neg (by decide)]
    by_cases h0 : i = 0
    · rw [if_pos h0]
      rcases hr with hr | hr
      · exact hr
      · rcases h with h | h | h
        · exact absurd h.1 (by decide)
        · exact absurd h0 h.2
        · exact absurd h hr
    · rw [if_neg h0]; exact v_no k n i t
theorem v_yes (k : Nat) (n i : Int) (t : ByteArray) (b : Bool) (h : Small15 i) (hb : (b = true ∧ t.toList = ([] : List UInt8)) ∨ (b = false ∧ i = 0)) : glacisref05_Value.j0 (k + 2) n i t b = glacisref05_Value.j1 (k + 1) n i t false := by
  have h1 : ¬ i < -999999999999999 := by unfold Small15 at h; omega
  have h2 : ¬ i > 999999999999999 := by unfold Small15 at h; omega
  rw [glacisref05_Value.j0]
  rcases hb with ⟨rfl, ht⟩ | ⟨rfl, h0⟩
  · rw [if_pos rfl, if_pos ht, if_neg h1, decide_eq_false h2]
  · rw [if_neg (by decide), if_pos h0, if_neg h1, decide_eq_false h2]
theorem v_num (k : Nat) (n i : Int) (t : ByteArray) (h : n = 1 ∨ n = 2 ∨ n = 6) : glacisref05_Value.f k n i t = glacisref05_Value.j0 k n i t true := by
  unfold glacisref05_Value.f
  by_cases h1 : n = 1
  · rw [if_pos h1]
  rw [if_neg h1]
  by_cases h2 : n = 2
  · rw [if_pos h2]
  rw [if_neg h2]
  have h6 : n = 6 := by rcases h with h | h | h; exact absurd h h1; exact absurd h h2; exact h
  rw [h6]; rfl
theorem v_oth (k : Nat) (n i : Int) (t : ByteArray) (h1 : n ≠ 1) (h2 : n ≠ 2) (h6 : n ≠ 6) : glacisref05_Value.f k n i t = glacisref05_Value.j0 k n i t false := by
  unfold glacisref05_Value.f
  rw [if_neg h1, if_neg h2, beq_eq_false_iff_ne.2 h6]
set_option maxRecDepth 100000 in
theorem flag_zero : (Go.bits .andNot .i64 0 1 == 0) = true := by decide +kernel
set_option maxRecDepth 100000 in
theorem flag_one : (Go.bits .andNot .i64 1 1 == 0) = true := by decide +kernel
/-- The document's text of a value, and the program's: whether it may be is the same; if it may be, so is the text. -/
theorem Value_f (key : ByteArray) (n i : Int) (t : ByteArray) (ht : t.size ≤ 1000) (k : Nat) (hk : 100000 < k) : ∃ o b o', sfitem_value.f key n i t = some (o, b) ∧ glacisref05_Value.f k n i t = some (o', b) ∧ (b = true → o' = o) ∧ o.size ≤ 2 * t.size + 20 := by
  obtain ⟨o, b, hv, hvz⟩ := value_any key n i t ht
  obtain ⟨k, rfl⟩ : ∃ k', k = k' + 2 := ⟨k - 2, by omega⟩
  by_cases hi : i < -999999999999999 ∨ 999999999999999 < i
  · have e : sfitem_value.f key n i t = some (⟨#[]⟩, false) := by
      unfold sfitem_value.f
      rw [if_neg (by omega), if_pos hi]
    have e2 : glacisref05_Value.f (k + 2) n i t = some (⟨#[]⟩, false) := by
      by_cases h : n = 1 ∨ n = 2 ∨ n = 6
      · rw [v_num _ _ _ _ h]; exact v_j0 k n i t true (Or.inr (Or.inr hi))
      · rw [v_oth _ _ _ _ (fun e => h (Or.inl e)) (fun e => h (Or.inr (Or.inl e))) (fun e => h (Or.inr (Or.inr e)))]; exact v_j0 k n i t false (Or.inr (Or.inr hi))
    exact ⟨_, _, _, e, e2, fun _ => rfl, by show (0 : Nat) ≤ _; omega⟩
  have hs : Small15 i := by unfold Small15; omega
  have hz : ¬ ¬ t.size ≤ 2199023255540 := by omega
  have etl : t.toList.isEmpty = decide (t.toList = ([] : List UInt8)) := by
    cases t.toList with
    | nil => rfl
    | cons a l => rfl
  by_cases h1 : n = 1
  · have e : sfitem_value.f key n i t = some (itoaBA i, t.toList.isEmpty) := by unfold sfitem_value.f; rw [if_neg hz, if_neg hi, if_pos h1]
    have hz2 : (itoaBA i).size ≤ 2 * t.size + 20 := by have := itoa_len i hs; omega
    rw [v_num _ _ _ _ (Or.inl h1)]
    by_cases he : t.toList = ([] : List UInt8)
    · refine ⟨_, _, itoaBA i, e, ?_, fun _ => rfl, hz2⟩
      rw [v_yes k n i t true hs (Or.inl ⟨rfl, he⟩), glacisref05_Value.j1, if_neg (by decide), if_pos h1, itoa_s i (by unfold Small15 at hs; omega), etl, decide_eq_true he]
      rfl
    · refine ⟨_, _, ⟨#[]⟩, e, ?_, fun h => ?_, hz2⟩
      · rw [v_j0 k n i t true (Or.inl ⟨rfl, he⟩), etl, decide_eq_false he]
      · rw [etl, decide_eq_false he] at h; cases h
  by_cases h2 : n = 2
  · have e : sfitem_value.f key n i t = some (decB i, t.toList.isEmpty) := by unfold sfitem_value.f; rw [if_neg hz, if_neg hi, if_neg h1, if_pos h2]
    have hz2 : (decB i).size ≤ 2 * t.size + 20 := by have := dec_size i hs; omega
    rw [v_num _ _ _ _ (Or.inr (Or.inl h2))]
    by_cases he : t.toList = ([] : List UInt8)
    · refine ⟨_, _, decB i, e, ?_, fun _ => rfl, hz2⟩
      rw [v_yes k n i t true hs (Or.inl ⟨rfl, he⟩), glacisref05_Value.j1, if_neg (by decide), if_neg h1, if_pos h2, decimal_f k (by omega) i hs, etl, decide_eq_true he]
      rfl
    · refine ⟨_, _, ⟨#[]⟩, e, ?_, fun h => ?_, hz2⟩
      · rw [v_j0 k n i t true (Or.inl ⟨rfl, he⟩), etl, decide_eq_false he]
      · rw [etl, decide_eq_false he] at h; cases h
  by_cases h6 : n = 6
  · have hz2 : ((⟨#[63]⟩ : ByteArray) ++ itoaBA i).size ≤ 2 * t.size + 20 := by have := itoa_len i hs; rw [ByteArray.size_append]; show 1 + _ ≤ _; omega
    have hz3 : 1 + (itoaBA i).size ≤ 9223372036854775807 := by have := itoa_len i hs; exact fit2 _ _ (by omega) (by omega)
    rw [v_num _ _ _ _ (Or.inr (Or.inr h6))]
    by_cases he : t.toList = ([] : List UInt8)
    · have e : sfitem_value.f key n i t = some ((⟨#[63]⟩ : ByteArray) ++ itoaBA i, Go.bits .andNot .i64 i 1 == 0) := by unfold sfitem_value.f; rw [if_neg hz, if_neg hi, if_neg h1, if_neg h2, if_pos h6, if_pos (beq_iff_eq.2 he)]
      refine ⟨_, _, (⟨#[63]⟩ : ByteArray) ++ itoaBA i, e, ?_, fun _ => rfl, hz2⟩
      rw [v_yes k n i t true hs (Or.inl ⟨rfl, he⟩), glacisref05_Value.j1, if_neg (by decide), if_neg h1, if_neg h2, if_pos h6, itoa_s i (by unfold Small15 at hs; omega)]
      simp only [Option.bind_some]
      rw [if_pos hz3]
      by_cases z0 : i = 0
      · subst z0; rw [if_pos rfl, flag_zero]
      · rw [if_neg z0]
        by_cases z1 : i = 1
        · subst z1; rw [flag_one]; rfl
        · have : (Go.bits .andNot .i64 i 1 == 0) = false := by
            cases hb : (Go.bits .andNot .i64 i 1 == 0) with
            | false => rfl
            | true => rcases flag_of i hs hb with h | h; exact absurd h z0; exact absurd h z1
          rw [this, beq_eq_false_iff_ne.2 z1]
    · have e : sfitem_value.f key n i t = some ((⟨#[63]⟩ : ByteArray) ++ itoaBA i, false) := by unfold sfitem_value.f; rw [if_neg hz, if_neg hi, if_neg h1, if_neg h2, if_pos h6, if_neg (by rw [beq_iff_eq]; exact he)]
      exact ⟨_, _, ⟨#[]⟩, e, v_j0 k n i t true (Or.inl ⟨rfl, he⟩), fun h => (by cases h), hz2⟩
  rw [v_oth _ _ _ _ h1 h2 h6]
  by_cases h3 : n = 3
  · have e : sfitem_value.f key n i t = some (textF i t) := by unfold sfitem_value.f; rw [if_neg hz, if_neg hi, if_neg h1, if_neg h2, if_neg h6, if_pos h3]
    have hzt : (textF i t).1.size ≤ 2 * t.size + 20 := by
      rw [e] at hv; have := Option.some.inj hv
      rw [this]; exact hvz
    by_cases h0 : i = 0
    · have hq := quo_l t ht t.size 0 k ⟨#[]⟩ (by omega) (by omega) rfl (fun c hc => by cases hc)
      obtain ⟨o', b', q1, q2, q3⟩ := hq
      have e2 : glacisref05_Value.j0 (k + 2) n i t false = some (o', b') := by
        rw [v_yes k n i t false hs (Or.inr ⟨rfl, h0⟩), glacisref05_Value.j1, if_neg (by decide), if_neg h1, if_neg h2, if_neg h6, if_pos h3]
        exact q1
      by_cases hp : Plain (L t)
      · have eb : b' = true := q2.2 hp
        subst eb
        rw [text_plain t i hp] at e hzt
        have : (i == 0) = true := beq_iff_eq.2 h0
        rw [this] at e
        exact ⟨_, _, o', e, e2, fun _ => q3 hp, hzt⟩
      · have eb : b' = false := by
          cases b' with
          | false => rfl
          | true => exact absurd (q2.1 rfl) hp
        subst eb
        rw [text_bad t i hp] at e
        have hzz : (⟨#[]⟩ : ByteArray).size ≤ 2 * t.size + 20 := by show (0 : Nat) ≤ _; omega
        exact ⟨_, _, o', e, e2, fun h => (by cases h), hzz⟩
    · have e2 := v_j0 k n i t false (Or.inr (Or.inl ⟨rfl, h0⟩))
      have eb : (textF i t).2 = false := by
        by_cases hp : Plain (L t)
        · rw [text_plain t i hp]; exact beq_eq_false_iff_ne.2 h0
        · rw [text_bad t i hp]
      have e' : sfitem_value.f key n i t = some ((textF i t).1, false) := by rw [e, ← eb]
      exact ⟨_, _, _, e', e2, fun h => (by cases h), hzt⟩
  by_cases h4 : n = 4
  · by_cases h0 : i = 0
    · obtain ⟨b, c1, c2⟩ := tok_case t (by omega) k (by omega) 4
      have e : sfitem_value.f key n i t = some (t, b) := by unfold sfitem_value.f; rw [if_neg hz, if_neg hi, if_neg h1, if_neg h2, if_neg h6, if_neg h3, if_pos h4, if_pos h0, c1]; rfl
      refine ⟨_, _, t, e, ?_, fun _ => rfl, by omega⟩
      rw [v_yes k n i t false hs (Or.inr ⟨rfl, h0⟩), glacisref05_Value.j1, if_neg (by decide), if_neg h1, if_neg h2, if_neg h6, if_neg h3, if_pos h4]
      exact c2
    · have e : sfitem_value.f key n i t = some (t, false) := by unfold sfitem_value.f; rw [if_neg hz, if_neg hi, if_neg h1, if_neg h2, if_neg h6, if_neg h3, if_pos h4, if_neg h0]
      exact ⟨_, _, _, e, v_j0 k n i t false (Or.inr (Or.inl ⟨rfl, h0⟩)), fun h => (by cases h), by omega⟩
  by_cases h5 : n = 5
  · have z2 : (((⟨#[58]⟩ : ByteArray) ++ t) ++ (⟨#[58]⟩ : ByteArray)).size = 1 + t.size + 1 := by rw [ByteArray.size_append, ByteArray.size_append]; rfl
    have z3 : ((⟨#[58]⟩ : ByteArray) ++ t).size = 1 + t.size := by rw [ByteArray.size_append]; rfl
    by_cases h0 : i = 0
    · obtain ⟨b, c1, c2⟩ := byt_case t ht k (by omega)
      have e : sfitem_value.f key n i t = some (((⟨#[58]⟩ : ByteArray) ++ t) ++ (⟨#[58]⟩ : ByteArray), b) := by unfold sfitem_value.f; rw [if_neg hz, if_neg hi, if_neg h1, if_neg h2, if_neg h6, if_neg h3, if_neg h4, if_pos h5, if_pos h0, c1]; rfl
      refine ⟨_, _, ((⟨#[58]⟩ : ByteArray) ++ t) ++ (⟨#[58]⟩ : ByteArray), e, ?_, fun _ => rfl, by omega⟩
      have f1 := fit2 1 t.size (by omega) (by omega)
      have f2 := fit2 ((⟨#[58]⟩ : ByteArray) ++ t).size 1 (by omega) (by omega)
      rw [v_yes k n i t false hs (Or.inr ⟨rfl, h0⟩), glacisref05_Value.j1, if_neg (by decide), if_neg h1, if_neg h2, if_neg h6, if_neg h3, if_neg h4, if_pos h5, if_pos f1, if_pos f2]
      exact c2
    · have e : sfitem_value.f key n i t = some (((⟨#[58]⟩ : ByteArray) ++ t) ++ (⟨#[58]⟩ : ByteArray), false) := by unfold sfitem_value.f; rw [if_neg hz, if_neg hi, if_neg h1, if_neg h2, if_neg h6, if_neg h3, if_neg h4, if_pos h5, if_neg h0]
      exact ⟨_, _, _, e, v_j0 k n i t false (Or.inr (Or.inl ⟨rfl, h0⟩)), fun h => (by cases h), by omega⟩
  have e : sfitem_value.f key n i t = some (⟨#[]⟩, false) := by unfold sfitem_value.f; rw [if_neg hz, if_neg hi, if_neg h1, if_neg h2, if_neg h6, if_neg h3, if_neg h4, if_neg h5]
  have hzz : (⟨#[]⟩ : ByteArray).size ≤ 2 * t.size + 20 := by show (0 : Nat) ≤ _; omega
  by_cases h0 : i = 0
  · refine ⟨_, _, ⟨#[]⟩, e, ?_, fun _ => rfl, hzz⟩
    rw [v_yes k n i t false hs (Or.inr ⟨rfl, h0⟩), glacisref05_Value.j1, if_neg (by decide), if_neg h1, if_neg h2, if_neg h6, if_neg h3, if_neg h4, if_neg h5]
  · exact ⟨_, _, ⟨#[]⟩, e, v_j0 k n i t false (Or.inr (Or.inl ⟨rfl, h0⟩)), fun _ => rfl, hzz⟩
end Go.Proofs.YtbbaokjkmcfceaaGreatDoor.Pl
/- Chapter 5: the document's own text of parameters and items is the program's. -/
namespace Go.Proofs.YtbbaokjkmcfceaaGreatDoor.Pl
open Go.RowKit Go.Proofs.YtbbaokjkmcfceaaGreatDoor.Q Go.Proofs.YtbbaokjkmcfceaaGreatDoor.Sf Go.Proofs.YtbbaokjkmcfceaaGreatDoorW.PrintWords Go.Proofs.YtbbaokjkmcfceaaGreatDoorW.PrintLast
set_option linter.unusedVariables false
set_option linter.unusedSimpArgs false
theorem flag_any {u : List UInt8} {i : Int} {t : List UInt8} (h : VT u 6 i t) : i = 0 ∨ i = 1 := by
  by_cases c : i = 0
  · exact Or.inl c
  · exact Or.inr (flag_inv h c).1
/-- What follows where no key stands there twice. -/
theorem tail_cont (k j : Nat) (l : List S43) (o v : ByteArray) (hl : l.length ≤ 100) (hj : j < l.length) (ho : o.size ≤ 900000) (hk : l[j].f0.size ≤ 1000) (hv : v.size ≤ 5000) (hf : l[j].f1 = 6 → l[j].f2 = 0 ∨ l[j].f2 = 1) :
    (if o.size + 1 ≤ 9223372036854775807 then (if (o ++ (⟨#[59]⟩ : ByteArray)).size + l[j].f0.size ≤ 9223372036854775807 then (if 0 ≤ (j : Int) then (if (j : Int) < (l.length : Int) then (if ((rd_T43 l (j : Int)).f1) = 6 then (if ((rd_T43 l (j : Int)).f2) = 1 then (glacisref05_Tail.l0 k l ((o ++ (⟨#[59]⟩ : ByteArray)) ++ l[j].f0) (wrap64 ((j : Int) + 1))) else (if ((o ++ (⟨#[59]⟩ : ByteArray)) ++ l[j].f0).size + 1 ≤ 9223372036854775807 then (if (((o ++ (⟨#[59]⟩ : ByteArray)) ++ l[j].f0) ++ (⟨#[61]⟩ : ByteArray)).size + v.size ≤ 9223372036854775807 then (glacisref05_Tail.l0 k l ((((o ++ (⟨#[59]⟩ : ByteArray)) ++ l[j].f0) ++ (⟨#[61]⟩ : ByteArray)) ++ v) (wrap64 ((j : Int) + 1))) else (none)) else (none))) else (if ((o ++ (⟨#[59]⟩ : ByteArray)) ++ l[j].f0).size + 1 ≤ 9223372036854775807 then (if (((o ++ (⟨#[59]⟩ : ByteArray)) ++ l[j].f0) ++ (⟨#[61]⟩ : ByteArray)).size + v.size ≤ 9223372036854775807 then (glacisref05_Tail.l0 k l ((((o ++ (⟨#[59]⟩ : ByteArray)) ++ l[j].f0) ++ (⟨#[61]⟩ : ByteArray)) ++ v) (wrap64 ((j : Int) + 1))) else (none)) else (none))) else (none)) else (none)) else (none)) else (none)) =
    glacisref05_Tail.l0 k l (partT l[j] o v) ((j + 1 : Nat) : Int) := by
  have z59 : (⟨#[59]⟩ : ByteArray).size = 1 := rfl
  have z61 : (⟨#[61]⟩ : ByteArray).size = 1 := rfl
  have s1 : (o ++ (⟨#[59]⟩ : ByteArray)).size ≤ 900001 := by rw [ByteArray.size_append]; omega
  have s2 : ((o ++ (⟨#[59]⟩ : ByteArray)) ++ l[j].f0).size ≤ 901001 := by rw [ByteArray.size_append]; omega
  have s3 : (((o ++ (⟨#[59]⟩ : ByteArray)) ++ l[j].f0) ++ (⟨#[61]⟩ : ByteArray)).size ≤ 901002 := by rw [ByteArray.size_append]; omega
  have p3 : (0 : Int) ≤ (j : Int) := by omega
  have p4 : (j : Int) < (l.length : Int) := by omega
  have hw := wrap_next j (by omega)
  have f1 := fit2 o.size 1 (by omega) (by omega)
  have f2 := fit2 (o ++ (⟨#[59]⟩ : ByteArray)).size l[j].f0.size (by omega) (by omega)
  have f3 := fit2 ((o ++ (⟨#[59]⟩ : ByteArray)) ++ l[j].f0).size 1 (by omega) (by omega)
  have f4 := fit2 (((o ++ (⟨#[59]⟩ : ByteArray)) ++ l[j].f0) ++ (⟨#[61]⟩ : ByteArray)).size v.size (by omega) (by omega)
  rw [if_pos f1, if_pos f2, if_pos p3, if_pos p4, rd_at5 l j hj, hw]
  have eA : partT l[j] o v = if l[j].f1 ≠ 6 ∨ l[j].f2 = 0 then (((o ++ (⟨#[59]⟩ : ByteArray)) ++ l[j].f0) ++ (⟨#[61]⟩ : ByteArray)) ++ v else (o ++ (⟨#[59]⟩ : ByteArray)) ++ l[j].f0 := by
    apply L_inj
    rw [part_L]
    split
    · rw [L_app, L_app, L_app, L_app]
      show _ = (((L o ++ [59]) ++ L l[j].f0) ++ [61]) ++ L v
      simp
    · rw [L_app, L_app]
      show _ = (L o ++ [59]) ++ L l[j].f0
      simp
  by_cases h6 : l[j].f1 = 6
  · rw [if_pos h6]
    by_cases h1 : l[j].f2 = 1
    · rw [if_pos h1, eA, if_neg (by rintro (h | h); exact h h6; rw [h1] at h; cases h)]
    · have h0 : l[j].f2 = 0 := (hf h6).resolve_right h1
      rw [if_neg h1, if_pos f3, if_pos f4, eA, if_pos (Or.inr h0)]
  · rw [if_neg h6, if_pos f3, if_pos f4, eA, if_pos (Or.inl h6)]
/-- Whether a key stands ahead. -/
theorem tail_l1 (l : List S43) (o v : ByteArray) (j : Nat) (hl : l.length ≤ 100) (hj : j < l.length) (ho : o.size ≤ 900000) (hk : l[j].f0.size ≤ 1000) (hv : v.size ≤ 5000) (hf : l[j].f1 = 6 → l[j].f2 = 0 ∨ l[j].f2 = 1) : ∀ (m x k : Nat), x + m = j → m < k →
    (l[j].f0 ∈ ((l.take j).drop x).map (·.f0) → glacisref05_Tail.l1 k l o (j : Int) l[j].f0 v (x : Int) = some (⟨#[]⟩, 50)) ∧
    (l[j].f0 ∉ ((l.take j).drop x).map (·.f0) → ∃ k', k ≤ k' + m + 1 ∧ glacisref05_Tail.l1 k l o (j : Int) l[j].f0 v (x : Int) = glacisref05_Tail.l0 k' l (partT l[j] o v) ((j + 1 : Nat) : Int))
  | 0, x, k, hm, hkk => by
    obtain ⟨k, rfl⟩ : ∃ k', k = k' + 1 := ⟨k - 1, by omega⟩
    have e : (l.take j).drop x = [] := List.drop_eq_nil_of_le (by rw [List.length_take]; omega)
    rw [e]
    refine ⟨fun h => (by cases h), fun _ => ⟨k, by omega, ?_⟩⟩
    rw [glacisref05_Tail.l1, if_neg (by omega)]
    exact tail_cont k j l o v hl hj ho hk hv hf
  | m + 1, x, k, hm, hkk => by
    obtain ⟨k, rfl⟩ : ∃ k', k = k' + 1 := ⟨k - 1, by omega⟩
    have hx : x < (l.take j).length := by rw [List.length_take]; omega
    have hxl : x < l.length := by omega
    have e : (l.take j).drop x = l[x] :: (l.take j).drop (x + 1) := by rw [List.drop_eq_getElem_cons hx, List.getElem_take]
    have ih := tail_l1 l o v j hl hj ho hk hv hf m (x + 1) k (by omega) (by omega)
    rw [glacisref05_Tail.l1, if_pos (by omega), if_pos (by omega), if_pos (by omega), rd_at5 l x hxl, wrap_next x (by omega), e, List.map_cons]
    by_cases h : l[x].f0 = l[j].f0
    · rw [if_pos (toList_inj.2 h)]
      refine ⟨fun _ => rfl, fun hn => absurd (by rw [h]; exact List.mem_cons_self ..) hn⟩
    · rw [if_neg (fun k => h (toList_inj.1 k))]
      refine ⟨fun hm' => ih.1 ((List.mem_cons.1 hm').resolve_left (fun k => h k.symm)), fun hn => ?_⟩
      obtain ⟨k', h1, h2⟩ := ih.2 (fun k => hn (List.mem_cons_of_mem _ k))
      exact ⟨k', by omega, h2⟩
theorem tail_l0 (l : List S43) (hl : l.length ≤ 100) (hs : ∀ q ∈ l, Short q) : ∀ (m j k : Nat) (o : ByteArray) (seen : List ByteArray), j + m = l.length → 200000 + 200 * m < k → (∀ x, x ∈ seen ↔ x ∈ (l.take j).map (·.f0)) → o.size + m * 4000 ≤ 500000 →
    ∃ r, tailF (l.drop j) seen o = some r ∧ glacisref05_Tail.l0 k l o (j : Int) = some r
  | 0, j, k, o, seen, hm, hk, hse, ho => by
    obtain ⟨k, rfl⟩ : ∃ k', k = k' + 1 := ⟨k - 1, by omega⟩
    have e : l.drop j = [] := List.drop_eq_nil_of_le (by omega)
    rw [e, tailF, glacisref05_Tail.l0, if_neg (by omega)]
    exact ⟨_, rfl, rfl⟩
  | m + 1, j, k, o, seen, hm, hk, hse, ho => by
    obtain ⟨k, rfl⟩ : ∃ k', k = k' + 2 := ⟨k - 2, by omega⟩
    have hj : j < l.length := by omega
    have hp := hs _ (List.getElem_mem hj)
    have hp1 := hp.1
    obtain ⟨v, b, v', e1, e2, e3, e4⟩ := Value_f l[j].f0 l[j].f1 l[j].f2 l[j].f3 hp.2 (k + 1) (by omega)
    have hp2 := hp.2
    rw [List.drop_eq_getElem_cons hj, tailF, e1]
    simp only [Option.bind_some]
    rw [if_neg (by simp only [Decidable.not_not]; refine ⟨by omega, by omega, by omega⟩)]
    have p3 : (0 : Int) ≤ (j : Int) := by omega
    have p4 : (j : Int) < (l.length : Int) := by omega
    rw [glacisref05_Tail.l0, if_pos p4, if_pos p3, rd_at5 l j hj, key_f _ (by omega) _ (by omega)]
    simp only [Option.bind_some]
    rw [e2]
    simp only [Option.bind_some]
    have no : ∀ x y : ByteArray, glacisref05_Tail.j1 (k + 1) l o (j : Int) x y true = some (⟨#[]⟩, 50) := fun x y => by rw [glacisref05_Tail.j1, if_pos rfl]
    by_cases hK : KT (L l[j].f0)
    · have hr := key_read (L l[j].f0) [] hK (fun c r' h => by cases h) l[j].f0 (by simp)
      rw [B_L] at hr
      rw [hr, if_pos (show (refK (some (l[j].f0, B []))).2.2 = 0 from rfl), if_pos (show (refK (some (l[j].f0, B []))).2.1.toList = ([] : List UInt8) by rw [L_toList]; exact L_B [])]
      cases b with
      | false =>
        have hb : badP l[j] false seen = true := by
          cases h : badP l[j] false seen with
          | true => rfl
          | false => exact absurd (bad_not h).2.1 (by decide)
        rw [hb, if_pos rfl]
        exact ⟨_, rfl, no _ _⟩
      | true =>
        have hvv := e3 rfl
        subst hvv
        have hf : l[j].f1 = 6 → l[j].f2 = 0 ∨ l[j].f2 = 1 := fun h6 => by
          have := value_back _ _ _ _ _ e1
          rw [h6] at this
          exact flag_any this
        have hl1 := tail_l1 l o v' j hl hj (by omega) hp1 (by omega) hf j 0 k (by omega) (by omega)
        rw [List.drop_zero] at hl1
        show ∃ r, _ ∧ glacisref05_Tail.j1 (k + 1) l o (j : Int) l[j].f0 v' (!true) = some r
        rw [glacisref05_Tail.j1, if_neg (show ¬ ((!true) = true) by decide)]
        by_cases hd : l[j].f0 ∈ (l.take j).map (·.f0)
        · have hb : badP l[j] true seen = true := by
            cases h : badP l[j] true seen with
            | true => rfl
            | false => exact absurd ((hse _).2 hd) (bad_not h).2.2
          rw [hb, if_pos rfl]
          exact ⟨_, rfl, hl1.1 hd⟩
        · rw [bad_of hK rfl (fun h => hd ((hse _).1 h)), if_neg (by decide)]
          obtain ⟨k', h1, h2⟩ := hl1.2 hd
          have hsz := part_size l[j] o v'
          obtain ⟨r, q1, q2⟩ := tail_l0 l hl hs m (j + 1) k' (partT l[j] o v') (l[j].f0 :: seen) (by omega) (by omega) (fun x => by
            rw [take_snoc l j hj, List.map_append, List.mem_cons, List.mem_append, hse x]
            simp only [List.map_cons, List.map_nil, List.mem_singleton]
            exact Or.comm) (by omega)
          exact ⟨r, q1, by rw [← q2]; exact h2⟩
    · have hb : badP l[j] b seen = true := by
        cases h : badP l[j] b seen with
        | true => rfl
        | false => exact absurd (bad_not h).1 hK
      rw [hb, if_pos rfl]
      refine ⟨_, rfl, ?_⟩
      by_cases c1 : (refK (rdKey l[j].f0)).2.2 = 0
      · rw [if_pos c1]
        by_cases c2 : (refK (rdKey l[j].f0)).2.1.toList = ([] : List UInt8)
        · exfalso
          apply hK
          have a1 : (keyF l[j].f0) = refK (rdKey l[j].f0) := by unfold keyF refK; cases rdKey l[j].f0 <;> rfl
          exact key_all (by rw [a1]; exact c1) (by rw [a1]; exact c2)
        · rw [if_neg c2]; exact no _ _
      · rw [if_neg c1]; exact no _ _
theorem Tail_f (l : List S43) (hl : l.length ≤ 100) (hs : ∀ q ∈ l, Short q) (k : Nat) (hk : 300000 ≤ k) : ∃ r, sfitem_Tail.f l = some r ∧ glacisref05_Tail.f k l = some r := by
  unfold sfitem_Tail.f glacisref05_Tail.f
  rw [if_pos (by omega)]
  have := tail_l0 l hl hs l.length 0 k ⟨#[]⟩ [] (by omega) (by omega) (fun x => by simp) (by show 0 + _ ≤ _; omega)
  exact this
theorem Text_f (n i : Int) (t : ByteArray) (l : List S43) (hl : l.length ≤ 100) (ht : t.size ≤ 1000) (hs : ∀ q ∈ l, Short q) (k : Nat) (hk : 300000 ≤ k) : ∃ r, sfitem_Text.f n i t l = some r ∧ glacisref05_Text.f k n i t l = some r := by
  obtain ⟨v, b, v', e1, e2, e3, e4⟩ := Value_f ⟨#[]⟩ n i t ht k (by omega)
  have z0 : (⟨#[]⟩ : ByteArray).size = 0 := rfl
  obtain ⟨o, e, ho, hoz⟩ := tail_any l [] ⟨#[]⟩ hs (by omega)
  obtain ⟨r, q1, q2⟩ := Tail_f l hl hs k hk
  have q3 : sfitem_Tail.f l = some (o, e) := by unfold sfitem_Tail.f; rw [if_pos (by omega), ho]
  obtain rfl : r = (o, e) := Option.some.inj (q1.symm.trans q3)
  unfold sfitem_Text.f glacisref05_Text.f
  rw [e1, e2, q1, q2]
  simp only [Option.bind_some]
  cases b with
  | false => exact ⟨_, rfl, rfl⟩
  | true =>
    rw [e3 rfl]
    have f := fit2 v.size o.size (by omega) (by omega)
    refine ⟨if e = 0 then (v ++ o, 0) else (⟨#[]⟩, 50), ?_, ?_⟩ <;>
    · by_cases he : e = 0
      · simp only [he, if_true, f]
      · simp only [he, if_true, if_false]
end Go.Proofs.YtbbaokjkmcfceaaGreatDoor.Pl
/- Any item's text, or its error, and its parameters' text, are what the document says: over the printed functions. -/
namespace Go.Proofs.YtbbaokjkmcfceaaGreatDoor.Pure
open Go.RowKit Go.Proofs.YtbbaokjkmcfceaaGreatDoor.Q Go.Proofs.YtbbaokjkmcfceaaGreatDoor.Sf Go.Proofs.YtbbaokjkmcfceaaGreatDoor.Pl Go.Proofs.YtbbaokjkmcfceaaGreatDoorW.PrintWords Go.Proofs.YtbbaokjkmcfceaaGreatDoorW.PrintLast
set_option linter.unusedVariables false
theorem few_loop (n i : Int) (t : ByteArray) (l : List S43) (hl : l.length ≤ 100) : ∀ (m j k : Nat), j + m = l.length → m < k →
    ∃ b, glacislaw05_few.l0 k (j : Int) n i t l = some b ∧ (b = true → ∀ q ∈ l.drop j, Short q)
  | 0, j, k, hm, hk => by
    obtain ⟨k, rfl⟩ : ∃ k', k = k' + 1 := ⟨k - 1, by omega⟩
    rw [glacislaw05_few.l0, if_neg (by omega)]
    exact ⟨true, rfl, fun _ q hq => by rw [List.drop_eq_nil_of_le (by omega)] at hq; cases hq⟩
  | m + 1, j, k, hm, hk => by
    obtain ⟨k, rfl⟩ : ∃ k', k = k' + 1 := ⟨k - 1, by omega⟩
    have hj : j < l.length := by omega
    rw [glacislaw05_few.l0, if_pos (by omega), if_pos (by omega), rd_at5 l j hj, wrap_next j (by omega)]
    by_cases c1 : (l[j].f0.size : Int) > 1000
    · rw [if_pos c1]; exact ⟨false, rfl, fun h => by cases h⟩
    rw [if_neg c1]
    by_cases c2 : (l[j].f3.size : Int) > 1000
    · rw [if_pos c2]; exact ⟨false, rfl, fun h => by cases h⟩
    rw [if_neg c2]
    obtain ⟨b, h1, h2⟩ := few_loop n i t l hl m (j + 1) k (by omega) (by omega)
    refine ⟨b, h1, fun hb q hq => ?_⟩
    rw [List.drop_eq_getElem_cons hj] at hq
    rcases List.mem_cons.1 hq with rfl | hq
    · exact ⟨by omega, by omega⟩
    · exact h2 hb q hq
theorem few_at (n i : Int) (t : ByteArray) (l : List S43) (k : Nat) (hk : 103 ≤ k) : ∃ b, glacislaw05_few.f k n i t l = some b ∧ (b = true → l.length ≤ 100 ∧ t.size ≤ 1000 ∧ ∀ q ∈ l, Short q) := by
  obtain ⟨k, rfl⟩ : ∃ k', k = k' + 1 := ⟨k - 1, by omega⟩
  unfold glacislaw05_few.f
  by_cases c : (l.length : Int) > 100
  · rw [if_pos c, glacislaw05_few.j0, if_pos rfl]; exact ⟨false, rfl, fun h => by cases h⟩
  rw [if_neg c]
  by_cases d : (t.size : Int) > 1000
  · rw [decide_eq_true d, glacislaw05_few.j0, if_pos rfl]; exact ⟨false, rfl, fun h => by cases h⟩
  rw [decide_eq_false d, glacislaw05_few.j0, if_neg (by decide)]
  obtain ⟨b, h1, h2⟩ := few_loop n i t l (by omega) l.length 0 k (by omega) (by omega)
  exact ⟨b, h1, fun hb => ⟨by omega, by omega, fun q hq => h2 hb q (by simpa using hq)⟩⟩
theorem SfitemTellsAll (n i : Int) (t : ByteArray) (l : List S43) : ∃ k, glacislaw05_SfitemTells.f k n i t l = some true := by
  refine ⟨400000, ?_⟩
  unfold glacislaw05_SfitemTells.f
  rw [awake05]
  simp only [Option.bind_some]
  obtain ⟨b, hb, hfew⟩ := few_at n i t l 400000 (by omega)
  rw [hb]
  simp only [Option.bind_some]
  cases b with
  | false => rw [if_neg (by decide)]
  | true =>
    obtain ⟨hl, ht, hsh⟩ := hfew rfl
    obtain ⟨r, a1, a2⟩ := Text_f n i t l hl ht hsh 400000 (by omega)
    obtain ⟨q, b1, b2⟩ := Tail_f l hl hsh 400000 (by omega)
    rw [if_pos rfl, a1, a2, b1, b2]
    simp
theorem SfitemTells : ∀ (a0_0 : Int) (a0_1 : Int) (a0_2 : ByteArray) (a0_3 : List S43), (Lit.int .i64 a0_0).wf = true → (Lit.int .i64 a0_1).wf = true → a0_2.size ≤ 140737488351232 → a0_3.length * 48 ≤ 140737488351232 → (∀ u0 : S43, u0 ∈ a0_3 → u0.f0.size ≤ 140737488351232 ∧ (Lit.int .i64 u0.f1).wf = true ∧ (Lit.int .i64 u0.f2).wf = true ∧ u0.f3.size ≤ 140737488351232) → ∃ k, glacislaw05_SfitemTells.f k a0_0 a0_1 a0_2 a0_3 = some true :=
  fun n i t l _ _ _ _ _ => SfitemTellsAll n i t l
end Go.Proofs.YtbbaokjkmcfceaaGreatDoor.Pure
/- Arguments that are structs with slices, or slices of structs: what a row reads, over the printed structs. -/
namespace Go.Proofs.YtbbaokjkmcfceaaGreatDoor.rg
set_option linter.unusedVariables false
set_option linter.unusedSimpArgs false
open Go.ChangeShapes Go.WideShapes Go.ChangeAt Go.RowKit Go.Deep
open Go.Proofs.YtbbaokjkmcfceaaGreatDoor.Q Go.Proofs.YtbbaokjkmcfceaaGreatDoorW.PrintWords Go.Proofs.YtbbaokjkmcfceaaGreatDoorW.PrintLast
section
variable {H : Type} {enc : TypeId × Value → H} {W : World}
theorem weights_all {P : Program} {e : TypeId} : ∀ {l : List (DataW H)} {i : Nat} {d : DataW H}, l[i]? = some d → ∀ n ∈ d.weights P e, n ∈ DataW.weightsAll P e l
  | d0 :: l, 0, d, h, n, hn => by
    simp only [List.getElem?_cons_zero, Option.some.injEq] at h
    subst h
    simp only [DataW.weightsAll, List.mem_append]
    exact Or.inl hn
  | d0 :: l, i + 1, d, h, n, hn => by
    simp only [List.getElem?_cons_succ] at h
    simp only [DataW.weightsAll, List.mem_append]
    exact Or.inr (weights_all h n hn)
  | [], _, _, h, _, _ => by simp at h
theorem open_row {α : Type} [Inhabited α] {P : Program} {K : Kd α} {Bd : α → Prop} {t e : TypeId} {bytes : Nat} (ht : P.underlying t = some (.slice e)) (ce : P.cellsOf e = K.sz) (hb : P.bytesOf e = bytes)
    (he : ∀ (n : Nat) (cs : List Value) (x : DataW H × List MemPlace), DataW.trod enc P W 0 (fun _ => true) true n e cs = some x → (∀ n ∈ x.1.weights P e, n ≤ reachBytes) → ∃ y : α, K.K W y cs ∧ Bd y)
    {fuel : Nat} {cs : List Value} {x : DataW H × List MemPlace} (h : DataW.trod enc P W 0 (fun _ => true) true fuel t cs = some x) (hz : ∀ n ∈ x.1.weights P t, n ≤ reachBytes) :
    ∃ (A : Option Addr) (cc : Nat) (l : List α), cs = [.slice A l.length cc] ∧ l.length ≤ cc ∧ Kd.C K W A l.length l ∧ l.length * bytes ≤ reachBytes ∧ ∀ y ∈ l, Bd y := by
  rcases open_slice ht h with ⟨rfl, _⟩ | ⟨a, len, cap, m, n, D, Pl, rfl, _, hl, hm, hmm, rfl, hx⟩
  · exact ⟨none, 0, [], rfl, Nat.le_refl _, ⟨rfl, by simp, fun hn => absurd hn (by simp)⟩, by simp, fun x hx => by cases hx⟩
  · have hlm : len ≤ m := by rw [hmm]; simp; omega
    have each : ∀ i, i < len → ∃ y : α, Bd y ∧ ∃ c, c.length = K.sz ∧ K.K W y c ∧ ∀ j u, c[j]? = some u → W.cell? (a.add (i * K.sz + j)) = some u := by
      intro i hi
      obtain ⟨c, h1, h2⟩ := hx i (by omega)
      obtain ⟨_, hlen, hcell⟩ := World.cells?_some h1
      obtain ⟨y, hy, hB⟩ := he n c _ h2 (by
        intro w hw
        refine hz w ?_
        simp only [DataW.weights, ht, List.mem_cons, List.mem_append]
        right; left
        exact weights_all (i := i) (by rw [List.getElem?_map, List.getElem?_range hi]; rfl) w hw)
      refine ⟨y, hB, c, by rw [hlen, ce], hy, fun j u hu => ?_⟩
      have hj : j < c.length := (List.getElem?_eq_some_iff.1 hu).1
      have := hcell j (by omega)
      rw [Go.Deep.add_add, ce] at this
      rw [this]; exact hu
    obtain ⟨F, hF⟩ := choose_lt each
    have hlen : ((List.range len).map F).length = len := by simp
    refine ⟨some a, cap, (List.range len).map F, by rw [hlen], by rw [hlen]; exact hl, ⟨rfl, by rw [hlen]; have := hm; unfold maxLen at this; omega, fun _ => ⟨a, rfl, ?_⟩⟩, ?_, ?_⟩
    · intro j y hj
      have hjl : j < len := by
        have := (List.getElem?_eq_some_iff.1 hj).1
        simpa using this
      have hx' : y = F j := by
        rw [List.getElem?_map, List.getElem?_range hjl] at hj
        exact (Option.some.inj hj).symm
      subst hx'
      exact (hF j hjl).2
    · rw [hlen]
      have := hz ((len + (m - len)) * P.bytesOf e) (by simp [DataW.weights, ht])
      rw [hb] at this
      have h2 : len * bytes ≤ (len + (m - len)) * bytes := Nat.mul_le_mul_right _ (by omega)
      omega
    · intro y hy
      obtain ⟨i, hi, rfl⟩ := List.mem_map.1 hy
      exact (hF i (List.mem_range.1 hi)).1
theorem list4 {α : Type} {l : List α} (h : l.length = 4) : ∃ c0 c1 c2 c3, l = [c0, c1, c2, c3] := by
  match l, h with
  | [c0, c1, c2, c3], _ => exact ⟨c0, c1, c2, c3, rfl⟩
theorem open_s43 (fuel : Nat) (cs : List Value) (x : DataW H × List MemPlace) (h : DataW.trod enc Tryz.prog W 0 (fun _ => true) true fuel 43 cs = some x) (hz : ∀ n ∈ x.1.weights Tryz.prog 43, n ≤ reachBytes) :
    ∃ y : S43, k43.K W y cs ∧ (y.f0.size ≤ reachBytes ∧ (Lit.int .i64 y.f1).wf = true ∧ (Lit.int .i64 y.f2).wf = true ∧ y.f3.size ≤ reachBytes) := by
  obtain ⟨xs, n, rfl, rfl, hl, hxl, hf⟩ := DataW.trod_struct Tryz.underlying43 h
  rw [show Tryz.prog.cellsOf 43 = 4 by kernel_rfl] at hl
  obtain ⟨c0, c1, c2, c3, rfl⟩ := list4 hl
  obtain ⟨y0, y1, y2, y3, rfl⟩ := list4 (show xs.length = 4 from hxl)
  have hz' : ∀ n, (n ∈ y0.1.weights Tryz.prog 9 ∨ n ∈ y1.1.weights Tryz.prog 3 ∨ n ∈ y2.1.weights Tryz.prog 3 ∨ n ∈ y3.1.weights Tryz.prog 9) → n ≤ reachBytes := fun n hn => hz n (by simpa [DataW.weights, Tryz.underlying43, DataW.weightsEach] using hn)
  clear hz
  have g0 : DataW.trod enc Tryz.prog W 0 (fun _ => true) true n 9 [c0] = some y0 := by simpa [show Tryz.prog.cellsOf 9 = 1 by kernel_rfl] using hf 0 _ rfl
  obtain ⟨a0, e0, x0, _⟩ := DataW.trod_string Tryz.underlying9 g0
  have w0 : a0.size ≤ reachBytes := by
    have z := hz' a0.data.toList.length (.inl (by rw [x0]; simp [DataW.weights]))
    rw [Array.length_toList] at z
    exact z
  simp only [List.cons.injEq, and_true] at e0
  subst e0
  have g1 : DataW.trod enc Tryz.prog W 0 (fun _ => true) true n 3 [c1] = some y1 := by simpa [show Tryz.prog.cellsOf 3 = 1 by kernel_rfl] using hf 1 _ rfl
  obtain ⟨a1, e1, x1, w1⟩ := DataW.trod_int Tryz.underlying3 g1
  simp only [List.cons.injEq, and_true] at e1
  subst e1
  have g2 : DataW.trod enc Tryz.prog W 0 (fun _ => true) true n 3 [c2] = some y2 := by simpa [show Tryz.prog.cellsOf 3 = 1 by kernel_rfl] using hf 2 _ rfl
  obtain ⟨a2, e2, x2, w2⟩ := DataW.trod_int Tryz.underlying3 g2
  simp only [List.cons.injEq, and_true] at e2
  subst e2
  have g3 : DataW.trod enc Tryz.prog W 0 (fun _ => true) true n 9 [c3] = some y3 := by simpa [show Tryz.prog.cellsOf 9 = 1 by kernel_rfl] using hf 3 _ rfl
  obtain ⟨a3, e3, x3, _⟩ := DataW.trod_string Tryz.underlying9 g3
  have w3 : a3.size ≤ reachBytes := by
    have z := hz' a3.data.toList.length (.inr (.inr (.inr (by rw [x3]; simp [DataW.weights]))))
    rw [Array.length_toList] at z
    exact z
  simp only [List.cons.injEq, and_true] at e3
  subst e3
  exact ⟨⟨a0, a1, a2, a3⟩, k43_mk W ⟨a0, a1, a2, a3⟩ , w0, w1, w2, w3⟩
theorem open_s23 (fuel : Nat) (cs : List Value) (x : DataW H × List MemPlace) (h : DataW.trod enc Tryz.prog W 0 (fun _ => true) true fuel 23 cs = some x) (hz : ∀ n ∈ x.1.weights Tryz.prog 23, n ≤ reachBytes) :
    ∃ (A : Option Addr) (cc : Nat) (l : List S43), cs = [.slice A l.length cc] ∧ l.length ≤ cc ∧ Kd.C k43 W A l.length l ∧ l.length * 48 ≤ reachBytes ∧ ∀ y : S43, y ∈ l → y.f0.size ≤ reachBytes ∧ (Lit.int .i64 y.f1).wf = true ∧ (Lit.int .i64 y.f2).wf = true ∧ y.f3.size ≤ reachBytes := by
  haveI : Inhabited S43 := ⟨z43⟩
  exact open_row (K := k43) (Bd := fun y : S43 => y.f0.size ≤ reachBytes ∧ (Lit.int .i64 y.f1).wf = true ∧ (Lit.int .i64 y.f2).wf = true ∧ y.f3.size ≤ reachBytes) Tryz.underlying23 (by kernel_rfl) (by kernel_rfl) open_s43 h hz
theorem open_s25 (fuel : Nat) (cs : List Value) (x : DataW H × List MemPlace) (h : DataW.trod enc Tryz.prog W 0 (fun _ => true) true fuel 25 cs = some x) (hz : ∀ n ∈ x.1.weights Tryz.prog 25, n ≤ reachBytes) :
    ∃ y : S25, k25.K W y cs ∧ ((Lit.int .i64 y.f0).wf = true ∧ (Lit.int .i64 y.f1).wf = true ∧ y.f2.size ≤ reachBytes ∧ (y.f3.length * 48 ≤ reachBytes ∧ ∀ u0 : S43, u0 ∈ y.f3 → u0.f0.size ≤ reachBytes ∧ (Lit.int .i64 u0.f1).wf = true ∧ (Lit.int .i64 u0.f2).wf = true ∧ u0.f3.size ≤ reachBytes)) := by
  obtain ⟨xs, n, rfl, rfl, hl, hxl, hf⟩ := DataW.trod_struct Tryz.underlying25 h
  rw [show Tryz.prog.cellsOf 25 = 4 by kernel_rfl] at hl
  obtain ⟨c0, c1, c2, c3, rfl⟩ := list4 hl
  obtain ⟨y0, y1, y2, y3, rfl⟩ := list4 (show xs.length = 4 from hxl)
  have hz' : ∀ n, (n ∈ y0.1.weights Tryz.prog 3 ∨ n ∈ y1.1.weights Tryz.prog 3 ∨ n ∈ y2.1.weights Tryz.prog 9 ∨ n ∈ y3.1.weights Tryz.prog 23) → n ≤ reachBytes := fun n hn => hz n (by simpa [DataW.weights, Tryz.underlying25, DataW.weightsEach] using hn)
  clear hz
  have g0 : DataW.trod enc Tryz.prog W 0 (fun _ => true) true n 3 [c0] = some y0 := by simpa [show Tryz.prog.cellsOf 3 = 1 by kernel_rfl] using hf 0 _ rfl
  obtain ⟨a0, e0, x0, w0⟩ := DataW.trod_int Tryz.underlying3 g0
  simp only [List.cons.injEq, and_true] at e0
  subst e0
  have g1 : DataW.trod enc Tryz.prog W 0 (fun _ => true) true n 3 [c1] = some y1 := by simpa [show Tryz.prog.cellsOf 3 = 1 by kernel_rfl] using hf 1 _ rfl
  obtain ⟨a1, e1, x1, w1⟩ := DataW.trod_int Tryz.underlying3 g1
  simp only [List.cons.injEq, and_true] at e1
  subst e1
  have g2 : DataW.trod enc Tryz.prog W 0 (fun _ => true) true n 9 [c2] = some y2 := by simpa [show Tryz.prog.cellsOf 9 = 1 by kernel_rfl] using hf 2 _ rfl
  obtain ⟨a2, e2, x2, _⟩ := DataW.trod_string Tryz.underlying9 g2
  have w2 : a2.size ≤ reachBytes := by
    have z := hz' a2.data.toList.length (.inr (.inr (.inl (by rw [x2]; simp [DataW.weights]))))
    rw [Array.length_toList] at z
    exact z
  simp only [List.cons.injEq, and_true] at e2
  subst e2
  have g3 : DataW.trod enc Tryz.prog W 0 (fun _ => true) true n 23 [c3] = some y3 := by simpa [show Tryz.prog.cellsOf 23 = 1 by kernel_rfl] using hf 3 _ rfl
  obtain ⟨A3, n3, a3, e3, l3, C3, w3, z3⟩ := open_s23 _ _ _ g3 (fun n hn => hz' n (.inr (.inr (.inr hn))))
  simp only [List.cons.injEq, and_true] at e3
  subst e3
  exact ⟨⟨a0, a1, a2, a3⟩, k25_mk W ⟨a0, a1, a2, a3⟩ l3 C3, w0, w1, w2, ⟨w3, z3⟩⟩
set_option maxRecDepth 20000 in
theorem open_p25 {base : Nat} {v : Value} {d : DataW H} {p : List MemPlace} (hv : Value.okWide Tryz.prog W .any base 25 v) (h : DataW.Trod enc Tryz.prog W 0 (fun _ => true) true 25 v d p)
    (hz : ∀ n ∈ d.weights Tryz.prog 25, n ≤ reachBytes) :
    ∃ (a0 : Int) (a1 : Int) (a2 : ByteArray) (A3 : Option Addr) (c3 : Nat) (a3 : List S43), v = .agg #[.int .i64 a0, .int .i64 a1, .string a2, .slice A3 a3.length c3] ∧ ((Lit.int .i64 a0).wf = true) ∧ ((Lit.int .i64 a1).wf = true) ∧ (a2.size ≤ reachBytes) ∧ (a3.length ≤ c3 ∧ Kd.C k43 W A3 a3.length a3 ∧ a3.length * 48 ≤ reachBytes ∧ ∀ u0 : S43, u0 ∈ a3 → u0.f0.size ≤ reachBytes ∧ (Lit.int .i64 u0.f1).wf = true ∧ (Lit.int .i64 u0.f2).wf = true ∧ u0.f3.size ≤ reachBytes) := by
  obtain ⟨cs, rfl, hcs⟩ := okWide_struct Tryz.underlying25 hv
  obtain ⟨fuel, hf⟩ := h
  obtain ⟨y, hK, hB⟩ := open_s25 _ _ _ hf (by exact hz)
  obtain ⟨A3, c3, e, l3, g3⟩ := k25_open hK
  obtain ⟨w0, w1, w2, w3⟩ := hB
  have e2 : cs.toList = _ := e
  obtain rfl := Array.toList_inj.1 (e2.trans List.toList_toArray.symm)
  exact ⟨y.f0, y.f1, y.f2, A3, c3, y.f3, rfl, w0, w1, w2, ⟨l3, g3, w3⟩⟩
end
end Go.Proofs.YtbbaokjkmcfceaaGreatDoor.rg
/- The law glacis/glacislaw05.SfitemTells, for every input: its call returns true and leaves its arguments as they were; the row, and its card. Its conditions: the row's own. -/
namespace Go.Proofs.YtbbaokjkmcfceaaGreatDoor.sfitemTells
open Go.ChangeShapes Go.WideShapes Go.ChangeAt Go.RowKit
open Go.Proofs.YtbbaokjkmcfceaaGreatDoor.Q Go.Proofs.YtbbaokjkmcfceaaGreatDoor Go.Proofs.YtbbaokjkmcfceaaGreatDoorW.PrintWords Go.Proofs.YtbbaokjkmcfceaaGreatDoorW.PrintLast
open Go.ChangeMaps (open_string shut_string)
open Go.Proofs.YtbbaokjkmcfceaaGreatDoor.rc
set_option linter.unusedVariables false
theorem walk (W : World) (hT : Aside0 (Q.TabW W)) (A0_3 : Option Addr) (c0_3 : Nat) (a0_0 : Int) (a0_1 : Int) (a0_2 : ByteArray) (a0_3 : List S43) (C0_3 : Kd.C k43 W A0_3 a0_3.length a0_3) (lc0_3 : a0_3.length ≤ c0_3) (h0 : (Lit.int .i64 a0_0).wf = true) (h1 : (Lit.int .i64 a0_1).wf = true) (h2 : a0_2.size ≤ 140737488351232) (h3 : a0_3.length * 48 ≤ 140737488351232) (h4 : (∀ u0 : S43, u0 ∈ a0_3 → u0.f0.size ≤ 140737488351232 ∧ (Lit.int .i64 u0.f1).wf = true ∧ (Lit.int .i64 u0.f2).wf = true ∧ u0.f3.size ≤ 140737488351232)) :
    Calls Tryz.prog 4 #[.agg #[.int .i64 a0_0, .int .i64 a0_1, .string a0_2, .slice A0_3 a0_3.length c0_3]] W fun e w' => e = .returned (.bool true) ∧ Below W.heap.size W w' := by
  obtain ⟨k, h⟩ := YtbbaokjkmcfceaaGreatDoor.Pure.SfitemTells a0_0 a0_1 a0_2 a0_3 h0 h1 h2 h3 h4
  refine (YtbbaokjkmcfceaaGreatDoor.Q.glacislaw05_SfitemTells.calls k a0_0 a0_1 a0_2 A0_3 c0_3 a0_3 true W hT C0_3 lc0_3 h).mono ?_
  rintro e w' ⟨rfl, hd⟩
  first | exact ⟨rfl, hd⟩ | exact ⟨rfl, hd.below⟩
set_option maxRecDepth 100000 in
theorem contract (H : Type) (enc : TypeId × Value → H) (W : World) (hT : Aside0 (Q.TabW W)) (base : Nat) (args : Array Value) (ds gs : List (DataW H)) (before : List MemPlace)
    (hval : ∀ (j : Nat) t v, Tryz.f4.params[j]? = some t → args[j]? = some v → Value.okWide Tryz.prog W .any base t v)
    (hW : DataW.Whole enc Tryz.prog Tryz.f4.params.toList Rows.sfitemTellsSpec.vars false W args.toList ds gs before)
    (hsz : (DataW.weightsEach Tryz.prog (Tryz.f4.params.toList ++ Rows.sfitemTellsSpec.plain.varTypes Tryz.prog) (ds ++ gs)).all (· ≤ reachBytes) = true) :
    Calls Tryz.prog 4 args W fun e W' => ∃ v, e = .returned v ∧ Rows.sfitemTellsSpec.post enc Tryz.prog Tryz.f4 false true false false W args v W' := by
  have hW' := hW
  obtain ⟨p, q, hA0, hV, rfl, hfz, hnd⟩ := hW
  have hA : DataW.TrodAll enc Tryz.prog W 0 (fun _ => true) true Tryz.f4.params.toList args.toList ds p := hA0
  rw [Tryz.params4] at hA hval hsz
  obtain ⟨v0, vs0, d0, ds0, p0, q0, hargs, rfl, rfl, h0, r0⟩ := trodAll_cons hA
  obtain ⟨rfl, rfl, rfl⟩ := trodAll_nil r0
  obtain rfl : args = #[v0] := by cases args; simp_all
  obtain ⟨rfl, rfl⟩ := trodVars_none hV
  have g0 := h0
  have hz0 : ∀ n ∈ d0.weights Tryz.prog 25, n ≤ reachBytes := fun n hn => by
    have z := List.all_eq_true.1 hsz n (DataW.weights_mem_each (j := 0) (t := 25) rfl rfl n hn)
    simpa using z
  obtain ⟨a0_0, a0_1, a0_2, A0_3, c0_3, a0_3, e0, w0_0, w0_1, w0_2, ⟨lc0_3, C0_3, w0_3a, w0_3b⟩⟩ := rg.open_p25 (hval 0 25 v0 rfl rfl) h0 hz0
  subst e0
  have t0 : ∀ W', Below W.heap.size W W' → DataW.Trod enc Tryz.prog W' 0 (fun b => decide (b < W.heap.size)) true 25 _ d0 p0 := fun W' hb => Below.trod laidOut (by kernel_rfl) (of_decide_eq_true (by kernel_rfl)) g0 hb (fun x hx => hW'.lt x (by simp [hx]))
  clear hA0
  refine (walk W hT A0_3 c0_3 a0_0 a0_1 a0_2 a0_3 C0_3 lc0_3 w0_0 w0_1 w0_2 w0_3a w0_3b).mono fun e W' ⟨he, bel⟩ => ?_
  subst he
  exact ⟨_, rfl, _, _, _, [], _, [], hW', trodAll_mk1 (shut_bool Tryz.underlying4 _), (trodAll_cons_mk (t0 _ bel) trodAll_mk0), rfl, bel.frame _, fun h => by cases h⟩
theorem laid_met (os : Os) : laidMet Tryz.prog Rows.sfitemTellsRow.laid ((laidWorld os).forCall (fun _ _ => 0) ⟨#[], #[.agg #[.int .i64 0, .int .i64 0, .string ByteArray.empty, .slice none 0 0]], []⟩).memory :=
  laidMet_of_run' 8 (by kernel_rfl) (by kernel_rfl)
theorem reads (os : Os) {H : Type} (enc : TypeId × Value → H) : ∃ places, DataW.whole enc Tryz.prog ((laidWorld os).forCall (fun _ _ => 0) ⟨#[], #[.agg #[.int .i64 0, .int .i64 0, .string ByteArray.empty, .slice none 0 0]], []⟩).memory Tryz.f4.params.toList Rows.sfitemTellsSpec.vars false (#[.agg #[.int .i64 0, .int .i64 0, .string ByteArray.empty, .slice none 0 0]] : Array Value).toList 8 = some ([.agg [.lit (.int .i64 0), .lit (.int .i64 0), .lit (.string []), .nil]], [], places) :=
  ⟨[], by kernel_rfl⟩
set_option maxRecDepth 100000 in
theorem lifted (os : Os) (started : os.Started) (H : Type) (enc : TypeId × Value → H) (F : Stop.Interp) :
    ReturnsInHanded {} Tryz.checked os 4 .any ((OpenSpec.ofChange Rows.sfitemTellsSpec).preRow enc Tryz.prog Tryz.f4 Rows.sfitemTellsRow.domain false Rows.sfitemTellsRow.laid) (((OpenSpec.ofChange Rows.sfitemTellsSpec).at F).post enc Tryz.prog Tryz.f4 false true false false) := by
  obtain ⟨places, hx⟩ := reads os enc
  refine returnsInHanded_of_row (C := Tryz.checked) (s := (OpenSpec.ofChange Rows.sfitemTellsSpec)) own started (by kernel_rfl) Tryz.func4
    (witness_row_at (enc := enc) (C := Tryz.checked) false (laidWorld os) #[.agg #[.int .i64 0, .int .i64 0, .string ByteArray.empty, .slice none 0 0]] rfl (by kernel_rfl) (by kernel_rfl) (by kernel_rfl)
      (OpenSpec.preRow_of_cond 8 hx (by kernel_rfl) (fun k hk => by cases hk) (by kernel_rfl) (laid_met os))) ?_
  intro W base args ds gs before hval hW _ hcond hsz hL _ _
  have hL1 := laidMet.tail hL
  have hL2 := laidMet.tail hL1
  have hT : Lib.TabIs Tryz.prog W "internal/strconv.uint64pow10" .u64 Lib.pow10Tab := Lib.tabIs_of_head (g := 3) (by kernel_rfl) (by kernel_rfl) Tryz.underlying110 Tryz.underlying98 (by kernel_rfl) (by kernel_rfl) hL2
  exact contract H enc W (Aside0.mk hT) base args ds gs before hval hW hsz
theorem said : Rows.SfitemTellsSaid :=
  OpenClaim.holds_of_cond 4 Tryz.f4 rfl rfl rfl rfl rfl rfl rfl ⟨rfl, rfl, rfl, rfl, rfl⟩ rfl rfl rfl rfl rfl (by kernel_rfl) Tryz.func4 (by kernel_rfl)
    (of_decide_eq_true (by kernel_rfl)) (by unfold Func.isWrapper; first | (rw [if_pos (by decide +kernel)]; kernel_rfl) | (rw [if_neg (by decide +kernel)]; exact ⟨rfl, rfl⟩))
    (fun os started H enc _ F => by rw [OpenClaim.pre_eq_preRow]; exact lifted os started H enc F)
theorem plain (f : FuncId) (fn : Func) (hf : Tryz.pinned.checked.prog.funcNamed "glacis/glacislaw05.SfitemTells" = some f) (hfn : Tryz.pinned.checked.prog.funcs[f]? = some fn) :
    true = Tryz.pinned.checked.prog.looks [] ∧ ∀ (j : Nat) t, fn.params[j]? = some t → Tryz.pinned.checked.prog.wantsStandIn t = false := by
  obtain rfl : f = 4 := Option.some.inj ((show Tryz.prog.funcNamed "glacis/glacislaw05.SfitemTells" = some 4 by kernel_rfl).symm.trans hf) |>.symm
  obtain rfl : fn = Tryz.f4 := (Option.some.inj (Tryz.func4.symm.trans hfn)).symm
  refine ⟨by kernel_rfl, fun j t ht => ?_⟩
  rw [Tryz.params4] at ht
  have hm : t ∈ [25] := by simpa using Array.mem_of_getElem? ht
  have hall : ([25].all fun u => !Tryz.prog.wantsStandIn u) = true := by kernel_rfl
  exact (show Tryz.prog.wantsStandIn t = false by simpa using List.all_eq_true.1 hall t hm)
/-- THE CARD. -/
theorem card : Rows.SfitemTellsCardSaid :=
  Claim7.holds_tied_plain_at .later [] _ _ _ _ said (fun _ h => by cases h) (by kernel_rfl) (fun _ h => by cases h) sfitemTells_row_tie rfl ⟨rfl, rfl⟩ (by kernel_rfl) rfl plain (by kernel_rfl)
#print axioms card
end Go.Proofs.YtbbaokjkmcfceaaGreatDoor.sfitemTells
