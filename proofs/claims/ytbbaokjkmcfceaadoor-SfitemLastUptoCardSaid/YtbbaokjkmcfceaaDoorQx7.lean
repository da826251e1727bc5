-- Laid by this seat's own driver (wip/tools/drive.py) out of the translation.
import Derived.Test.YtbbaokjkmcfceaaDoorQx0
import Derived.Test.YtbbaokjkmcfceaaDoorQx1
import Derived.Test.YtbbaokjkmcfceaaDoorQx4
import Derived.Stop.LaidErr
namespace Go.Proofs.YtbbaokjkmcfceaaDoor.Q
open Go.RowKit Go.Proofs.YtbbaokjkmcfceaaDoorW.PrintWords Go.Proofs.YtbbaokjkmcfceaaDoorW.PrintLast Go.Proofs.YtbbaokjkmcfceaaDoorW.PrintMore
attribute [local go_sem] max2_int min2_int max_two min_two max_three min_three max_four min_four   -- for this text's walks alone
set_option linter.unusedVariables false
set_option linter.unusedSimpArgs false

attribute [local go_sem high] eqA38
theorem lt_of_cell {W : World} {a : Addr} {v : Value} (h : W.cell? a = some v) : a.block < W.heap.size := by
  rcases Nat.lt_or_ge a.block W.heap.size with h' | h'
  · exact h'
  · simp [World.cell?, Array.getElem?_eq_none h'] at h
/-! ### glacislaw05_SfitemLast: function 6 -/
mutual
def glacislaw05_SfitemLast.j0 : Nat → Int → Bool → Bool → Int → Int → ByteArray → List (S38) → Option (Bool)
  | 0, _, _, _, _, _, _, _ => none
  | k + 1, x1, x5, x33, x223000, x223001, x223002, x223003 => if x33 = true then (some x5) else (if x1 < 0 then (glacislaw05_SfitemLast.j1 k (wrap64 (-(wrap64 (x1 + 1)))) x5 x223000 x223001 x223002 x223003) else (glacislaw05_SfitemLast.j1 k x1 x5 x223000 x223001 x223002 x223003))
def glacislaw05_SfitemLast.j1 : Nat → Int → Bool → Int → Int → ByteArray → List (S38) → Option (Bool)
  | 0, _, _, _, _, _, _ => none
  | k + 1, x1, x5, x223000, x223001, x223002, x223003 => if (x223003.length : Int) = 0 then (none) else ((sfitem_Text.f x223000 x223001 x223002 x223003).bind fun bt223 => (if bt223.2 = 0 then (if bt223.1.size + 1 ≤ 9223372036854775807 then (if 0 ≤ (Int.tmod x1 (x223003.length : Int)) then (if (Int.tmod x1 (x223003.length : Int)) < (x223003.length : Int) then (if (bt223.1 ++ (⟨#[59]⟩ : ByteArray)).size + ((rd_T38 x223003 (Int.tmod x1 (x223003.length : Int))).f0).size ≤ 9223372036854775807 then (if ((bt223.1 ++ (⟨#[59]⟩ : ByteArray)) ++ ((rd_T38 x223003 (Int.tmod x1 (x223003.length : Int))).f0)).size + 3 ≤ 9223372036854775807 then ((sfitem_Parse.f (((bt223.1 ++ (⟨#[59]⟩ : ByteArray)) ++ ((rd_T38 x223003 (Int.tmod x1 (x223003.length : Int))).f0)) ++ (⟨#[61, 55, 55]⟩ : ByteArray))).bind fun bt226 => (if bt226.2.2.2.2 = 0 then (glacislaw05_SfitemLast.j2 k x5 (Int.tmod x1 (x223003.length : Int)) ((bt226.2.2.2.1.length : Int) != (x223003.length : Int)) x223000 x223001 x223002 x223003 bt226.1 bt226.2.1 bt226.2.2.1 bt226.2.2.2.1) else (glacislaw05_SfitemLast.j2 k x5 (Int.tmod x1 (x223003.length : Int)) true x223000 x223001 x223002 x223003 bt226.1 bt226.2.1 bt226.2.2.1 bt226.2.2.2.1))) else (none)) else (none)) else (none)) else (none)) else (none)) else (none)))
def glacislaw05_SfitemLast.j2 : Nat → Bool → Int → Bool → Int → Int → ByteArray → List (S38) → Int → Int → ByteArray → List (S38) → Option (Bool)
  | 0, _, _, _, _, _, _, _, _, _, _, _ => none
  | k + 1, x5, x8, x76, x223000, x223001, x223002, x223003, x234000, x234001, x234002, x234003 => if x76 = true then (none) else (glacislaw05_SfitemLast.l0 k x5 x8 0 x223000 x223001 x223002 x223003 x234000 x234001 x234002 x234003)
def glacislaw05_SfitemLast.l0 : Nat → Bool → Int → Int → Int → Int → ByteArray → List (S38) → Int → Int → ByteArray → List (S38) → Option (Bool)
  | 0, _, _, _, _, _, _, _, _, _, _, _ => none
  | k + 1, x5, x8, x13, x223000, x223001, x223002, x223003, x234000, x234001, x234002, x234003 => if x13 < (x223003.length : Int) then (if 0 ≤ x13 then (if x13 = x8 then (if x13 < (x234003.length : Int) then (if (!((((rd_T38 x234003 x13).f0).toList) == (((rd_T38 x223003 x13).f0).toList)) || (!(((rd_T38 x234003 x13).f1) == 1) || (!(((rd_T38 x234003 x13).f2) == 77) || (!((((rd_T38 x234003 x13).f3).toList) == ([] : List UInt8)))))) = true then (none) else (glacislaw05_SfitemLast.l0 k x5 x8 (wrap64 (x13 + 1)) x223000 x223001 x223002 x223003 x234000 x234001 x234002 x234003)) else (none)) else (if x13 < (x234003.length : Int) then (if (!((((rd_T38 x234003 x13).f0).toList) == (((rd_T38 x223003 x13).f0).toList)) || (!(((rd_T38 x234003 x13).f1) == ((rd_T38 x223003 x13).f1)) || (!(((rd_T38 x234003 x13).f2) == ((rd_T38 x223003 x13).f2)) || (!((((rd_T38 x234003 x13).f3).toList) == (((rd_T38 x223003 x13).f3).toList)))))) = true then (none) else (glacislaw05_SfitemLast.l0 k x5 x8 (wrap64 (x13 + 1)) x223000 x223001 x223002 x223003 x234000 x234001 x234002 x234003)) else (none))) else (none)) else (some x5)
end
def glacislaw05_SfitemLast.f (k : Nat) (a0 : ByteArray) (a1 : Int) : Option (Bool) := (glacislaw05_awake.f).bind fun t214 => ((sfitem_Parse.f a0).bind fun bt215 => (if bt215.2.2.2.2 = 0 then (if (bt215.2.2.2.1.length : Int) = 0 then (glacislaw05_SfitemLast.j0 k a1 t214 true bt215.1 bt215.2.1 bt215.2.2.1 bt215.2.2.2.1) else (glacislaw05_SfitemLast.j0 k a1 t214 (decide ((a0.size : Int) > 1000)) bt215.1 bt215.2.1 bt215.2.2.1 bt215.2.2.2.1)) else (glacislaw05_SfitemLast.j0 k a1 t214 true bt215.1 bt215.2.1 bt215.2.2.1 bt215.2.2.2.1)))
theorem glacislaw05_SfitemLast.mono_l : ∀ k, (∀ y0 y1 y2 y3 y4 y5 y6, LeO (glacislaw05_SfitemLast.j0 k y0 y1 y2 y3 y4 y5 y6) (glacislaw05_SfitemLast.j0 (k + 1) y0 y1 y2 y3 y4 y5 y6)) ∧ (∀ y0 y1 y2 y3 y4 y5, LeO (glacislaw05_SfitemLast.j1 k y0 y1 y2 y3 y4 y5) (glacislaw05_SfitemLast.j1 (k + 1) y0 y1 y2 y3 y4 y5)) ∧ (∀ y0 y1 y2 y3 y4 y5 y6 y7 y8 y9 y10, LeO (glacislaw05_SfitemLast.j2 k y0 y1 y2 y3 y4 y5 y6 y7 y8 y9 y10) (glacislaw05_SfitemLast.j2 (k + 1) y0 y1 y2 y3 y4 y5 y6 y7 y8 y9 y10)) ∧ (∀ y0 y1 y2 y3 y4 y5 y6 y7 y8 y9 y10, LeO (glacislaw05_SfitemLast.l0 k y0 y1 y2 y3 y4 y5 y6 y7 y8 y9 y10) (glacislaw05_SfitemLast.l0 (k + 1) y0 y1 y2 y3 y4 y5 y6 y7 y8 y9 y10))
  | 0 => ⟨fun _ _ _ _ _ _ _ r h => by simp [glacislaw05_SfitemLast.j0] at h, fun _ _ _ _ _ _ r h => by simp [glacislaw05_SfitemLast.j1] at h, fun _ _ _ _ _ _ _ _ _ _ _ r h => by simp [glacislaw05_SfitemLast.j2] at h, fun _ _ _ _ _ _ _ _ _ _ _ r h => by simp [glacislaw05_SfitemLast.l0] at h⟩
  | k + 1 => by
    obtain ⟨ih0, ih1, ih2, ih3⟩ := glacislaw05_SfitemLast.mono_l k
    refine ⟨?_, ?_, ?_, ?_⟩
    · intro y0 y1 y2 y3 y4 y5 y6
      unfold glacislaw05_SfitemLast.j0
      repeat' first
      | (with_reducible exact ih0 _ _ _ _ _ _ _)
      | (with_reducible exact ih1 _ _ _ _ _ _)
      | (with_reducible exact ih2 _ _ _ _ _ _ _ _ _ _ _)
      | (with_reducible exact ih3 _ _ _ _ _ _ _ _ _ _ _)
      | (with_reducible exact LeO.refl _)
      | (with_reducible exact LeO.none _)
      | (with_reducible refine LeO.ite ?_ ?_)
      | (with_reducible refine LeO.bind ?_ (fun _ => ?_))
      | exact ih0 _ _ _ _ _ _ _
      | exact ih1 _ _ _ _ _ _
      | exact ih2 _ _ _ _ _ _ _ _ _ _ _
      | exact ih3 _ _ _ _ _ _ _ _ _ _ _
      | exact LeO.none _
      | refine LeO.ite ?_ ?_
      | refine LeO.bind ?_ (fun _ => ?_)
    · intro y0 y1 y2 y3 y4 y5
      unfold glacislaw05_SfitemLast.j1
      repeat' first
      | (with_reducible exact ih0 _ _ _ _ _ _ _)
      | (with_reducible exact ih1 _ _ _ _ _ _)
      | (with_reducible exact ih2 _ _ _ _ _ _ _ _ _ _ _)
      | (with_reducible exact ih3 _ _ _ _ _ _ _ _ _ _ _)
      | (with_reducible exact LeO.refl _)
      | (with_reducible exact LeO.none _)
      | (with_reducible refine LeO.ite ?_ ?_)
      | (with_reducible refine LeO.bind ?_ (fun _ => ?_))
      | exact ih0 _ _ _ _ _ _ _
      | exact ih1 _ _ _ _ _ _
      | exact ih2 _ _ _ _ _ _ _ _ _ _ _
      | exact ih3 _ _ _ _ _ _ _ _ _ _ _
      | exact LeO.none _
      | refine LeO.ite ?_ ?_
      | refine LeO.bind ?_ (fun _ => ?_)
    · intro y0 y1 y2 y3 y4 y5 y6 y7 y8 y9 y10
      unfold glacislaw05_SfitemLast.j2
      repeat' first
      | (with_reducible exact ih0 _ _ _ _ _ _ _)
      | (with_reducible exact ih1 _ _ _ _ _ _)
      | (with_reducible exact ih2 _ _ _ _ _ _ _ _ _ _ _)
      | (with_reducible exact ih3 _ _ _ _ _ _ _ _ _ _ _)
      | (with_reducible exact LeO.refl _)
      | (with_reducible exact LeO.none _)
      | (with_reducible refine LeO.ite ?_ ?_)
      | (with_reducible refine LeO.bind ?_ (fun _ => ?_))
      | exact ih0 _ _ _ _ _ _ _
      | exact ih1 _ _ _ _ _ _
      | exact ih2 _ _ _ _ _ _ _ _ _ _ _
      | exact ih3 _ _ _ _ _ _ _ _ _ _ _
      | exact LeO.none _
      | refine LeO.ite ?_ ?_
      | refine LeO.bind ?_ (fun _ => ?_)
    · intro y0 y1 y2 y3 y4 y5 y6 y7 y8 y9 y10
      unfold glacislaw05_SfitemLast.l0
      repeat' first
      | (with_reducible exact ih0 _ _ _ _ _ _ _)
      | (with_reducible exact ih1 _ _ _ _ _ _)
      | (with_reducible exact ih2 _ _ _ _ _ _ _ _ _ _ _)
      | (with_reducible exact ih3 _ _ _ _ _ _ _ _ _ _ _)
      | (with_reducible exact LeO.refl _)
      | (with_reducible exact LeO.none _)
      | (with_reducible refine LeO.ite ?_ ?_)
      | (with_reducible refine LeO.bind ?_ (fun _ => ?_))
      | exact ih0 _ _ _ _ _ _ _
      | exact ih1 _ _ _ _ _ _
      | exact ih2 _ _ _ _ _ _ _ _ _ _ _
      | exact ih3 _ _ _ _ _ _ _ _ _ _ _
      | exact LeO.none _
      | refine LeO.ite ?_ ?_
      | refine LeO.bind ?_ (fun _ => ?_)
theorem glacislaw05_SfitemLast.mono : ∀ a0 a1 k, LeO (glacislaw05_SfitemLast.f k a0 a1) (glacislaw05_SfitemLast.f (k + 1) a0 a1) := by
  intro a0 a1 k
  obtain ⟨ih0, ih1, ih2, ih3⟩ := glacislaw05_SfitemLast.mono_l k
  unfold glacislaw05_SfitemLast.f
  repeat' first
      | (with_reducible exact ih0 _ _ _ _ _ _ _)
      | (with_reducible exact ih1 _ _ _ _ _ _)
      | (with_reducible exact ih2 _ _ _ _ _ _ _ _ _ _ _)
      | (with_reducible exact ih3 _ _ _ _ _ _ _ _ _ _ _)
      | (with_reducible exact LeO.refl _)
      | (with_reducible exact LeO.none _)
      | (with_reducible refine LeO.ite ?_ ?_)
      | (with_reducible refine LeO.bind ?_ (fun _ => ?_))
      | exact ih0 _ _ _ _ _ _ _
      | exact ih1 _ _ _ _ _ _
      | exact ih2 _ _ _ _ _ _ _ _ _ _ _
      | exact ih3 _ _ _ _ _ _ _ _ _ _ _
      | exact LeO.none _
      | refine LeO.ite ?_ ?_
      | refine LeO.bind ?_ (fun _ => ?_)
set_option maxHeartbeats 8000000 in
set_option maxRecDepth 100000 in
theorem glacislaw05_SfitemLast.calls (k : Nat) (a0 : ByteArray) (a1 : Int) (r : Bool) (w : World) (hT_ : Aside0 (TabW w)) (h : glacislaw05_SfitemLast.f k a0 a1 = some r) :
    Calls Tryd.prog 6 #[.string a0, .int .i64 a1] w fun e w' => e = .returned (.bool r) ∧ Below w.heap.size w w' := by
  have hu25 := Tryd.underlying25
  have hu38 := Tryd.underlying38
  have HB := Aside0.mk (Below.refl w.heap.size w)
  have H : ((glacislaw05_awake.f).bind fun t214 => ((sfitem_Parse.f a0).bind fun bt215 => (if bt215.2.2.2.2 = 0 then (if (bt215.2.2.2.1.length : Int) = 0 then (glacislaw05_SfitemLast.j0 k a1 t214 true bt215.1 bt215.2.1 bt215.2.2.1 bt215.2.2.2.1) else (glacislaw05_SfitemLast.j0 k a1 t214 (decide ((a0.size : Int) > 1000)) bt215.1 bt215.2.1 bt215.2.2.1 bt215.2.2.2.1)) else (glacislaw05_SfitemLast.j0 k a1 t214 true bt215.1 bt215.2.1 bt215.2.2.1 bt215.2.2.2.1)))) = some r := h
  clear h
  replace H := Option.bind_eq_some_iff.mp H
  obtain ⟨t214, A30, H⟩ := H
  replace H : ((sfitem_Parse.f a0).bind fun bt215 => (if bt215.2.2.2.2 = 0 then (if (bt215.2.2.2.1.length : Int) = 0 then (glacislaw05_SfitemLast.j0 k a1 t214 true bt215.1 bt215.2.1 bt215.2.2.1 bt215.2.2.2.1) else (glacislaw05_SfitemLast.j0 k a1 t214 (decide ((a0.size : Int) > 1000)) bt215.1 bt215.2.1 bt215.2.2.1 bt215.2.2.2.1)) else (glacislaw05_SfitemLast.j0 k a1 t214 true bt215.1 bt215.2.1 bt215.2.2.1 bt215.2.2.2.1))) = some r := H
  have A3 := Aside0.mk A30
  clear A30
  replace H := Option.bind_eq_some_iff.mp H
  obtain ⟨⟨t215, t216, t217, t218, t221⟩, A40, H⟩ := H
  replace H : (if t221 = 0 then (if (t218.length : Int) = 0 then (glacislaw05_SfitemLast.j0 k a1 t214 true t215 t216 t217 t218) else (glacislaw05_SfitemLast.j0 k a1 t214 (decide ((a0.size : Int) > 1000)) t215 t216 t217 t218)) else (glacislaw05_SfitemLast.j0 k a1 t214 true t215 t216 t217 t218)) = some r := H
  have A4 := Aside0.mk A40
  clear A40
  have HC5 := Aside0.mk H
  clear H
  go_enter Tryd.func6, Tryd.ntmps6
  go_upto_region 3 with (first | (go_at_call 9; (with_reducible refine (glacislaw05_awake.calls  t214 _ (tab_ hT_ ?hTab) A3.out).mono ?_); (case hTab => exact (by repeat (first | (with_reducible first | exact HB.out | apply below_alloc | apply pw_below_drewN | apply below_drew1) | exact HB.out))); rintro e w6 ⟨rfl, hb⟩; have n0_ := Aside0.mk (below_step (by repeat (first | (with_reducible first | exact HB.out | apply below_alloc | apply pw_below_drewN | apply below_drew1) | exact HB.out)) hb); clear HB; have HB := n0_; clear n0_; (try clear hb); (try clear hb2); (try clear hk); (try clear hi)) | (go_at_call 12; (with_reducible refine (sfitem_Parse.calls a0 t215 t216 t217 t218 t221 _ A4.out).mono ?_); rintro e w7 ⟨v219, rfl, ho0, hb⟩; have n0_ := Aside0.mk (Kd.R_lower ho0 (below_size (by repeat (first | (with_reducible first | exact HB.out | apply below_alloc | apply pw_below_drewN | apply below_drew1) | exact HB.out)))); have n1_ := Aside0.mk (below_step (by repeat (first | (with_reducible first | exact HB.out | apply below_alloc | apply pw_below_drewN | apply below_drew1) | exact HB.out)) hb); clear HB; have HO220 := n0_; have HB := n1_; clear n0_ n1_; (try clear hb); (try clear hb2); (try clear hk); (try clear hi); (try clear ho0)) | ((with_reducible refine gate_dst (N := 6) rfl ?_); (try (refine gate_guard (by rfl) ?_; dsimp only)); refine box_event ?hg (N := 6) ?hd (cs := #[.int .i64 0, .int .i64 0, .string (⟨#[]⟩ : ByteArray), .slice none 0 0]) (t := 25) ?hr ?_; (case hd => rfl); (case hg => rfl); (case hr => first | (go_simp; done) | (go_simp; rfl)); intro gb222 hg w8 hbox hb; have n0_ := Aside0.mk (Kd.R_below (by (with_reducible repeat (first | apply Kd.R_alloc | apply Kd.R_drewN | apply Kd.R_drew)); exact HO220.out) hb); have n1_ := Aside0.mk (below_step (by repeat (first | (with_reducible first | exact HB.out | apply below_alloc | apply pw_below_drewN | apply below_drew1) | exact HB.out)) hb); have n2_ := Aside0.mk (hbox); have n3_ := Aside0.mk ((by rw [hg]; exact (below_size (by repeat (first | (with_reducible first | exact HB.out | apply below_alloc | apply pw_below_drewN | apply below_drew1) | exact HB.out))) : w.heap.size ≤ gb222)); have n4_ := Aside0.mk ((by rw [hg]; exact (below_size (by repeat (first | (with_reducible first | exact HB.out | apply below_alloc | apply pw_below_drewN | apply below_drew1) | exact HB.out))) : w.heap.size ≤ gb222)); clear HO220; clear HB; have HO220 := n0_; have HB := n1_; have BK222 := n2_; have GW222 := n3_; have GE222 := n4_; clear n0_ n1_ n2_ n3_ n4_; clear hb hbox hg; have hcz9_0 : w8.cell? ⟨gb222, 0, none⟩ = some (.int .i64 0) := (blk_cell BK222.out 0).trans rfl; have hcz9_1 : w8.cell? ⟨gb222, 1, none⟩ = some (.int .i64 0) := (blk_cell BK222.out 1).trans rfl; have hcz9_2 : w8.cell? ⟨gb222, 2, none⟩ = some (.string (⟨#[]⟩ : ByteArray)) := (blk_cell BK222.out 2).trans rfl; have hcz9_3 : w8.cell? ⟨gb222, 3, none⟩ = some (.slice none 0 0) := (blk_cell BK222.out 3).trans rfl; have hfz9_0 := blk_frozen BK222.out 0; have hfz9_1 := blk_frozen BK222.out 1; have hfz9_2 := blk_frozen BK222.out 2; have hfz9_3 := blk_frozen BK222.out 3; obtain ⟨Ao10, co10, eo10⟩ := Kd.R_slice HO220.out; subst eo10))
  repeat (go_quiet (first | (go_at_call 9; (with_reducible refine (glacislaw05_awake.calls  t214 _ (tab_ hT_ ?hTab) A3.out).mono ?_); (case hTab => exact (by repeat (first | (with_reducible first | exact HB.out | apply below_alloc | apply pw_below_drewN | apply below_drew1) | exact HB.out))); rintro e w6 ⟨rfl, hb⟩; have n0_ := Aside0.mk (below_step (by repeat (first | (with_reducible first | exact HB.out | apply below_alloc | apply pw_below_drewN | apply below_drew1) | exact HB.out)) hb); clear HB; have HB := n0_; clear n0_; (try clear hb); (try clear hb2); (try clear hk); (try clear hi)) | (go_at_call 12; (with_reducible refine (sfitem_Parse.calls a0 t215 t216 t217 t218 t221 _ A4.out).mono ?_); rintro e w7 ⟨v219, rfl, ho0, hb⟩; have n0_ := Aside0.mk (Kd.R_lower ho0 (below_size (by repeat (first | (with_reducible first | exact HB.out | apply below_alloc | apply pw_below_drewN | apply below_drew1) | exact HB.out)))); have n1_ := Aside0.mk (below_step (by repeat (first | (with_reducible first | exact HB.out | apply below_alloc | apply pw_below_drewN | apply below_drew1) | exact HB.out)) hb); clear HB; have HO220 := n0_; have HB := n1_; clear n0_ n1_; (try clear hb); (try clear hb2); (try clear hk); (try clear hi); (try clear ho0)) | ((with_reducible refine gate_dst (N := 6) rfl ?_); (try (refine gate_guard (by rfl) ?_; dsimp only)); refine box_event ?hg (N := 6) ?hd (cs := #[.int .i64 0, .int .i64 0, .string (⟨#[]⟩ : ByteArray), .slice none 0 0]) (t := 25) ?hr ?_; (case hd => rfl); (case hg => rfl); (case hr => first | (go_simp; done) | (go_simp; rfl)); intro gb222 hg w8 hbox hb; have n0_ := Aside0.mk (Kd.R_below (by (with_reducible repeat (first | apply Kd.R_alloc | apply Kd.R_drewN | apply Kd.R_drew)); exact HO220.out) hb); have n1_ := Aside0.mk (below_step (by repeat (first | (with_reducible first | exact HB.out | apply below_alloc | apply pw_below_drewN | apply below_drew1) | exact HB.out)) hb); have n2_ := Aside0.mk (hbox); have n3_ := Aside0.mk ((by rw [hg]; exact (below_size (by repeat (first | (with_reducible first | exact HB.out | apply below_alloc | apply pw_below_drewN | apply below_drew1) | exact HB.out))) : w.heap.size ≤ gb222)); have n4_ := Aside0.mk ((by rw [hg]; exact (below_size (by repeat (first | (with_reducible first | exact HB.out | apply below_alloc | apply pw_below_drewN | apply below_drew1) | exact HB.out))) : w.heap.size ≤ gb222)); clear HO220; clear HB; have HO220 := n0_; have HB := n1_; have BK222 := n2_; have GW222 := n3_; have GE222 := n4_; clear n0_ n1_ n2_ n3_ n4_; clear hb hbox hg; have hcz9_0 : w8.cell? ⟨gb222, 0, none⟩ = some (.int .i64 0) := (blk_cell BK222.out 0).trans rfl; have hcz9_1 : w8.cell? ⟨gb222, 1, none⟩ = some (.int .i64 0) := (blk_cell BK222.out 1).trans rfl; have hcz9_2 : w8.cell? ⟨gb222, 2, none⟩ = some (.string (⟨#[]⟩ : ByteArray)) := (blk_cell BK222.out 2).trans rfl; have hcz9_3 : w8.cell? ⟨gb222, 3, none⟩ = some (.slice none 0 0) := (blk_cell BK222.out 3).trans rfl; have hfz9_0 := blk_frozen BK222.out 0; have hfz9_1 := blk_frozen BK222.out 1; have hfz9_2 := blk_frozen BK222.out 2; have hfz9_3 := blk_frozen BK222.out 3; obtain ⟨Ao10, co10, eo10⟩ := Kd.R_slice HO220.out; subst eo10)); go_upto_region 3 with (first | (go_at_call 9; (with_reducible refine (glacislaw05_awake.calls  t214 _ (tab_ hT_ ?hTab) A3.out).mono ?_); (case hTab => exact (by repeat (first | (with_reducible first | exact HB.out | apply below_alloc | apply pw_below_drewN | apply below_drew1) | exact HB.out))); rintro e w6 ⟨rfl, hb⟩; have n0_ := Aside0.mk (below_step (by repeat (first | (with_reducible first | exact HB.out | apply below_alloc | apply pw_below_drewN | apply below_drew1) | exact HB.out)) hb); clear HB; have HB := n0_; clear n0_; (try clear hb); (try clear hb2); (try clear hk); (try clear hi)) | (go_at_call 12; (with_reducible refine (sfitem_Parse.calls a0 t215 t216 t217 t218 t221 _ A4.out).mono ?_); rintro e w7 ⟨v219, rfl, ho0, hb⟩; have n0_ := Aside0.mk (Kd.R_lower ho0 (below_size (by repeat (first | (with_reducible first | exact HB.out | apply below_alloc | apply pw_below_drewN | apply below_drew1) | exact HB.out)))); have n1_ := Aside0.mk (below_step (by repeat (first | (with_reducible first | exact HB.out | apply below_alloc | apply pw_below_drewN | apply below_drew1) | exact HB.out)) hb); clear HB; have HO220 := n0_; have HB := n1_; clear n0_ n1_; (try clear hb); (try clear hb2); (try clear hk); (try clear hi); (try clear ho0)) | ((with_reducible refine gate_dst (N := 6) rfl ?_); (try (refine gate_guard (by rfl) ?_; dsimp only)); refine box_event ?hg (N := 6) ?hd (cs := #[.int .i64 0, .int .i64 0, .string (⟨#[]⟩ : ByteArray), .slice none 0 0]) (t := 25) ?hr ?_; (case hd => rfl); (case hg => rfl); (case hr => first | (go_simp; done) | (go_simp; rfl)); intro gb222 hg w8 hbox hb; have n0_ := Aside0.mk (Kd.R_below (by (with_reducible repeat (first | apply Kd.R_alloc | apply Kd.R_drewN | apply Kd.R_drew)); exact HO220.out) hb); have n1_ := Aside0.mk (below_step (by repeat (first | (with_reducible first | exact HB.out | apply below_alloc | apply pw_below_drewN | apply below_drew1) | exact HB.out)) hb); have n2_ := Aside0.mk (hbox); have n3_ := Aside0.mk ((by rw [hg]; exact (below_size (by repeat (first | (with_reducible first | exact HB.out | apply below_alloc | apply pw_below_drewN | apply below_drew1) | exact HB.out))) : w.heap.size ≤ gb222)); have n4_ := Aside0.mk ((by rw [hg]; exact (below_size (by repeat (first | (with_reducible first | exact HB.out | apply below_alloc | apply pw_below_drewN | apply below_drew1) | exact HB.out))) : w.heap.size ≤ gb222)); clear HO220; clear HB; have HO220 := n0_; have HB := n1_; have BK222 := n2_; have GW222 := n3_; have GE222 := n4_; clear n0_ n1_ n2_ n3_ n4_; clear hb hbox hg; have hcz9_0 : w8.cell? ⟨gb222, 0, none⟩ = some (.int .i64 0) := (blk_cell BK222.out 0).trans rfl; have hcz9_1 : w8.cell? ⟨gb222, 1, none⟩ = some (.int .i64 0) := (blk_cell BK222.out 1).trans rfl; have hcz9_2 : w8.cell? ⟨gb222, 2, none⟩ = some (.string (⟨#[]⟩ : ByteArray)) := (blk_cell BK222.out 2).trans rfl; have hcz9_3 : w8.cell? ⟨gb222, 3, none⟩ = some (.slice none 0 0) := (blk_cell BK222.out 3).trans rfl; have hfz9_0 := blk_frozen BK222.out 0; have hfz9_1 := blk_frozen BK222.out 1; have hfz9_2 := blk_frozen BK222.out 2; have hfz9_3 := blk_frozen BK222.out 3; obtain ⟨Ao10, co10, eo10⟩ := Kd.R_slice HO220.out; subst eo10)))
  (try simp only [Act.put, List.setIfInBounds_toArray, List.set_cons_zero, List.set_cons_succ])
  go_cut [33] (fun v33 wc => ∃ (kq : Nat) (x33_4 : Bool), v33 = .bool x33_4 ∧ Aside0 (glacislaw05_SfitemLast.j0 kq a1 t214 x33_4 t215 t216 t217 t218 = some r) ∧ Aside0 (kq ≤ k) ∧ Aside0 (Kd.R k38 38 wc w.heap.size (fun _ => True) (.slice Ao10 t218.length co10) t218) ∧ Aside0 (wc.heap[gb222]? = some (.cells #[.int .i64 t215, .int .i64 t216, .string t217, (.slice Ao10 t218.length co10)] 25 (0, 0))) ∧ Aside0 (Below w.heap.size w wc))
  case first =>
    have H := HC5.out
    clear HC5
    by_cases c11 : t221 = 0
    · rw [if_pos c11] at H
      have c11b0 : (t221 == 0) = true := beq_iff_eq.mpr c11
      have c11b1 : (t221 != 0) = false := bne_eq_false_iff_eq.mpr c11
      clear c11
      (first | rw [c11b0] | (simp only [i64_w, i32_w]; rw [c11b0]) | skip)
      by_cases c12 : (t218.length : Int) = 0
      · rw [if_pos c12] at H
        have c12b0 : ((t218.length : Int) == 0) = true := beq_iff_eq.mpr c12
        have c12b1 : ((t218.length : Int) != 0) = false := bne_eq_false_iff_eq.mpr c12
        clear c12
        have H' := Aside0.mk H
        clear H
        have hcz13_0 : w8.cell? ⟨gb222, 0, none⟩ = some (.int .i64 0) := (blk_cell BK222.out 0).trans rfl
        have hcz13_1 : w8.cell? ⟨gb222, 1, none⟩ = some (.int .i64 0) := (blk_cell BK222.out 1).trans rfl
        have hcz13_2 : w8.cell? ⟨gb222, 2, none⟩ = some (.string (⟨#[]⟩ : ByteArray)) := (blk_cell BK222.out 2).trans rfl
        have hcz13_3 : w8.cell? ⟨gb222, 3, none⟩ = some (.slice none 0 0) := (blk_cell BK222.out 3).trans rfl
        have hfz13_0 := blk_frozen BK222.out 0
        have hfz13_1 := blk_frozen BK222.out 1
        have hfz13_2 := blk_frozen BK222.out 2
        have hfz13_3 := blk_frozen BK222.out 3
        go_wp2
        repeat (go_quiet (fail); try go_wp2)
        go_meet
        case rel => exact ⟨_, (true), (by first | rfl | (simp; done) | (simp [*]; done) | (simp [q_ne_nil]; done)), H', ⟨by first | omega | exact Nat.le_refl _⟩, ⟨by (with_reducible repeat (first | apply Kd.R_alloc | apply Kd.R_drewN | apply Kd.R_drew)); exact Kd.R_mono (Kd.R_far (p := ⟨gb222, 3, none⟩) (Kd.R_far (p := ⟨gb222, 2, none⟩) (Kd.R_far (p := ⟨gb222, 1, none⟩) (Kd.R_far (p := ⟨gb222, 0, none⟩) (Kd.R_types HO220.out BK222.out (by decide)) (fun _ hk => hk.2) (.int .i64 t215)) (fun _ hk => hk.2) (.int .i64 t216)) (fun _ hk => hk.2) (.string t217)) (fun _ hk => hk.2) (.slice Ao10 t218.length co10)) (fun _ hk => trivial)⟩, ⟨by (with_reducible repeat (first | refine blk_drewN ?_ _ | refine blk_drew ?_ | refine blk_alloc ?_ _)); refine blk_put (cs := #[.int .i64 t215, .int .i64 t216, .string t217, .slice none 0 0]) ?_ 3 _ rfl; (with_reducible repeat (first | refine blk_drewN ?_ _ | refine blk_drew ?_ | refine blk_alloc ?_ _)); refine blk_put (cs := #[.int .i64 t215, .int .i64 t216, .string (⟨#[]⟩ : ByteArray), .slice none 0 0]) ?_ 2 _ rfl; (with_reducible repeat (first | refine blk_drewN ?_ _ | refine blk_drew ?_ | refine blk_alloc ?_ _)); refine blk_put (cs := #[.int .i64 t215, .int .i64 0, .string (⟨#[]⟩ : ByteArray), .slice none 0 0]) ?_ 1 _ rfl; (with_reducible repeat (first | refine blk_drewN ?_ _ | refine blk_drew ?_ | refine blk_alloc ?_ _)); refine blk_put (cs := #[.int .i64 0, .int .i64 0, .string (⟨#[]⟩ : ByteArray), .slice none 0 0]) ?_ 0 _ rfl; (with_reducible repeat (first | refine blk_drewN ?_ _ | refine blk_drew ?_ | refine blk_alloc ?_ _)); exact BK222.out⟩, ⟨by repeat (first | (with_reducible first | exact HB.out | apply below_alloc | apply pw_below_drewN | apply below_drew1 | refine below_set ?_ GE222.out) | exact HB.out)⟩⟩
      · rw [if_neg c12] at H
        have c12b0 : ((t218.length : Int) == 0) = false := beq_eq_false_iff_ne.mpr c12
        have c12b1 : ((t218.length : Int) != 0) = true := bne_iff_ne.mpr c12
        have c12b2 : ¬ (t218 = []) := fun h_ => c12 (by rw [h_]; rfl)
        have H' := Aside0.mk H
        clear H
        have hcz14_0 : w8.cell? ⟨gb222, 0, none⟩ = some (.int .i64 0) := (blk_cell BK222.out 0).trans rfl
        have hcz14_1 : w8.cell? ⟨gb222, 1, none⟩ = some (.int .i64 0) := (blk_cell BK222.out 1).trans rfl
        have hcz14_2 : w8.cell? ⟨gb222, 2, none⟩ = some (.string (⟨#[]⟩ : ByteArray)) := (blk_cell BK222.out 2).trans rfl
        have hcz14_3 : w8.cell? ⟨gb222, 3, none⟩ = some (.slice none 0 0) := (blk_cell BK222.out 3).trans rfl
        have hfz14_0 := blk_frozen BK222.out 0
        have hfz14_1 := blk_frozen BK222.out 1
        have hfz14_2 := blk_frozen BK222.out 2
        have hfz14_3 := blk_frozen BK222.out 3
        go_wp2
        repeat (go_quiet (fail); try go_wp2)
        go_meet
        case rel => exact ⟨_, (decide ((a0.size : Int) > 1000)), (by first | rfl | (simp; done) | (simp [*]; done) | (simp [q_ne_nil]; done)), H', ⟨by first | omega | exact Nat.le_refl _⟩, ⟨by (with_reducible repeat (first | apply Kd.R_alloc | apply Kd.R_drewN | apply Kd.R_drew)); exact Kd.R_mono (Kd.R_far (p := ⟨gb222, 3, none⟩) (Kd.R_far (p := ⟨gb222, 2, none⟩) (Kd.R_far (p := ⟨gb222, 1, none⟩) (Kd.R_far (p := ⟨gb222, 0, none⟩) (Kd.R_types HO220.out BK222.out (by decide)) (fun _ hk => hk.2) (.int .i64 t215)) (fun _ hk => hk.2) (.int .i64 t216)) (fun _ hk => hk.2) (.string t217)) (fun _ hk => hk.2) (.slice Ao10 t218.length co10)) (fun _ hk => trivial)⟩, ⟨by (with_reducible repeat (first | refine blk_drewN ?_ _ | refine blk_drew ?_ | refine blk_alloc ?_ _)); refine blk_put (cs := #[.int .i64 t215, .int .i64 t216, .string t217, .slice none 0 0]) ?_ 3 _ rfl; (with_reducible repeat (first | refine blk_drewN ?_ _ | refine blk_drew ?_ | refine blk_alloc ?_ _)); refine blk_put (cs := #[.int .i64 t215, .int .i64 t216, .string (⟨#[]⟩ : ByteArray), .slice none 0 0]) ?_ 2 _ rfl; (with_reducible repeat (first | refine blk_drewN ?_ _ | refine blk_drew ?_ | refine blk_alloc ?_ _)); refine blk_put (cs := #[.int .i64 t215, .int .i64 0, .string (⟨#[]⟩ : ByteArray), .slice none 0 0]) ?_ 1 _ rfl; (with_reducible repeat (first | refine blk_drewN ?_ _ | refine blk_drew ?_ | refine blk_alloc ?_ _)); refine blk_put (cs := #[.int .i64 0, .int .i64 0, .string (⟨#[]⟩ : ByteArray), .slice none 0 0]) ?_ 0 _ rfl; (with_reducible repeat (first | refine blk_drewN ?_ _ | refine blk_drew ?_ | refine blk_alloc ?_ _)); exact BK222.out⟩, ⟨by repeat (first | (with_reducible first | exact HB.out | apply below_alloc | apply pw_below_drewN | apply below_drew1 | refine below_set ?_ GE222.out) | exact HB.out)⟩⟩
    · rw [if_neg c11] at H
      have c11b0 : (t221 == 0) = false := beq_eq_false_iff_ne.mpr c11
      have c11b1 : (t221 != 0) = true := bne_iff_ne.mpr c11
      (first | rw [c11b0] | (simp only [i64_w, i32_w]; rw [c11b0]) | skip)
      have H' := Aside0.mk H
      clear H
      go_wp2
      repeat (go_quiet (fail); try go_wp2)
      go_meet
      case rel => exact ⟨_, (true), (by first | rfl | (simp; done) | (simp [*]; done) | (simp [q_ne_nil]; done)), H', ⟨by first | omega | exact Nat.le_refl _⟩, ⟨by (with_reducible repeat (first | apply Kd.R_alloc | apply Kd.R_drewN | apply Kd.R_drew)); exact Kd.R_mono (Kd.R_far (p := ⟨gb222, 3, none⟩) (Kd.R_far (p := ⟨gb222, 2, none⟩) (Kd.R_far (p := ⟨gb222, 1, none⟩) (Kd.R_far (p := ⟨gb222, 0, none⟩) (Kd.R_types HO220.out BK222.out (by decide)) (fun _ hk => hk.2) (.int .i64 t215)) (fun _ hk => hk.2) (.int .i64 t216)) (fun _ hk => hk.2) (.string t217)) (fun _ hk => hk.2) (.slice Ao10 t218.length co10)) (fun _ hk => trivial)⟩, ⟨by (with_reducible repeat (first | refine blk_drewN ?_ _ | refine blk_drew ?_ | refine blk_alloc ?_ _)); refine blk_put (cs := #[.int .i64 t215, .int .i64 t216, .string t217, .slice none 0 0]) ?_ 3 _ rfl; (with_reducible repeat (first | refine blk_drewN ?_ _ | refine blk_drew ?_ | refine blk_alloc ?_ _)); refine blk_put (cs := #[.int .i64 t215, .int .i64 t216, .string (⟨#[]⟩ : ByteArray), .slice none 0 0]) ?_ 2 _ rfl; (with_reducible repeat (first | refine blk_drewN ?_ _ | refine blk_drew ?_ | refine blk_alloc ?_ _)); refine blk_put (cs := #[.int .i64 t215, .int .i64 0, .string (⟨#[]⟩ : ByteArray), .slice none 0 0]) ?_ 1 _ rfl; (with_reducible repeat (first | refine blk_drewN ?_ _ | refine blk_drew ?_ | refine blk_alloc ?_ _)); refine blk_put (cs := #[.int .i64 0, .int .i64 0, .string (⟨#[]⟩ : ByteArray), .slice none 0 0]) ?_ 0 _ rfl; (with_reducible repeat (first | refine blk_drewN ?_ _ | refine blk_drew ?_ | refine blk_alloc ?_ _)); exact BK222.out⟩, ⟨by repeat (first | (with_reducible first | exact HB.out | apply below_alloc | apply pw_below_drewN | apply below_drew1 | refine below_set ?_ GE222.out) | exact HB.out)⟩⟩
  case rest =>
    clear HC5
    try clear c1
    try clear p2
    try clear c6
    try clear c11
    try clear c11b0
    try clear c11b1
    try clear c12
    try clear c12b0
    try clear c12b1
    try clear c12b2
    try clear hcz13_0
    try clear hcz13_1
    try clear hcz13_2
    try clear hcz13_3
    try clear hcz14_0
    try clear hcz14_1
    try clear hcz14_2
    try clear hcz14_3
    try clear hcz9_0
    try clear hcz9_1
    try clear hcz9_2
    try clear hcz9_3
    try clear hfz13_0
    try clear hfz13_1
    try clear hfz13_2
    try clear hfz13_3
    try clear hfz14_0
    try clear hfz14_1
    try clear hfz14_2
    try clear hfz14_3
    try clear hfz9_0
    try clear hfz9_1
    try clear hfz9_2
    try clear hfz9_3
    obtain ⟨kq, x33_4, rfl, HA, HJ4, HO_223003, BK222, HB⟩ := hcut
    cases kq with
    | zero => exact absurd HA.out (by simp [glacislaw05_SfitemLast.j0])
    | succ kj4 =>
      have H := HA.out
      clear HA
      simp only [glacislaw05_SfitemLast.j0] at H
      by_cases c15 : x33_4 = true
      · subst c15
        have H1 : (some t214) = some r := by rw [if_pos rfl] at H; exact H
        clear H
        have H := H1
        clear H1
        obtain rfl := Option.some.inj H
        go_wp2
        repeat (go_quiet (fail); try go_wp2)
        go_ret
        exact ⟨by first | rfl | (simp [errW_none, errW_some] <;> rfl) | (simp [*, errW_none, errW_some] <;> rfl) | (simp [q_ne_nil]; done), by repeat (first | (with_reducible first | exact HB.out | apply below_alloc | apply pw_below_drewN | apply below_drew1 | refine below_set ?_ GE222.out) | exact HB.out)⟩
      · replace c15 := Bool.eq_false_iff.mpr c15
        subst c15
        have H1 : (if a1 < 0 then (glacislaw05_SfitemLast.j1 kj4 (wrap64 (-(wrap64 (a1 + 1)))) t214 t215 t216 t217 t218) else (glacislaw05_SfitemLast.j1 kj4 a1 t214 t215 t216 t217 t218)) = some r := by rw [if_neg (show ¬ (false = true) by decide)] at H; exact H
        clear H
        have H := H1
        clear H1
        have HC16 := Aside0.mk H
        clear H
        go_upto_if 36 with (fail)
        repeat (go_quiet (fail); go_upto_if 36 with (fail))
        go_cut [1] (fun v1 wc => ∃ (kq : Nat) (x1_15 : Int), v1 = .int .i64 x1_15 ∧ Aside0 (glacislaw05_SfitemLast.j1 kq x1_15 t214 t215 t216 t217 t218 = some r) ∧ Aside0 (kq ≤ kj4) ∧ Aside0 (Kd.R k38 38 wc w.heap.size (fun _ => True) (.slice Ao10 t218.length co10) t218) ∧ Aside0 (wc.heap[gb222]? = some (.cells #[.int .i64 t215, .int .i64 t216, .string t217, (.slice Ao10 t218.length co10)] 25 (0, 0))) ∧ Aside0 (Below w.heap.size w wc))
        case first =>
          have H := HC16.out
          clear HC16
          by_cases c17 : a1 < 0
          · rw [if_pos c17] at H
            have c17b0 : decide (a1 < 0) = true := decide_eq_true c17
            clear c17
            (first | rw [c17b0] | (simp only [i64_w, i32_w]; rw [c17b0]) | skip)
            have H' := Aside0.mk H
            clear H
            go_wp2
            repeat (go_quiet (fail); try go_wp2)
            go_meet
            case rel => exact ⟨_, (wrap64 (-(wrap64 (a1 + 1)))), (by first | rfl | (simp; done) | (simp [*]; done) | (simp [q_ne_nil]; done)), H', ⟨by have := HJ4.out; first | omega | exact Nat.le_refl _⟩, ⟨by (with_reducible repeat (first | apply Kd.R_alloc | apply Kd.R_drewN | apply Kd.R_drew)); exact HO_223003.out⟩, ⟨by (with_reducible repeat (first | refine blk_drewN ?_ _ | refine blk_drew ?_ | refine blk_alloc ?_ _)); exact BK222.out⟩, ⟨by repeat (first | (with_reducible first | exact HB.out | apply below_alloc | apply pw_below_drewN | apply below_drew1 | refine below_set ?_ GE222.out) | exact HB.out)⟩⟩
          · rw [if_neg c17] at H
            have c17b0 : decide (a1 < 0) = false := decide_eq_false c17
            clear c17
            (first | rw [c17b0] | (simp only [i64_w, i32_w]; rw [c17b0]) | skip)
            have H' := Aside0.mk H
            clear H
            go_wp2
            repeat (go_quiet (fail); try go_wp2)
            go_meet
            case rel => exact ⟨_, (a1), (by first | rfl | (simp; done) | (simp [*]; done) | (simp [q_ne_nil]; done)), H', ⟨by have := HJ4.out; first | omega | exact Nat.le_refl _⟩, ⟨by (with_reducible repeat (first | apply Kd.R_alloc | apply Kd.R_drewN | apply Kd.R_drew)); exact HO_223003.out⟩, ⟨by (with_reducible repeat (first | refine blk_drewN ?_ _ | refine blk_drew ?_ | refine blk_alloc ?_ _)); exact BK222.out⟩, ⟨by repeat (first | (with_reducible first | exact HB.out | apply below_alloc | apply pw_below_drewN | apply below_drew1 | refine below_set ?_ GE222.out) | exact HB.out)⟩⟩
        case rest =>
          clear HC16
          try clear c1
          try clear p2
          try clear c6
          try clear p6
          try clear c11
          try clear c11b0
          try clear c11b1
          try clear c12
          try clear c12b0
          try clear c12b1
          try clear c12b2
          try clear c15
          try clear c17
          try clear c17b0
          try clear hcz13_0
          try clear hcz13_1
          try clear hcz13_2
          try clear hcz13_3
          try clear hcz14_0
          try clear hcz14_1
          try clear hcz14_2
          try clear hcz14_3
          try clear hcz9_0
          try clear hcz9_1
          try clear hcz9_2
          try clear hcz9_3
          try clear hfz13_0
          try clear hfz13_1
          try clear hfz13_2
          try clear hfz13_3
          try clear hfz14_0
          try clear hfz14_1
          try clear hfz14_2
          try clear hfz14_3
          try clear hfz9_0
          try clear hfz9_1
          try clear hfz9_2
          try clear hfz9_3
          try clear p2
          obtain ⟨kq, x1_15, rfl, HA, HJ15, HO_223003, BK222, HB⟩ := hcut
          cases kq with
          | zero => exact absurd HA.out (by simp [glacislaw05_SfitemLast.j1])
          | succ kj15 =>
            have H := HA.out
            clear HA
            simp only [glacislaw05_SfitemLast.j1] at H
            by_cases c18 : (t218.length : Int) = 0
            · rw [if_pos c18] at H
              exact absurd H (by simp)
            · rw [if_neg c18] at H
              have c18b0 : ((t218.length : Int) == 0) = false := beq_eq_false_iff_ne.mpr c18
              have c18b1 : ((t218.length : Int) != 0) = true := bne_iff_ne.mpr c18
              have c18b2 : ¬ (t218 = []) := fun h_ => c18 (by rw [h_]; rfl)
              replace H := Option.bind_eq_some_iff.mp H
              obtain ⟨⟨t223, t224⟩, A190, H⟩ := H
              replace H : (if t224 = 0 then (if t223.size + 1 ≤ 9223372036854775807 then (if 0 ≤ (Int.tmod x1_15 (t218.length : Int)) then (if (Int.tmod x1_15 (t218.length : Int)) < (t218.length : Int) then (if (t223 ++ (⟨#[59]⟩ : ByteArray)).size + ((rd_T38 t218 (Int.tmod x1_15 (t218.length : Int))).f0).size ≤ 9223372036854775807 then (if ((t223 ++ (⟨#[59]⟩ : ByteArray)) ++ ((rd_T38 t218 (Int.tmod x1_15 (t218.length : Int))).f0)).size + 3 ≤ 9223372036854775807 then ((sfitem_Parse.f (((t223 ++ (⟨#[59]⟩ : ByteArray)) ++ ((rd_T38 t218 (Int.tmod x1_15 (t218.length : Int))).f0)) ++ (⟨#[61, 55, 55]⟩ : ByteArray))).bind fun bt226 => (if bt226.2.2.2.2 = 0 then (glacislaw05_SfitemLast.j2 kj15 t214 (Int.tmod x1_15 (t218.length : Int)) ((bt226.2.2.2.1.length : Int) != (t218.length : Int)) t215 t216 t217 t218 bt226.1 bt226.2.1 bt226.2.2.1 bt226.2.2.2.1) else (glacislaw05_SfitemLast.j2 kj15 t214 (Int.tmod x1_15 (t218.length : Int)) true t215 t216 t217 t218 bt226.1 bt226.2.1 bt226.2.2.1 bt226.2.2.2.1))) else (none)) else (none)) else (none)) else (none)) else (none)) else (none)) = some r := H
              have A19 := Aside0.mk A190
              clear A190
              by_cases c20 : t224 = 0
              · rw [if_pos c20] at H
                have c20b0 : (t224 == 0) = true := beq_iff_eq.mpr c20
                have c20b1 : (t224 != 0) = false := bne_eq_false_iff_eq.mpr c20
                clear c20
                by_cases c21 : t223.size + 1 ≤ 9223372036854775807
                · rw [if_pos c21] at H
                  have c21b0 := eq_true c21
                  have c21b1 : decide (t223.size + 1 ≤ 9223372036854775807) = true := decide_eq_true c21
                  try have c21b2 : (9223372036854775807 < t223.size + 1) = False := eq_false (Nat.not_lt.2 c21)
                  obtain ⟨ji22, hji22⟩ : ∃ j_ : Int, (Int.tmod x1_15 (t218.length : Int)) = j_ := ⟨_, rfl⟩
                  replace H : (if 0 ≤ (ji22) then (if (ji22) < (t218.length : Int) then (if (t223 ++ (⟨#[59]⟩ : ByteArray)).size + ((rd_T38 t218 (ji22)).f0).size ≤ 9223372036854775807 then (if ((t223 ++ (⟨#[59]⟩ : ByteArray)) ++ ((rd_T38 t218 (ji22)).f0)).size + 3 ≤ 9223372036854775807 then ((sfitem_Parse.f (((t223 ++ (⟨#[59]⟩ : ByteArray)) ++ ((rd_T38 t218 (ji22)).f0)) ++ (⟨#[61, 55, 55]⟩ : ByteArray))).bind fun bt226 => (if bt226.2.2.2.2 = 0 then (glacislaw05_SfitemLast.j2 kj15 t214 ji22 ((bt226.2.2.2.1.length : Int) != (t218.length : Int)) t215 t216 t217 t218 bt226.1 bt226.2.1 bt226.2.2.1 bt226.2.2.2.1) else (glacislaw05_SfitemLast.j2 kj15 t214 ji22 true t215 t216 t217 t218 bt226.1 bt226.2.1 bt226.2.2.1 bt226.2.2.2.1))) else (none)) else (none)) else (none)) else (none)) = some r := by first | (rw [hji22] at H; exact H) | (simp only [hji22] at H ⊢; exact H)
                  (try rw [hji22] at A19)
                  by_cases c23 : 0 ≤ (ji22)
                  · rw [if_pos c23] at H
                    have c23b0 : decide (0 ≤ (ji22)) = true := decide_eq_true c23
                    clear c23
                    by_cases c24 : (ji22) < (t218.length : Int)
                    · rw [if_pos c24] at H
                      have c24b0 : decide ((ji22) < (t218.length : Int)) = true := decide_eq_true c24
                      clear c24
                      by_cases c25 : (t223 ++ (⟨#[59]⟩ : ByteArray)).size + ((rd_T38 t218 (ji22)).f0).size ≤ 9223372036854775807
                      · rw [if_pos c25] at H
                        have c25b0 := eq_true c25
                        have c25b1 : decide ((t223 ++ (⟨#[59]⟩ : ByteArray)).size + ((rd_T38 t218 (ji22)).f0).size ≤ 9223372036854775807) = true := decide_eq_true c25
                        try have c25b2 : (9223372036854775807 < (t223 ++ (⟨#[59]⟩ : ByteArray)).size + ((rd_T38 t218 (ji22)).f0).size) = False := eq_false (Nat.not_lt.2 c25)
                        by_cases c26 : ((t223 ++ (⟨#[59]⟩ : ByteArray)) ++ ((rd_T38 t218 (ji22)).f0)).size + 3 ≤ 9223372036854775807
                        · rw [if_pos c26] at H
                          have c26b0 := eq_true c26
                          have c26b1 : decide (((t223 ++ (⟨#[59]⟩ : ByteArray)) ++ ((rd_T38 t218 (ji22)).f0)).size + 3 ≤ 9223372036854775807) = true := decide_eq_true c26
                          try have c26b2 : (9223372036854775807 < ((t223 ++ (⟨#[59]⟩ : ByteArray)) ++ ((rd_T38 t218 (ji22)).f0)).size + 3) = False := eq_false (Nat.not_lt.2 c26)
                          try (have c26d : (9223372036854775807 < t223.size + 1 + ((rd_T38 t218 (ji22)).f0).size + 3) = False := eq_false (by have h_ := c26; simp only [ByteArray.size_append] at h_; exact Nat.not_lt.2 h_))
                          replace H := Option.bind_eq_some_iff.mp H
                          obtain ⟨⟨t226, t227, t228, t229, t232⟩, A270, H⟩ := H
                          replace H : (if t232 = 0 then (glacislaw05_SfitemLast.j2 kj15 t214 ji22 ((t229.length : Int) != (t218.length : Int)) t215 t216 t217 t218 t226 t227 t228 t229) else (glacislaw05_SfitemLast.j2 kj15 t214 ji22 true t215 t216 t217 t218 t226 t227 t228 t229)) = some r := H
                          have A27 := Aside0.mk A270
                          clear A270
                          have HC28 := Aside0.mk H
                          clear H
                          have hcz29_0 : wc.cell? ⟨gb222, 0, none⟩ = some (.int .i64 t215) := (blk_cell BK222.out 0).trans rfl
                          have hcz29_1 : wc.cell? ⟨gb222, 1, none⟩ = some (.int .i64 t216) := (blk_cell BK222.out 1).trans rfl
                          have hcz29_2 : wc.cell? ⟨gb222, 2, none⟩ = some (.string t217) := (blk_cell BK222.out 2).trans rfl
                          have hcz29_3 : wc.cell? ⟨gb222, 3, none⟩ = some (.slice Ao10 t218.length co10) := (blk_cell BK222.out 3).trans rfl
                          have hfz29_0 := blk_frozen BK222.out 0
                          have hfz29_1 := blk_frozen BK222.out 1
                          have hfz29_2 := blk_frozen BK222.out 2
                          have hfz29_3 := blk_frozen BK222.out 3
                          go_upto_region 12 with (first | (go_at_call 11; (with_reducible refine (sfitem_Text.calls t215 t216 t217 _ _ t218 t223 t224 _ (tab_ hT_ ?hTab) ?side1 ?side2 A19.out).mono ?_); (case hTab => exact (by repeat (first | (with_reducible first | exact HB.out | apply below_alloc | apply pw_below_drewN | apply below_drew1 | refine below_set ?_ GE222.out) | exact HB.out))); (case side1 => repeat (first | exact (Kd.R_reads' HO_223003.out).2.2 | (with_reducible refine Kd.C_alloc ?_ _) | (with_reducible refine Kd.C_drewN ?_ _) | (with_reducible refine Kd.C_drew ?_))); (case side2 => exact (Kd.R_reads' HO_223003.out).2.1); rintro e w30 ⟨rfl, hb⟩; have n0_ := Aside0.mk (Kd.R_below (by (with_reducible repeat (first | apply Kd.R_alloc | apply Kd.R_drewN | apply Kd.R_drew)); exact HO_223003.out) hb); have n1_ := Aside0.mk (blk_below (g := gb222) (o := .cells #[.int .i64 t215, .int .i64 t216, .string t217, .slice Ao10 t218.length co10] 25 (0, 0)) (by (with_reducible repeat (first | refine blk_drewN ?_ _ | refine blk_drew ?_ | refine blk_alloc ?_ _)); exact BK222.out) hb); have n2_ := Aside0.mk (below_step (by repeat (first | (with_reducible first | exact HB.out | apply below_alloc | apply pw_below_drewN | apply below_drew1 | refine below_set ?_ GE222.out) | exact HB.out)) hb); clear HO_223003; clear BK222; clear HB; have HO_223003 := n0_; have BK222 := n1_; have HB := n2_; clear n0_ n1_ n2_; (try clear hb); (try clear hb2); (try clear hk); (try clear hi); have hcz31_0 : w30.cell? ⟨gb222, 0, none⟩ = some (.int .i64 t215) := (blk_cell BK222.out 0).trans rfl; have hcz31_1 : w30.cell? ⟨gb222, 1, none⟩ = some (.int .i64 t216) := (blk_cell BK222.out 1).trans rfl; have hcz31_2 : w30.cell? ⟨gb222, 2, none⟩ = some (.string t217) := (blk_cell BK222.out 2).trans rfl; have hcz31_3 : w30.cell? ⟨gb222, 3, none⟩ = some (.slice Ao10 t218.length co10) := (blk_cell BK222.out 3).trans rfl; have hfz31_0 := blk_frozen BK222.out 0; have hfz31_1 := blk_frozen BK222.out 1; have hfz31_2 := blk_frozen BK222.out 2; have hfz31_3 := blk_frozen BK222.out 3; have p225 : 0 ≤ ((ji22) : Int) := of_decide_eq_true (by first | (with_reducible assumption) | assumption); have q225 : (ji22) < (t218.length : Int) := of_decide_eq_true (by first | (with_reducible assumption) | assumption); obtain ⟨ad225, e225, hx225_0, hx225_1, hx225_2, hx225_3⟩ := at_T38 (Kd.R_reads' HO_223003.out).2.2 (ji22) p225 q225; cases e225; replace p225 := eq_true p225; replace q225 := eq_true q225) | (go_at_call 12; (with_reducible refine (sfitem_Parse.calls (((t223 ++ (⟨#[59]⟩ : ByteArray)) ++ ((rd_T38 t218 (ji22)).f0)) ++ (⟨#[61, 55, 55]⟩ : ByteArray)) t226 t227 t228 t229 t232 _ A27.out).mono ?_); rintro e w32 ⟨v230, rfl, ho0, hb⟩; have n0_ := Aside0.mk (Kd.R_elder' (by (with_reducible repeat (first | apply Kd.R_alloc | apply Kd.R_drewN | apply Kd.R_drew)); exact HO_223003.out) (Kd.R_base ho0) hb); have n1_ := Aside0.mk (Kd.R_lower (Kd.R_new' ho0 (Kd.R_lt (by (with_reducible repeat (first | apply Kd.R_alloc | apply Kd.R_drewN | apply Kd.R_drew)); exact HO_223003.out))) (below_size (by repeat (first | (with_reducible first | exact HB.out | apply below_alloc | apply pw_below_drewN | apply below_drew1 | refine below_set ?_ GE222.out) | exact HB.out)))); have n2_ := Aside0.mk (blk_below (g := gb222) (o := .cells #[.int .i64 t215, .int .i64 t216, .string t217, .slice (some ad225) t218.length co10] 25 (0, 0)) (by (with_reducible repeat (first | refine blk_drewN ?_ _ | refine blk_drew ?_ | refine blk_alloc ?_ _)); exact BK222.out) hb); have n3_ := Aside0.mk (below_step (by repeat (first | (with_reducible first | exact HB.out | apply below_alloc | apply pw_below_drewN | apply below_drew1 | refine below_set ?_ GE222.out) | exact HB.out)) hb); clear HO_223003; clear BK222; clear HB; have HO_223003 := n0_; have HO231 := n1_; have BK222 := n2_; have HB := n3_; clear n0_ n1_ n2_ n3_; (try clear hb); (try clear hb2); (try clear hk); (try clear hi); (try clear ho0)) | ((with_reducible refine gate_dst (N := 11) rfl ?_); (try (refine gate_guard (by rfl) ?_; dsimp only)); refine box_event ?hg (N := 11) ?hd (cs := #[.int .i64 0, .int .i64 0, .string (⟨#[]⟩ : ByteArray), .slice none 0 0]) (t := 25) ?hr ?_; (case hd => rfl); (case hg => rfl); (case hr => first | (go_simp; done) | (go_simp; rfl)); intro gb233 hg w33 hbox hb; have n0_ := Aside0.mk (Kd.R_below (by (with_reducible repeat (first | apply Kd.R_alloc | apply Kd.R_drewN | apply Kd.R_drew)); exact HO_223003.out) hb); have n1_ := Aside0.mk (Kd.R_below (by (with_reducible repeat (first | apply Kd.R_alloc | apply Kd.R_drewN | apply Kd.R_drew)); exact HO231.out) hb); have n2_ := Aside0.mk (blk_below (g := gb222) (o := .cells #[.int .i64 t215, .int .i64 t216, .string t217, .slice (some ad225) t218.length co10] 25 (0, 0)) (by (with_reducible repeat (first | refine blk_drewN ?_ _ | refine blk_drew ?_ | refine blk_alloc ?_ _)); exact BK222.out) hb); have n3_ := Aside0.mk (below_step (by repeat (first | (with_reducible first | exact HB.out | apply below_alloc | apply pw_below_drewN | apply below_drew1 | refine below_set ?_ GE222.out) | exact HB.out)) hb); have n4_ := Aside0.mk (hbox); have n5_ := Aside0.mk ((by rw [hg]; exact (below_size (by repeat (first | (with_reducible first | exact HB.out | apply below_alloc | apply pw_below_drewN | apply below_drew1 | refine below_set ?_ GE222.out) | exact HB.out))) : w.heap.size ≤ gb233)); have n6_ := Aside0.mk ((by rw [hg]; exact (below_size (by repeat (first | (with_reducible first | exact HB.out | apply below_alloc | apply pw_below_drewN | apply below_drew1 | refine below_set ?_ GE222.out) | exact HB.out))) : w.heap.size ≤ gb233)); have n7_ := Aside0.mk ((by rw [hg]; exact Nat.ne_of_lt (blk_lt (g := gb222) (o := .cells #[.int .i64 t215, .int .i64 t216, .string t217, .slice (some ad225) t218.length co10] 25 (0, 0)) (by (with_reducible repeat (first | refine blk_drewN ?_ _ | refine blk_drew ?_ | refine blk_alloc ?_ _)); exact BK222.out)) : gb222 ≠ gb233)); have n8_ := Aside0.mk ((by rw [hg]; exact Nat.ne_of_gt (blk_lt (g := gb222) (o := .cells #[.int .i64 t215, .int .i64 t216, .string t217, .slice (some ad225) t218.length co10] 25 (0, 0)) (by (with_reducible repeat (first | refine blk_drewN ?_ _ | refine blk_drew ?_ | refine blk_alloc ?_ _)); exact BK222.out)) : gb233 ≠ gb222)); clear HO_223003; clear HO231; clear BK222; clear HB; have HO_223003 := n0_; have HO231 := n1_; have BK222 := n2_; have HB := n3_; have BK233 := n4_; have GW233 := n5_; have GE233 := n6_; have NB222_233 := n7_; have NB233_222 := n8_; clear n0_ n1_ n2_ n3_ n4_ n5_ n6_ n7_ n8_; clear hb hbox hg; have hnb34 := NB233_222.out; have hnc34 := NB222_233.out; have hcz35_0 : w33.cell? ⟨gb233, 0, none⟩ = some (.int .i64 0) := (blk_cell BK233.out 0).trans rfl; have hcz35_1 : w33.cell? ⟨gb233, 1, none⟩ = some (.int .i64 0) := (blk_cell BK233.out 1).trans rfl; have hcz35_2 : w33.cell? ⟨gb233, 2, none⟩ = some (.string (⟨#[]⟩ : ByteArray)) := (blk_cell BK233.out 2).trans rfl; have hcz35_3 : w33.cell? ⟨gb233, 3, none⟩ = some (.slice none 0 0) := (blk_cell BK233.out 3).trans rfl; have hfz35_0 := blk_frozen BK233.out 0; have hfz35_1 := blk_frozen BK233.out 1; have hfz35_2 := blk_frozen BK233.out 2; have hfz35_3 := blk_frozen BK233.out 3; obtain ⟨Ao36, co36, eo36⟩ := Kd.R_slice HO231.out; subst eo36))
                          repeat (go_quiet (first | (go_at_call 11; (with_reducible refine (sfitem_Text.calls t215 t216 t217 _ _ t218 t223 t224 _ (tab_ hT_ ?hTab) ?side1 ?side2 A19.out).mono ?_); (case hTab => exact (by repeat (first | (with_reducible first | exact HB.out | apply below_alloc | apply pw_below_drewN | apply below_drew1 | refine below_set ?_ GE222.out) | exact HB.out))); (case side1 => repeat (first | exact (Kd.R_reads' HO_223003.out).2.2 | (with_reducible refine Kd.C_alloc ?_ _) | (with_reducible refine Kd.C_drewN ?_ _) | (with_reducible refine Kd.C_drew ?_))); (case side2 => exact (Kd.R_reads' HO_223003.out).2.1); rintro e w30 ⟨rfl, hb⟩; have n0_ := Aside0.mk (Kd.R_below (by (with_reducible repeat (first | apply Kd.R_alloc | apply Kd.R_drewN | apply Kd.R_drew)); exact HO_223003.out) hb); have n1_ := Aside0.mk (blk_below (g := gb222) (o := .cells #[.int .i64 t215, .int .i64 t216, .string t217, .slice Ao10 t218.length co10] 25 (0, 0)) (by (with_reducible repeat (first | refine blk_drewN ?_ _ | refine blk_drew ?_ | refine blk_alloc ?_ _)); exact BK222.out) hb); have n2_ := Aside0.mk (below_step (by repeat (first | (with_reducible first | exact HB.out | apply below_alloc | apply pw_below_drewN | apply below_drew1 | refine below_set ?_ GE222.out) | exact HB.out)) hb); clear HO_223003; clear BK222; clear HB; have HO_223003 := n0_; have BK222 := n1_; have HB := n2_; clear n0_ n1_ n2_; (try clear hb); (try clear hb2); (try clear hk); (try clear hi); have hcz31_0 : w30.cell? ⟨gb222, 0, none⟩ = some (.int .i64 t215) := (blk_cell BK222.out 0).trans rfl; have hcz31_1 : w30.cell? ⟨gb222, 1, none⟩ = some (.int .i64 t216) := (blk_cell BK222.out 1).trans rfl; have hcz31_2 : w30.cell? ⟨gb222, 2, none⟩ = some (.string t217) := (blk_cell BK222.out 2).trans rfl; have hcz31_3 : w30.cell? ⟨gb222, 3, none⟩ = some (.slice Ao10 t218.length co10) := (blk_cell BK222.out 3).trans rfl; have hfz31_0 := blk_frozen BK222.out 0; have hfz31_1 := blk_frozen BK222.out 1; have hfz31_2 := blk_frozen BK222.out 2; have hfz31_3 := blk_frozen BK222.out 3; have p225 : 0 ≤ ((ji22) : Int) := of_decide_eq_true (by first | (with_reducible assumption) | assumption); have q225 : (ji22) < (t218.length : Int) := of_decide_eq_true (by first | (with_reducible assumption) | assumption); obtain ⟨ad225, e225, hx225_0, hx225_1, hx225_2, hx225_3⟩ := at_T38 (Kd.R_reads' HO_223003.out).2.2 (ji22) p225 q225; cases e225; replace p225 := eq_true p225; replace q225 := eq_true q225) | (go_at_call 12; (with_reducible refine (sfitem_Parse.calls (((t223 ++ (⟨#[59]⟩ : ByteArray)) ++ ((rd_T38 t218 (ji22)).f0)) ++ (⟨#[61, 55, 55]⟩ : ByteArray)) t226 t227 t228 t229 t232 _ A27.out).mono ?_); rintro e w32 ⟨v230, rfl, ho0, hb⟩; have n0_ := Aside0.mk (Kd.R_elder' (by (with_reducible repeat (first | apply Kd.R_alloc | apply Kd.R_drewN | apply Kd.R_drew)); exact HO_223003.out) (Kd.R_base ho0) hb); have n1_ := Aside0.mk (Kd.R_lower (Kd.R_new' ho0 (Kd.R_lt (by (with_reducible repeat (first | apply Kd.R_alloc | apply Kd.R_drewN | apply Kd.R_drew)); exact HO_223003.out))) (below_size (by repeat (first | (with_reducible first | exact HB.out | apply below_alloc | apply pw_below_drewN | apply below_drew1 | refine below_set ?_ GE222.out) | exact HB.out)))); have n2_ := Aside0.mk (blk_below (g := gb222) (o := .cells #[.int .i64 t215, .int .i64 t216, .string t217, .slice (some ad225) t218.length co10] 25 (0, 0)) (by (with_reducible repeat (first | refine blk_drewN ?_ _ | refine blk_drew ?_ | refine blk_alloc ?_ _)); exact BK222.out) hb); have n3_ := Aside0.mk (below_step (by repeat (first | (with_reducible first | exact HB.out | apply below_alloc | apply pw_below_drewN | apply below_drew1 | refine below_set ?_ GE222.out) | exact HB.out)) hb); clear HO_223003; clear BK222; clear HB; have HO_223003 := n0_; have HO231 := n1_; have BK222 := n2_; have HB := n3_; clear n0_ n1_ n2_ n3_; (try clear hb); (try clear hb2); (try clear hk); (try clear hi); (try clear ho0)) | ((with_reducible refine gate_dst (N := 11) rfl ?_); (try (refine gate_guard (by rfl) ?_; dsimp only)); refine box_event ?hg (N := 11) ?hd (cs := #[.int .i64 0, .int .i64 0, .string (⟨#[]⟩ : ByteArray), .slice none 0 0]) (t := 25) ?hr ?_; (case hd => rfl); (case hg => rfl); (case hr => first | (go_simp; done) | (go_simp; rfl)); intro gb233 hg w33 hbox hb; have n0_ := Aside0.mk (Kd.R_below (by (with_reducible repeat (first | apply Kd.R_alloc | apply Kd.R_drewN | apply Kd.R_drew)); exact HO_223003.out) hb); have n1_ := Aside0.mk (Kd.R_below (by (with_reducible repeat (first | apply Kd.R_alloc | apply Kd.R_drewN | apply Kd.R_drew)); exact HO231.out) hb); have n2_ := Aside0.mk (blk_below (g := gb222) (o := .cells #[.int .i64 t215, .int .i64 t216, .string t217, .slice (some ad225) t218.length co10] 25 (0, 0)) (by (with_reducible repeat (first | refine blk_drewN ?_ _ | refine blk_drew ?_ | refine blk_alloc ?_ _)); exact BK222.out) hb); have n3_ := Aside0.mk (below_step (by repeat (first | (with_reducible first | exact HB.out | apply below_alloc | apply pw_below_drewN | apply below_drew1 | refine below_set ?_ GE222.out) | exact HB.out)) hb); have n4_ := Aside0.mk (hbox); have n5_ := Aside0.mk ((by rw [hg]; exact (below_size (by repeat (first | (with_reducible first | exact HB.out | apply below_alloc | apply pw_below_drewN | apply below_drew1 | refine below_set ?_ GE222.out) | exact HB.out))) : w.heap.size ≤ gb233)); have n6_ := Aside0.mk ((by rw [hg]; exact (below_size (by repeat (first | (with_reducible first | exact HB.out | apply below_alloc | apply pw_below_drewN | apply below_drew1 | refine below_set ?_ GE222.out) | exact HB.out))) : w.heap.size ≤ gb233)); have n7_ := Aside0.mk ((by rw [hg]; exact Nat.ne_of_lt (blk_lt (g := gb222) (o := .cells #[.int .i64 t215, .int .i64 t216, .string t217, .slice (some ad225) t218.length co10] 25 (0, 0)) (by (with_reducible repeat (first | refine blk_drewN ?_ _ | refine blk_drew ?_ | refine blk_alloc ?_ _)); exact BK222.out)) : gb222 ≠ gb233)); have n8_ := Aside0.mk ((by rw [hg]; exact Nat.ne_of_gt (blk_lt (g := gb222) (o := .cells #[.int .i64 t215, .int .i64 t216, .string t217, .slice (some ad225) t218.length co10] 25 (0, 0)) (by (with_reducible repeat (first | refine blk_drewN ?_ _ | refine blk_drew ?_ | refine blk_alloc ?_ _)); exact BK222.out)) : gb233 ≠ gb222)); clear HO_223003; clear HO231; clear BK222; clear HB; have HO_223003 := n0_; have HO231 := n1_; have BK222 := n2_; have HB := n3_; have BK233 := n4_; have GW233 := n5_; have GE233 := n6_; have NB222_233 := n7_; have NB233_222 := n8_; clear n0_ n1_ n2_ n3_ n4_ n5_ n6_ n7_ n8_; clear hb hbox hg; have hnb34 := NB233_222.out; have hnc34 := NB222_233.out; have hcz35_0 : w33.cell? ⟨gb233, 0, none⟩ = some (.int .i64 0) := (blk_cell BK233.out 0).trans rfl; have hcz35_1 : w33.cell? ⟨gb233, 1, none⟩ = some (.int .i64 0) := (blk_cell BK233.out 1).trans rfl; have hcz35_2 : w33.cell? ⟨gb233, 2, none⟩ = some (.string (⟨#[]⟩ : ByteArray)) := (blk_cell BK233.out 2).trans rfl; have hcz35_3 : w33.cell? ⟨gb233, 3, none⟩ = some (.slice none 0 0) := (blk_cell BK233.out 3).trans rfl; have hfz35_0 := blk_frozen BK233.out 0; have hfz35_1 := blk_frozen BK233.out 1; have hfz35_2 := blk_frozen BK233.out 2; have hfz35_3 := blk_frozen BK233.out 3; obtain ⟨Ao36, co36, eo36⟩ := Kd.R_slice HO231.out; subst eo36)); go_upto_region 12 with (first | (go_at_call 11; (with_reducible refine (sfitem_Text.calls t215 t216 t217 _ _ t218 t223 t224 _ (tab_ hT_ ?hTab) ?side1 ?side2 A19.out).mono ?_); (case hTab => exact (by repeat (first | (with_reducible first | exact HB.out | apply below_alloc | apply pw_below_drewN | apply below_drew1 | refine below_set ?_ GE222.out) | exact HB.out))); (case side1 => repeat (first | exact (Kd.R_reads' HO_223003.out).2.2 | (with_reducible refine Kd.C_alloc ?_ _) | (with_reducible refine Kd.C_drewN ?_ _) | (with_reducible refine Kd.C_drew ?_))); (case side2 => exact (Kd.R_reads' HO_223003.out).2.1); rintro e w30 ⟨rfl, hb⟩; have n0_ := Aside0.mk (Kd.R_below (by (with_reducible repeat (first | apply Kd.R_alloc | apply Kd.R_drewN | apply Kd.R_drew)); exact HO_223003.out) hb); have n1_ := Aside0.mk (blk_below (g := gb222) (o := .cells #[.int .i64 t215, .int .i64 t216, .string t217, .slice Ao10 t218.length co10] 25 (0, 0)) (by (with_reducible repeat (first | refine blk_drewN ?_ _ | refine blk_drew ?_ | refine blk_alloc ?_ _)); exact BK222.out) hb); have n2_ := Aside0.mk (below_step (by repeat (first | (with_reducible first | exact HB.out | apply below_alloc | apply pw_below_drewN | apply below_drew1 | refine below_set ?_ GE222.out) | exact HB.out)) hb); clear HO_223003; clear BK222; clear HB; have HO_223003 := n0_; have BK222 := n1_; have HB := n2_; clear n0_ n1_ n2_; (try clear hb); (try clear hb2); (try clear hk); (try clear hi); have hcz31_0 : w30.cell? ⟨gb222, 0, none⟩ = some (.int .i64 t215) := (blk_cell BK222.out 0).trans rfl; have hcz31_1 : w30.cell? ⟨gb222, 1, none⟩ = some (.int .i64 t216) := (blk_cell BK222.out 1).trans rfl; have hcz31_2 : w30.cell? ⟨gb222, 2, none⟩ = some (.string t217) := (blk_cell BK222.out 2).trans rfl; have hcz31_3 : w30.cell? ⟨gb222, 3, none⟩ = some (.slice Ao10 t218.length co10) := (blk_cell BK222.out 3).trans rfl; have hfz31_0 := blk_frozen BK222.out 0; have hfz31_1 := blk_frozen BK222.out 1; have hfz31_2 := blk_frozen BK222.out 2; have hfz31_3 := blk_frozen BK222.out 3; have p225 : 0 ≤ ((ji22) : Int) := of_decide_eq_true (by first | (with_reducible assumption) | assumption); have q225 : (ji22) < (t218.length : Int) := of_decide_eq_true (by first | (with_reducible assumption) | assumption); obtain ⟨ad225, e225, hx225_0, hx225_1, hx225_2, hx225_3⟩ := at_T38 (Kd.R_reads' HO_223003.out).2.2 (ji22) p225 q225; cases e225; replace p225 := eq_true p225; replace q225 := eq_true q225) | (go_at_call 12; (with_reducible refine (sfitem_Parse.calls (((t223 ++ (⟨#[59]⟩ : ByteArray)) ++ ((rd_T38 t218 (ji22)).f0)) ++ (⟨#[61, 55, 55]⟩ : ByteArray)) t226 t227 t228 t229 t232 _ A27.out).mono ?_); rintro e w32 ⟨v230, rfl, ho0, hb⟩; have n0_ := Aside0.mk (Kd.R_elder' (by (with_reducible repeat (first | apply Kd.R_alloc | apply Kd.R_drewN | apply Kd.R_drew)); exact HO_223003.out) (Kd.R_base ho0) hb); have n1_ := Aside0.mk (Kd.R_lower (Kd.R_new' ho0 (Kd.R_lt (by (with_reducible repeat (first | apply Kd.R_alloc | apply Kd.R_drewN | apply Kd.R_drew)); exact HO_223003.out))) (below_size (by repeat (first | (with_reducible first | exact HB.out | apply below_alloc | apply pw_below_drewN | apply below_drew1 | refine below_set ?_ GE222.out) | exact HB.out)))); have n2_ := Aside0.mk (blk_below (g := gb222) (o := .cells #[.int .i64 t215, .int .i64 t216, .string t217, .slice (some ad225) t218.length co10] 25 (0, 0)) (by (with_reducible repeat (first | refine blk_drewN ?_ _ | refine blk_drew ?_ | refine blk_alloc ?_ _)); exact BK222.out) hb); have n3_ := Aside0.mk (below_step (by repeat (first | (with_reducible first | exact HB.out | apply below_alloc | apply pw_below_drewN | apply below_drew1 | refine below_set ?_ GE222.out) | exact HB.out)) hb); clear HO_223003; clear BK222; clear HB; have HO_223003 := n0_; have HO231 := n1_; have BK222 := n2_; have HB := n3_; clear n0_ n1_ n2_ n3_; (try clear hb); (try clear hb2); (try clear hk); (try clear hi); (try clear ho0)) | ((with_reducible refine gate_dst (N := 11) rfl ?_); (try (refine gate_guard (by rfl) ?_; dsimp only)); refine box_event ?hg (N := 11) ?hd (cs := #[.int .i64 0, .int .i64 0, .string (⟨#[]⟩ : ByteArray), .slice none 0 0]) (t := 25) ?hr ?_; (case hd => rfl); (case hg => rfl); (case hr => first | (go_simp; done) | (go_simp; rfl)); intro gb233 hg w33 hbox hb; have n0_ := Aside0.mk (Kd.R_below (by (with_reducible repeat (first | apply Kd.R_alloc | apply Kd.R_drewN | apply Kd.R_drew)); exact HO_223003.out) hb); have n1_ := Aside0.mk (Kd.R_below (by (with_reducible repeat (first | apply Kd.R_alloc | apply Kd.R_drewN | apply Kd.R_drew)); exact HO231.out) hb); have n2_ := Aside0.mk (blk_below (g := gb222) (o := .cells #[.int .i64 t215, .int .i64 t216, .string t217, .slice (some ad225) t218.length co10] 25 (0, 0)) (by (with_reducible repeat (first | refine blk_drewN ?_ _ | refine blk_drew ?_ | refine blk_alloc ?_ _)); exact BK222.out) hb); have n3_ := Aside0.mk (below_step (by repeat (first | (with_reducible first | exact HB.out | apply below_alloc | apply pw_below_drewN | apply below_drew1 | refine below_set ?_ GE222.out) | exact HB.out)) hb); have n4_ := Aside0.mk (hbox); have n5_ := Aside0.mk ((by rw [hg]; exact (below_size (by repeat (first | (with_reducible first | exact HB.out | apply below_alloc | apply pw_below_drewN | apply below_drew1 | refine below_set ?_ GE222.out) | exact HB.out))) : w.heap.size ≤ gb233)); have n6_ := Aside0.mk ((by rw [hg]; exact (below_size (by repeat (first | (with_reducible first | exact HB.out | apply below_alloc | apply pw_below_drewN | apply below_drew1 | refine below_set ?_ GE222.out) | exact HB.out))) : w.heap.size ≤ gb233)); have n7_ := Aside0.mk ((by rw [hg]; exact Nat.ne_of_lt (blk_lt (g := gb222) (o := .cells #[.int .i64 t215, .int .i64 t216, .string t217, .slice (some ad225) t218.length co10] 25 (0, 0)) (by (with_reducible repeat (first | refine blk_drewN ?_ _ | refine blk_drew ?_ | refine blk_alloc ?_ _)); exact BK222.out)) : gb222 ≠ gb233)); have n8_ := Aside0.mk ((by rw [hg]; exact Nat.ne_of_gt (blk_lt (g := gb222) (o := .cells #[.int .i64 t215, .int .i64 t216, .string t217, .slice (some ad225) t218.length co10] 25 (0, 0)) (by (with_reducible repeat (first | refine blk_drewN ?_ _ | refine blk_drew ?_ | refine blk_alloc ?_ _)); exact BK222.out)) : gb233 ≠ gb222)); clear HO_223003; clear HO231; clear BK222; clear HB; have HO_223003 := n0_; have HO231 := n1_; have BK222 := n2_; have HB := n3_; have BK233 := n4_; have GW233 := n5_; have GE233 := n6_; have NB222_233 := n7_; have NB233_222 := n8_; clear n0_ n1_ n2_ n3_ n4_ n5_ n6_ n7_ n8_; clear hb hbox hg; have hnb34 := NB233_222.out; have hnc34 := NB222_233.out; have hcz35_0 : w33.cell? ⟨gb233, 0, none⟩ = some (.int .i64 0) := (blk_cell BK233.out 0).trans rfl; have hcz35_1 : w33.cell? ⟨gb233, 1, none⟩ = some (.int .i64 0) := (blk_cell BK233.out 1).trans rfl; have hcz35_2 : w33.cell? ⟨gb233, 2, none⟩ = some (.string (⟨#[]⟩ : ByteArray)) := (blk_cell BK233.out 2).trans rfl; have hcz35_3 : w33.cell? ⟨gb233, 3, none⟩ = some (.slice none 0 0) := (blk_cell BK233.out 3).trans rfl; have hfz35_0 := blk_frozen BK233.out 0; have hfz35_1 := blk_frozen BK233.out 1; have hfz35_2 := blk_frozen BK233.out 2; have hfz35_3 := blk_frozen BK233.out 3; obtain ⟨Ao36, co36, eo36⟩ := Kd.R_slice HO231.out; subst eo36)))
                          (try simp only [Act.put, List.setIfInBounds_toArray, List.set_cons_zero, List.set_cons_succ])
                          go_cut [76] (fun v76 wc => ∃ (kq : Nat) (x76_27 : Bool), v76 = .bool x76_27 ∧ Aside0 (glacislaw05_SfitemLast.j2 kq t214 ji22 x76_27 t215 t216 t217 t218 t226 t227 t228 t229 = some r) ∧ Aside0 (kq ≤ kj15) ∧ Aside0 (Kd.R k38 38 wc w.heap.size (fun k_ => some k_ ≠ ((.slice Ao36 t229.length co36) : Value).ownBlock) (.slice (some ad225) t218.length co10) t218) ∧ Aside0 (Kd.R k38 38 wc w.heap.size (fun k_ => some k_ ≠ ((.slice (some ad225) t218.length co10) : Value).ownBlock) (.slice Ao36 t229.length co36) t229) ∧ Aside0 (wc.heap[gb222]? = some (.cells #[.int .i64 t215, .int .i64 t216, .string t217, (.slice (some ad225) t218.length co10)] 25 (0, 0))) ∧ Aside0 (wc.heap[gb233]? = some (.cells #[.int .i64 t226, .int .i64 t227, .string t228, (.slice Ao36 t229.length co36)] 25 (0, 0))) ∧ Aside0 (Below w.heap.size w wc))
                          case first =>
                            have H := HC28.out
                            clear HC28
                            by_cases c37 : t232 = 0
                            · rw [if_pos c37] at H
                              have c37b0 : (t232 == 0) = true := beq_iff_eq.mpr c37
                              have c37b1 : (t232 != 0) = false := bne_eq_false_iff_eq.mpr c37
                              clear c37
                              (first | rw [c37b0] | (simp only [i64_w, i32_w]; rw [c37b0]) | skip)
                              have H' := Aside0.mk H
                              clear H
                              have hnb38 := NB233_222.out
                              have hnc38 := NB222_233.out
                              have hcz39_0 : w33.cell? ⟨gb233, 0, none⟩ = some (.int .i64 0) := (blk_cell BK233.out 0).trans rfl
                              have hcz39_1 : w33.cell? ⟨gb233, 1, none⟩ = some (.int .i64 0) := (blk_cell BK233.out 1).trans rfl
                              have hcz39_2 : w33.cell? ⟨gb233, 2, none⟩ = some (.string (⟨#[]⟩ : ByteArray)) := (blk_cell BK233.out 2).trans rfl
                              have hcz39_3 : w33.cell? ⟨gb233, 3, none⟩ = some (.slice none 0 0) := (blk_cell BK233.out 3).trans rfl
                              have hfz39_0 := blk_frozen BK233.out 0
                              have hfz39_1 := blk_frozen BK233.out 1
                              have hfz39_2 := blk_frozen BK233.out 2
                              have hfz39_3 := blk_frozen BK233.out 3
                              have hcz40_0 : w33.cell? ⟨gb222, 0, none⟩ = some (.int .i64 t215) := (blk_cell BK222.out 0).trans rfl
                              have hcz40_1 : w33.cell? ⟨gb222, 1, none⟩ = some (.int .i64 t216) := (blk_cell BK222.out 1).trans rfl
                              have hcz40_2 : w33.cell? ⟨gb222, 2, none⟩ = some (.string t217) := (blk_cell BK222.out 2).trans rfl
                              have hcz40_3 : w33.cell? ⟨gb222, 3, none⟩ = some (.slice (some ad225) t218.length co10) := (blk_cell BK222.out 3).trans rfl
                              have hfz40_0 := blk_frozen BK222.out 0
                              have hfz40_1 := blk_frozen BK222.out 1
                              have hfz40_2 := blk_frozen BK222.out 2
                              have hfz40_3 := blk_frozen BK222.out 3
                              go_wp2
                              repeat (go_quiet (fail); try go_wp2)
                              go_meet
                              case rel => exact ⟨_, (((t229.length : Int) != (t218.length : Int))), (by first | rfl | (simp; done) | (simp [*]; done) | (simp [q_ne_nil]; done)), (by first | exact H' | (rw [hji22]; exact H')), ⟨by have := HJ4.out; have := HJ15.out; first | omega | exact Nat.le_refl _⟩, ⟨by (with_reducible repeat (first | apply Kd.R_alloc | apply Kd.R_drewN | apply Kd.R_drew)); exact Kd.R_mono (Kd.R_far (p := ⟨gb233, 3, none⟩) (Kd.R_far (p := ⟨gb233, 2, none⟩) (Kd.R_far (p := ⟨gb233, 1, none⟩) (Kd.R_far (p := ⟨gb233, 0, none⟩) (Kd.R_types HO_223003.out BK233.out (by decide)) (fun _ hk => hk.2) (.int .i64 t226)) (fun _ hk => hk.2) (.int .i64 t227)) (fun _ hk => hk.2) (.string t228)) (fun _ hk => hk.2) (.slice Ao36 t229.length co36)) (fun _ hk => hk.1.2)⟩, ⟨by (with_reducible repeat (first | apply Kd.R_alloc | apply Kd.R_drewN | apply Kd.R_drew)); exact Kd.R_mono (Kd.R_far (p := ⟨gb233, 3, none⟩) (Kd.R_far (p := ⟨gb233, 2, none⟩) (Kd.R_far (p := ⟨gb233, 1, none⟩) (Kd.R_far (p := ⟨gb233, 0, none⟩) (Kd.R_types HO231.out BK233.out (by decide)) (fun _ hk => hk.2) (.int .i64 t226)) (fun _ hk => hk.2) (.int .i64 t227)) (fun _ hk => hk.2) (.string t228)) (fun _ hk => hk.2) (.slice Ao36 t229.length co36)) (fun _ hk => hk.1.2)⟩, ⟨by (with_reducible repeat (first | refine blk_drewN ?_ _ | refine blk_drew ?_ | refine blk_alloc ?_ _)); refine blk_far ?_ NB222_233.out _; (with_reducible repeat (first | refine blk_drewN ?_ _ | refine blk_drew ?_ | refine blk_alloc ?_ _)); refine blk_far ?_ NB222_233.out _; (with_reducible repeat (first | refine blk_drewN ?_ _ | refine blk_drew ?_ | refine blk_alloc ?_ _)); refine blk_far ?_ NB222_233.out _; (with_reducible repeat (first | refine blk_drewN ?_ _ | refine blk_drew ?_ | refine blk_alloc ?_ _)); refine blk_far ?_ NB222_233.out _; (with_reducible repeat (first | refine blk_drewN ?_ _ | refine blk_drew ?_ | refine blk_alloc ?_ _)); exact BK222.out⟩, ⟨by (with_reducible repeat (first | refine blk_drewN ?_ _ | refine blk_drew ?_ | refine blk_alloc ?_ _)); refine blk_put (cs := #[.int .i64 t226, .int .i64 t227, .string t228, .slice none 0 0]) ?_ 3 _ rfl; (with_reducible repeat (first | refine blk_drewN ?_ _ | refine blk_drew ?_ | refine blk_alloc ?_ _)); refine blk_put (cs := #[.int .i64 t226, .int .i64 t227, .string (⟨#[]⟩ : ByteArray), .slice none 0 0]) ?_ 2 _ rfl; (with_reducible repeat (first | refine blk_drewN ?_ _ | refine blk_drew ?_ | refine blk_alloc ?_ _)); refine blk_put (cs := #[.int .i64 t226, .int .i64 0, .string (⟨#[]⟩ : ByteArray), .slice none 0 0]) ?_ 1 _ rfl; (with_reducible repeat (first | refine blk_drewN ?_ _ | refine blk_drew ?_ | refine blk_alloc ?_ _)); refine blk_put (cs := #[.int .i64 0, .int .i64 0, .string (⟨#[]⟩ : ByteArray), .slice none 0 0]) ?_ 0 _ rfl; (with_reducible repeat (first | refine blk_drewN ?_ _ | refine blk_drew ?_ | refine blk_alloc ?_ _)); exact BK233.out⟩, ⟨by repeat (first | (with_reducible first | exact HB.out | apply below_alloc | apply pw_below_drewN | apply below_drew1 | refine below_set ?_ GE222.out | refine below_set ?_ GE233.out) | exact HB.out)⟩⟩
                            · rw [if_neg c37] at H
                              have c37b0 : (t232 == 0) = false := beq_eq_false_iff_ne.mpr c37
                              have c37b1 : (t232 != 0) = true := bne_iff_ne.mpr c37
                              (first | rw [c37b0] | (simp only [i64_w, i32_w]; rw [c37b0]) | skip)
                              have H' := Aside0.mk H
                              clear H
                              go_wp2
                              repeat (go_quiet (fail); try go_wp2)
                              go_meet
                              case rel => exact ⟨_, (true), (by first | rfl | (simp; done) | (simp [*]; done) | (simp [q_ne_nil]; done)), (by first | exact H' | (rw [hji22]; exact H')), ⟨by have := HJ4.out; have := HJ15.out; first | omega | exact Nat.le_refl _⟩, ⟨by (with_reducible repeat (first | apply Kd.R_alloc | apply Kd.R_drewN | apply Kd.R_drew)); exact Kd.R_mono (Kd.R_far (p := ⟨gb233, 3, none⟩) (Kd.R_far (p := ⟨gb233, 2, none⟩) (Kd.R_far (p := ⟨gb233, 1, none⟩) (Kd.R_far (p := ⟨gb233, 0, none⟩) (Kd.R_types HO_223003.out BK233.out (by decide)) (fun _ hk => hk.2) (.int .i64 t226)) (fun _ hk => hk.2) (.int .i64 t227)) (fun _ hk => hk.2) (.string t228)) (fun _ hk => hk.2) (.slice Ao36 t229.length co36)) (fun _ hk => hk.1.2)⟩, ⟨by (with_reducible repeat (first | apply Kd.R_alloc | apply Kd.R_drewN | apply Kd.R_drew)); exact Kd.R_mono (Kd.R_far (p := ⟨gb233, 3, none⟩) (Kd.R_far (p := ⟨gb233, 2, none⟩) (Kd.R_far (p := ⟨gb233, 1, none⟩) (Kd.R_far (p := ⟨gb233, 0, none⟩) (Kd.R_types HO231.out BK233.out (by decide)) (fun _ hk => hk.2) (.int .i64 t226)) (fun _ hk => hk.2) (.int .i64 t227)) (fun _ hk => hk.2) (.string t228)) (fun _ hk => hk.2) (.slice Ao36 t229.length co36)) (fun _ hk => hk.1.2)⟩, ⟨by (with_reducible repeat (first | refine blk_drewN ?_ _ | refine blk_drew ?_ | refine blk_alloc ?_ _)); refine blk_far ?_ NB222_233.out _; (with_reducible repeat (first | refine blk_drewN ?_ _ | refine blk_drew ?_ | refine blk_alloc ?_ _)); refine blk_far ?_ NB222_233.out _; (with_reducible repeat (first | refine blk_drewN ?_ _ | refine blk_drew ?_ | refine blk_alloc ?_ _)); refine blk_far ?_ NB222_233.out _; (with_reducible repeat (first | refine blk_drewN ?_ _ | refine blk_drew ?_ | refine blk_alloc ?_ _)); refine blk_far ?_ NB222_233.out _; (with_reducible repeat (first | refine blk_drewN ?_ _ | refine blk_drew ?_ | refine blk_alloc ?_ _)); exact BK222.out⟩, ⟨by (with_reducible repeat (first | refine blk_drewN ?_ _ | refine blk_drew ?_ | refine blk_alloc ?_ _)); refine blk_put (cs := #[.int .i64 t226, .int .i64 t227, .string t228, .slice none 0 0]) ?_ 3 _ rfl; (with_reducible repeat (first | refine blk_drewN ?_ _ | refine blk_drew ?_ | refine blk_alloc ?_ _)); refine blk_put (cs := #[.int .i64 t226, .int .i64 t227, .string (⟨#[]⟩ : ByteArray), .slice none 0 0]) ?_ 2 _ rfl; (with_reducible repeat (first | refine blk_drewN ?_ _ | refine blk_drew ?_ | refine blk_alloc ?_ _)); refine blk_put (cs := #[.int .i64 t226, .int .i64 0, .string (⟨#[]⟩ : ByteArray), .slice none 0 0]) ?_ 1 _ rfl; (with_reducible repeat (first | refine blk_drewN ?_ _ | refine blk_drew ?_ | refine blk_alloc ?_ _)); refine blk_put (cs := #[.int .i64 0, .int .i64 0, .string (⟨#[]⟩ : ByteArray), .slice none 0 0]) ?_ 0 _ rfl; (with_reducible repeat (first | refine blk_drewN ?_ _ | refine blk_drew ?_ | refine blk_alloc ?_ _)); exact BK233.out⟩, ⟨by repeat (first | (with_reducible first | exact HB.out | apply below_alloc | apply pw_below_drewN | apply below_drew1 | refine below_set ?_ GE222.out | refine below_set ?_ GE233.out) | exact HB.out)⟩⟩
                          case rest =>
                            clear HC28
                            try clear c1
                            try clear c2
                            try clear p2
                            try clear q2
                            try clear hx2
                            try clear c3
                            try clear c6
                            try clear p6
                            try clear c11
                            try clear c11b0
                            try clear c11b1
                            try clear c12
                            try clear c12b0
                            try clear c12b1
                            try clear c12b2
                            try clear c15
                            try clear c17
                            try clear c17b0
                            try clear c18
                            try clear c18b0
                            try clear c18b1
                            try clear c18b2
                            try clear c20
                            try clear c20b0
                            try clear c20b1
                            try clear c21
                            try clear c21b0
                            try clear c21b1
                            try clear c21b2
                            try clear p22
                            try clear q22
                            try clear hx22
                            try clear c23
                            try clear c23b0
                            try clear c24
                            try clear c24b0
                            try clear c25
                            try clear c25b0
                            try clear c25b1
                            try clear c25b2
                            try clear c26
                            try clear c26b0
                            try clear c26b1
                            try clear c26b2
                            try clear c34
                            try clear c37
                            try clear c37b0
                            try clear c37b1
                            try clear c38
                            try clear hcz13_0
                            try clear hcz13_1
                            try clear hcz13_2
                            try clear hcz13_3
                            try clear hcz14_0
                            try clear hcz14_1
                            try clear hcz14_2
                            try clear hcz14_3
                            try clear hcz29_0
                            try clear hcz29_1
                            try clear hcz29_2
                            try clear hcz29_3
                            try clear hcz31_0
                            try clear hcz31_1
                            try clear hcz31_2
                            try clear hcz31_3
                            try clear hcz35_0
                            try clear hcz35_1
                            try clear hcz35_2
                            try clear hcz35_3
                            try clear hcz39_0
                            try clear hcz39_1
                            try clear hcz39_2
                            try clear hcz39_3
                            try clear hcz40_0
                            try clear hcz40_1
                            try clear hcz40_2
                            try clear hcz40_3
                            try clear hcz9_0
                            try clear hcz9_1
                            try clear hcz9_2
                            try clear hcz9_3
                            try clear hfz13_0
                            try clear hfz13_1
                            try clear hfz13_2
                            try clear hfz13_3
                            try clear hfz14_0
                            try clear hfz14_1
                            try clear hfz14_2
                            try clear hfz14_3
                            try clear hfz29_0
                            try clear hfz29_1
                            try clear hfz29_2
                            try clear hfz29_3
                            try clear hfz31_0
                            try clear hfz31_1
                            try clear hfz31_2
                            try clear hfz31_3
                            try clear hfz35_0
                            try clear hfz35_1
                            try clear hfz35_2
                            try clear hfz35_3
                            try clear hfz39_0
                            try clear hfz39_1
                            try clear hfz39_2
                            try clear hfz39_3
                            try clear hfz40_0
                            try clear hfz40_1
                            try clear hfz40_2
                            try clear hfz40_3
                            try clear hfz9_0
                            try clear hfz9_1
                            try clear hfz9_2
                            try clear hfz9_3
                            try clear hx225_0
                            try clear hx225_1
                            try clear hx225_2
                            try clear hx225_3
                            try clear p2
                            try clear p225
                            try clear p6
                            try clear q225
                            obtain ⟨kq, x76_27, rfl, HA, HJ27, HO_223003, HO_234003, BK222, BK233, HB⟩ := hcut
                            cases kq with
                            | zero => exact absurd HA.out (by simp [glacislaw05_SfitemLast.j2])
                            | succ kj27 =>
                              have H := HA.out
                              clear HA
                              simp only [glacislaw05_SfitemLast.j2] at H
                              by_cases c41 : x76_27 = true
                              · subst c41
                                have H1 : (none) = some r := by rw [if_pos rfl] at H; exact H
                                clear H
                                have H := H1
                                clear H1
                                exact absurd H (by simp)
                              · replace c41 := Bool.eq_false_iff.mpr c41
                                subst c41
                                have H1 : (glacislaw05_SfitemLast.l0 kj27 t214 ji22 0 t215 t216 t217 t218 t226 t227 t228 t229) = some r := by rw [if_neg (show ¬ (false = true) by decide)] at H; exact H
                                clear H
                                have H := H1
                                clear H1
                                have H' := Aside0.mk H
                                clear H
                                go_wp2
                                repeat (go_quiet (fail); try go_wp2)
                                go_loopg [13] kj27 (fun kq v13 w' => ∃ (x13_4 : Int), v13 = .int .i64 x13_4 ∧ Aside0 (glacislaw05_SfitemLast.l0 kq t214 ji22 x13_4 t215 t216 t217 t218 t226 t227 t228 t229 = some r) ∧ Aside0 (kq ≤ kj27) ∧ Aside0 (Kd.R k38 38 w' w.heap.size (fun k_ => some k_ ≠ ((.slice Ao36 t229.length co36) : Value).ownBlock) (.slice (some ad225) t218.length co10) t218) ∧ Aside0 (Kd.R k38 38 w' w.heap.size (fun k_ => some k_ ≠ ((.slice (some ad225) t218.length co10) : Value).ownBlock) (.slice Ao36 t229.length co36) t229) ∧ Aside0 (w'.heap[gb222]? = some (.cells #[.int .i64 t215, .int .i64 t216, .string t217, (.slice (some ad225) t218.length co10)] 25 (0, 0))) ∧ Aside0 (w'.heap[gb233]? = some (.cells #[.int .i64 t226, .int .i64 t227, .string t228, (.slice Ao36 t229.length co36)] 25 (0, 0))) ∧ Aside0 (Below w.heap.size w w'))
                                case atStart => exact ⟨(0), (by first | rfl | (simp; done) | (simp [*]; done) | (simp [q_ne_nil]; done)), H', ⟨Nat.le_refl _⟩, ⟨by (with_reducible repeat (first | apply Kd.R_alloc | apply Kd.R_drewN | apply Kd.R_drew)); exact HO_223003.out⟩, ⟨by (with_reducible repeat (first | apply Kd.R_alloc | apply Kd.R_drewN | apply Kd.R_drew)); exact HO_234003.out⟩, ⟨by (with_reducible repeat (first | refine blk_drewN ?_ _ | refine blk_drew ?_ | refine blk_alloc ?_ _)); exact BK222.out⟩, ⟨by (with_reducible repeat (first | refine blk_drewN ?_ _ | refine blk_drew ?_ | refine blk_alloc ?_ _)); exact BK233.out⟩, ⟨by repeat (first | (with_reducible first | exact HB.out | apply below_alloc | apply pw_below_drewN | apply below_drew1 | refine below_set ?_ GE222.out | refine below_set ?_ GE233.out) | exact HB.out)⟩⟩
                                case round =>
                                  clear H'
                                  try clear c1
                                  try clear c2
                                  try clear p2
                                  try clear q2
                                  try clear hx2
                                  try clear c3
                                  try clear c4
                                  try clear c6
                                  try clear p6
                                  try clear c11
                                  try clear c11b0
                                  try clear c11b1
                                  try clear c12
                                  try clear c12b0
                                  try clear c12b1
                                  try clear c12b2
                                  try clear c15
                                  try clear c17
                                  try clear c17b0
                                  try clear c18
                                  try clear c18b0
                                  try clear c18b1
                                  try clear c18b2
                                  try clear c20
                                  try clear c20b0
                                  try clear c20b1
                                  try clear c21
                                  try clear c21b0
                                  try clear c21b1
                                  try clear c21b2
                                  try clear p22
                                  try clear q22
                                  try clear hx22
                                  try clear c23
                                  try clear c23b0
                                  try clear c24
                                  try clear c24b0
                                  try clear c25
                                  try clear c25b0
                                  try clear c25b1
                                  try clear c25b2
                                  try clear c26
                                  try clear c26b0
                                  try clear c26b1
                                  try clear c26b2
                                  try clear c34
                                  try clear c37
                                  try clear c37b0
                                  try clear c37b1
                                  try clear c38
                                  try clear c41
                                  try clear hcz13_0
                                  try clear hcz13_1
                                  try clear hcz13_2
                                  try clear hcz13_3
                                  try clear hcz14_0
                                  try clear hcz14_1
                                  try clear hcz14_2
                                  try clear hcz14_3
                                  try clear hcz29_0
                                  try clear hcz29_1
                                  try clear hcz29_2
                                  try clear hcz29_3
                                  try clear hcz31_0
                                  try clear hcz31_1
                                  try clear hcz31_2
                                  try clear hcz31_3
                                  try clear hcz35_0
                                  try clear hcz35_1
                                  try clear hcz35_2
                                  try clear hcz35_3
                                  try clear hcz39_0
                                  try clear hcz39_1
                                  try clear hcz39_2
                                  try clear hcz39_3
                                  try clear hcz40_0
                                  try clear hcz40_1
                                  try clear hcz40_2
                                  try clear hcz40_3
                                  try clear hcz9_0
                                  try clear hcz9_1
                                  try clear hcz9_2
                                  try clear hcz9_3
                                  try clear hfz13_0
                                  try clear hfz13_1
                                  try clear hfz13_2
                                  try clear hfz13_3
                                  try clear hfz14_0
                                  try clear hfz14_1
                                  try clear hfz14_2
                                  try clear hfz14_3
                                  try clear hfz29_0
                                  try clear hfz29_1
                                  try clear hfz29_2
                                  try clear hfz29_3
                                  try clear hfz31_0
                                  try clear hfz31_1
                                  try clear hfz31_2
                                  try clear hfz31_3
                                  try clear hfz35_0
                                  try clear hfz35_1
                                  try clear hfz35_2
                                  try clear hfz35_3
                                  try clear hfz39_0
                                  try clear hfz39_1
                                  try clear hfz39_2
                                  try clear hfz39_3
                                  try clear hfz40_0
                                  try clear hfz40_1
                                  try clear hfz40_2
                                  try clear hfz40_3
                                  try clear hfz9_0
                                  try clear hfz9_1
                                  try clear hfz9_2
                                  try clear hfz9_3
                                  try clear hx225_0
                                  try clear hx225_1
                                  try clear hx225_2
                                  try clear hx225_3
                                  try clear p2
                                  try clear p22
                                  try clear p225
                                  try clear p6
                                  try clear q2
                                  try clear q22
                                  try clear q225
                                  obtain ⟨x13_4, rfl, HA, HK4, HO_223003, HO_234003, BK222, BK233, HB⟩ := hrel
                                  cases gk with
                                  | zero => exact absurd HA.out (by simp [glacislaw05_SfitemLast.l0])
                                  | succ k4 =>
                                    have H := HA.out
                                    clear HA
                                    simp only [glacislaw05_SfitemLast.l0] at H
                                    by_cases c42 : x13_4 < (t218.length : Int)
                                    · rw [if_pos c42] at H
                                      have c42b0 : decide (x13_4 < (t218.length : Int)) = true := decide_eq_true c42
                                      clear c42
                                      by_cases c43 : 0 ≤ x13_4
                                      · rw [if_pos c43] at H
                                        have c43b0 : decide (0 ≤ x13_4) = true := decide_eq_true c43
                                        clear c43
                                        by_cases c44 : x13_4 = ji22
                                        · rw [if_pos c44] at H
                                          have c44b0 : (x13_4 == ji22) = true := beq_iff_eq.mpr c44
                                          have c44b1 : (x13_4 != ji22) = false := bne_eq_false_iff_eq.mpr c44
                                          clear c44
                                          by_cases c45 : x13_4 < (t229.length : Int)
                                          · rw [if_pos c45] at H
                                            have c45b0 : decide (x13_4 < (t229.length : Int)) = true := decide_eq_true c45
                                            clear c45
                                            by_cases c46 : (!((((rd_T38 t229 x13_4).f0).toList) == (((rd_T38 t218 x13_4).f0).toList)) || (!(((rd_T38 t229 x13_4).f1) == 1) || (!(((rd_T38 t229 x13_4).f2) == 77) || (!((((rd_T38 t229 x13_4).f3).toList) == ([] : List UInt8)))))) = true
                                            · rw [if_pos c46] at H
                                              exact absurd H (by simp)
                                            · rw [if_neg c46] at H
                                              have c46b0 : (!((((rd_T38 t229 x13_4).f0).toList) == (((rd_T38 t218 x13_4).f0).toList)) || (!(((rd_T38 t229 x13_4).f1) == 1) || (!(((rd_T38 t229 x13_4).f2) == 77) || (!((((rd_T38 t229 x13_4).f3).toList) == ([] : List UInt8)))))) = false := by simpa using c46
                                              obtain ⟨c46A, c46B, c46C, c46D⟩ : (((rd_T38 t229 x13_4).f0).toList == ((rd_T38 t218 x13_4).f0).toList) = true ∧ ((rd_T38 t229 x13_4).f1 == 1) = true ∧ ((rd_T38 t229 x13_4).f2 == 77) = true ∧ (((rd_T38 t229 x13_4).f3).toList == ([] : List UInt8)) = true := by simpa only [Bool.or_eq_false_iff, Bool.not_eq_false'] using c46b0
                                              have c46E : (((rd_T38 t229 x13_4).f3).toList == (⟨#[]⟩ : ByteArray).toList) = true := by rw [show (⟨#[]⟩ : ByteArray).toList = ([] : List UInt8) by rw [Lib.toList_data]]; exact c46D
                                              clear c46
                                              have H' := Aside0.mk H
                                              clear H
                                              have hnb54 := NB222_233.out
                                              have hnc54 := NB233_222.out
                                              have hcz55_0 : wr.cell? ⟨gb222, 0, none⟩ = some (.int .i64 t215) := (blk_cell BK222.out 0).trans rfl
                                              have hcz55_1 : wr.cell? ⟨gb222, 1, none⟩ = some (.int .i64 t216) := (blk_cell BK222.out 1).trans rfl
                                              have hcz55_2 : wr.cell? ⟨gb222, 2, none⟩ = some (.string t217) := (blk_cell BK222.out 2).trans rfl
                                              have hcz55_3 : wr.cell? ⟨gb222, 3, none⟩ = some (.slice (some ad225) t218.length co10) := (blk_cell BK222.out 3).trans rfl
                                              have hfz55_0 := blk_frozen BK222.out 0
                                              have hfz55_1 := blk_frozen BK222.out 1
                                              have hfz55_2 := blk_frozen BK222.out 2
                                              have hfz55_3 := blk_frozen BK222.out 3
                                              have p234 : 0 ≤ (x13_4 : Int) := of_decide_eq_true (by first | (with_reducible assumption) | assumption)
                                              have q234 : x13_4 < (t218.length : Int) := of_decide_eq_true (by first | (with_reducible assumption) | assumption)
                                              obtain ⟨ad234, e234, hx234_0, hx234_1, hx234_2, hx234_3⟩ := at_T38 (Kd.R_reads' HO_223003.out).2.2 x13_4 p234 q234
                                              obtain rfl : ad225 = ad234 := (by injection e234)
                                              replace p234 := eq_true p234
                                              replace q234 := eq_true q234
                                              have hlt_a := blk_lt BK233.out
                                              have hcz60_3 : wr.cell? ⟨gb233, 3, none⟩ = some (.slice Ao36 t229.length co36) := (blk_cell BK233.out 3).trans rfl
                                              have p236 : 0 ≤ (x13_4 : Int) := of_decide_eq_true (by first | (with_reducible assumption) | assumption)
                                              have q236 : x13_4 < (t229.length : Int) := of_decide_eq_true (by first | (with_reducible assumption) | assumption)
                                              obtain ⟨ad236, e236, hx236_0, hx236_1, hx236_2, hx236_3⟩ := at_T38 (Kd.R_reads' HO_234003.out).2.2 x13_4 p236 q236
                                              cases e236
                                              have hlt_b : ad236.block < wr.heap.size := by have := lt_of_cell hx236_0; rwa [add_block] at this
                                              have hlt_c : (ad236.add (x13_4.toNat * 4)).block < wr.heap.size := lt_of_cell hx236_0
                                              have hy236 := fun (o : Obj) => And.intro (cell?_alloc_old o hx236_0) (And.intro (cell?_alloc_old o hx236_1) (And.intro (cell?_alloc_old o hx236_2) (cell?_alloc_old o hx236_3)))
                                              have hy236_0 := fun (o : Obj) => cell?_alloc_old o hx236_0
                                              have hy236_1 := fun (o : Obj) => cell?_alloc_old o hx236_1
                                              have hy236_2 := fun (o : Obj) => cell?_alloc_old o hx236_2
                                              have hy236_3 := fun (o : Obj) => cell?_alloc_old o hx236_3
                                              clear hy236
                                              replace p236 := eq_true p236
                                              replace q236 := eq_true q236
                                              go_wp2
                                              repeat (go_quiet (fail); try go_wp2)
                                              go_roundg k4
                                              case measure => have := HJ4.out; have := HJ15.out; have := HJ27.out; have := HK4.out; omega
                                              case rel => exact ⟨(wrap64 (x13_4 + 1)), (by first | rfl | (simp; done) | (simp [*]; done) | (simp [q_ne_nil]; done)), (by first | exact H' | (rw [hji22]; exact H')), ⟨by have := HJ4.out; have := HJ15.out; have := HJ27.out; have := HK4.out; omega⟩, ⟨by (with_reducible repeat (first | apply Kd.R_alloc | apply Kd.R_drewN | apply Kd.R_drew)); exact HO_223003.out⟩, ⟨by (with_reducible repeat (first | apply Kd.R_alloc | apply Kd.R_drewN | apply Kd.R_drew)); exact HO_234003.out⟩, ⟨by (with_reducible repeat (first | refine blk_drewN ?_ _ | refine blk_drew ?_ | refine blk_alloc ?_ _)); exact BK222.out⟩, ⟨by (with_reducible repeat (first | refine blk_drewN ?_ _ | refine blk_drew ?_ | refine blk_alloc ?_ _)); exact BK233.out⟩, ⟨by repeat (first | (with_reducible first | exact HB.out | apply below_alloc | apply pw_below_drewN | apply below_drew1 | refine below_set ?_ GE222.out | refine below_set ?_ GE233.out) | exact HB.out)⟩⟩
                                          · rw [if_neg c45] at H
                                            exact absurd H (by simp)
                                        · rw [if_neg c44] at H
                                          have c44b0 : (x13_4 == ji22) = false := beq_eq_false_iff_ne.mpr c44
                                          have c44b1 : (x13_4 != ji22) = true := bne_iff_ne.mpr c44
                                          by_cases c61 : x13_4 < (t229.length : Int)
                                          · rw [if_pos c61] at H
                                            have c61b0 : decide (x13_4 < (t229.length : Int)) = true := decide_eq_true c61
                                            clear c61
                                            by_cases c62 : (!((((rd_T38 t229 x13_4).f0).toList) == (((rd_T38 t218 x13_4).f0).toList)) || (!(((rd_T38 t229 x13_4).f1) == ((rd_T38 t218 x13_4).f1)) || (!(((rd_T38 t229 x13_4).f2) == ((rd_T38 t218 x13_4).f2)) || (!((((rd_T38 t229 x13_4).f3).toList) == (((rd_T38 t218 x13_4).f3).toList)))))) = true
                                            · rw [if_pos c62] at H
                                              exact absurd H (by simp)
                                            · rw [if_neg c62] at H
                                              have c62b0 : (!((((rd_T38 t229 x13_4).f0).toList) == (((rd_T38 t218 x13_4).f0).toList)) || (!(((rd_T38 t229 x13_4).f1) == ((rd_T38 t218 x13_4).f1)) || (!(((rd_T38 t229 x13_4).f2) == ((rd_T38 t218 x13_4).f2)) || (!((((rd_T38 t229 x13_4).f3).toList) == (((rd_T38 t218 x13_4).f3).toList)))))) = false := by simpa using c62
                                              clear c62
                                              have H' := Aside0.mk H
                                              clear H
                                              have hnb70 := NB222_233.out
                                              have hnc70 := NB233_222.out
                                              have hcz71_0 : wr.cell? ⟨gb222, 0, none⟩ = some (.int .i64 t215) := (blk_cell BK222.out 0).trans rfl
                                              have hcz71_1 : wr.cell? ⟨gb222, 1, none⟩ = some (.int .i64 t216) := (blk_cell BK222.out 1).trans rfl
                                              have hcz71_2 : wr.cell? ⟨gb222, 2, none⟩ = some (.string t217) := (blk_cell BK222.out 2).trans rfl
                                              have hcz71_3 : wr.cell? ⟨gb222, 3, none⟩ = some (.slice (some ad225) t218.length co10) := (blk_cell BK222.out 3).trans rfl
                                              have hfz71_0 := blk_frozen BK222.out 0
                                              have hfz71_1 := blk_frozen BK222.out 1
                                              have hfz71_2 := blk_frozen BK222.out 2
                                              have hfz71_3 := blk_frozen BK222.out 3
                                              have p234 : 0 ≤ (x13_4 : Int) := of_decide_eq_true (by first | (with_reducible assumption) | assumption)
                                              have q234 : x13_4 < (t218.length : Int) := of_decide_eq_true (by first | (with_reducible assumption) | assumption)
                                              obtain ⟨ad234, e234, hx234_0, hx234_1, hx234_2, hx234_3⟩ := at_T38 (Kd.R_reads' HO_223003.out).2.2 x13_4 p234 q234
                                              obtain rfl : ad225 = ad234 := (by injection e234)
                                              replace p234 := eq_true p234
                                              replace q234 := eq_true q234
                                              have hlt_a := blk_lt BK233.out
                                              have hcz60_3 : wr.cell? ⟨gb233, 3, none⟩ = some (.slice Ao36 t229.length co36) := (blk_cell BK233.out 3).trans rfl
                                              have p236 : 0 ≤ (x13_4 : Int) := of_decide_eq_true (by first | (with_reducible assumption) | assumption)
                                              have q236 : x13_4 < (t229.length : Int) := of_decide_eq_true (by first | (with_reducible assumption) | assumption)
                                              obtain ⟨ad236, e236, hx236_0, hx236_1, hx236_2, hx236_3⟩ := at_T38 (Kd.R_reads' HO_234003.out).2.2 x13_4 p236 q236
                                              cases e236
                                              have hlt_b : ad236.block < wr.heap.size := by have := lt_of_cell hx236_0; rwa [add_block] at this
                                              have hlt_c : (ad236.add (x13_4.toNat * 4)).block < wr.heap.size := lt_of_cell hx236_0
                                              have hy236 := fun (o : Obj) => And.intro (cell?_alloc_old o hx236_0) (And.intro (cell?_alloc_old o hx236_1) (And.intro (cell?_alloc_old o hx236_2) (cell?_alloc_old o hx236_3)))
                                              have hy236_0 := fun (o : Obj) => cell?_alloc_old o hx236_0
                                              have hy236_1 := fun (o : Obj) => cell?_alloc_old o hx236_1
                                              have hy236_2 := fun (o : Obj) => cell?_alloc_old o hx236_2
                                              have hy236_3 := fun (o : Obj) => cell?_alloc_old o hx236_3
                                              clear hy236
                                              replace p236 := eq_true p236
                                              replace q236 := eq_true q236
                                              go_wp2
                                              repeat (go_quiet (fail); try go_wp2)
                                              go_roundg k4
                                              case measure => have := HJ4.out; have := HJ15.out; have := HJ27.out; have := HK4.out; omega
                                              case rel => exact ⟨(wrap64 (x13_4 + 1)), (by first | rfl | (simp; done) | (simp [*]; done) | (simp [q_ne_nil]; done)), (by first | exact H' | (rw [hji22]; exact H')), ⟨by have := HJ4.out; have := HJ15.out; have := HJ27.out; have := HK4.out; omega⟩, ⟨by (with_reducible repeat (first | apply Kd.R_alloc | apply Kd.R_drewN | apply Kd.R_drew)); exact HO_223003.out⟩, ⟨by (with_reducible repeat (first | apply Kd.R_alloc | apply Kd.R_drewN | apply Kd.R_drew)); exact HO_234003.out⟩, ⟨by (with_reducible repeat (first | refine blk_drewN ?_ _ | refine blk_drew ?_ | refine blk_alloc ?_ _)); exact BK222.out⟩, ⟨by (with_reducible repeat (first | refine blk_drewN ?_ _ | refine blk_drew ?_ | refine blk_alloc ?_ _)); exact BK233.out⟩, ⟨by repeat (first | (with_reducible first | exact HB.out | apply below_alloc | apply pw_below_drewN | apply below_drew1 | refine below_set ?_ GE222.out | refine below_set ?_ GE233.out) | exact HB.out)⟩⟩
                                          · rw [if_neg c61] at H
                                            exact absurd H (by simp)
                                      · rw [if_neg c43] at H
                                        exact absurd H (by simp)
                                    · rw [if_neg c42] at H
                                      have c42b0 : decide (x13_4 < (t218.length : Int)) = false := decide_eq_false c42
                                      clear c42
                                      obtain rfl := Option.some.inj H
                                      have hnb77 := NB222_233.out
                                      have hnc77 := NB233_222.out
                                      have hcz78_0 : wr.cell? ⟨gb222, 0, none⟩ = some (.int .i64 t215) := (blk_cell BK222.out 0).trans rfl
                                      have hcz78_1 : wr.cell? ⟨gb222, 1, none⟩ = some (.int .i64 t216) := (blk_cell BK222.out 1).trans rfl
                                      have hcz78_2 : wr.cell? ⟨gb222, 2, none⟩ = some (.string t217) := (blk_cell BK222.out 2).trans rfl
                                      have hcz78_3 : wr.cell? ⟨gb222, 3, none⟩ = some (.slice (some ad225) t218.length co10) := (blk_cell BK222.out 3).trans rfl
                                      have hfz78_0 := blk_frozen BK222.out 0
                                      have hfz78_1 := blk_frozen BK222.out 1
                                      have hfz78_2 := blk_frozen BK222.out 2
                                      have hfz78_3 := blk_frozen BK222.out 3
                                      go_wp2
                                      repeat (go_quiet (fail); try go_wp2)
                                      go_ret
                                      exact ⟨by first | rfl | (simp [errW_none, errW_some] <;> rfl) | (simp only [← hji22]; first | rfl | (simp [errW_none, errW_some] <;> rfl)) | (simp [*, errW_none, errW_some] <;> rfl) | (simp [q_ne_nil]; done), by repeat (first | (with_reducible first | exact HB.out | apply below_alloc | apply pw_below_drewN | apply below_drew1 | refine below_set ?_ GE222.out | refine below_set ?_ GE233.out) | exact HB.out)⟩
                        · exact absurd H (by rw [if_neg c26]; simp)
                      · exact absurd H (by rw [if_neg c25]; simp)
                    · exact absurd H (by rw [if_neg c24]; simp)
                  · exact absurd H (by rw [if_neg c23]; simp)
                · exact absurd H (by rw [if_neg c21]; simp)
              · exact absurd H (by rw [if_neg c20]; simp)

end Go.Proofs.YtbbaokjkmcfceaaDoor.Q
