/- The law SfieldReads: its row and card. Its conditions: the row's own. -/
import Derived.Test.YtjdbiicjfpgjkaaGreatDoorZr5
import Derived.Stop.LaidErr
set_option maxHeartbeats 8000000
set_option maxRecDepth 100000
namespace Go.Proofs.YtjdbiicjfpgjkaaGreatDoor.Q
open Go.RowKit Go.Proofs.YtjdbiicjfpgjkaaGreatDoorW.PrintWords Go.Proofs.YtjdbiicjfpgjkaaGreatDoorW.PrintLast Go.Proofs.YtjdbiicjfpgjkaaGreatDoorW.PrintMore
set_option linter.unusedVariables false
set_option linter.unusedSimpArgs false
def glacisref06_items.l0 : Nat → List (S31) → List (S31) → Int → Option (Bool)
 | 0, _, _, _ => none
 | k + 1, x0, x1, x5 => if x5 < (x0.length : Int) then (if 0 ≤ x5 then (if x5 < (x1.length : Int) then ((glacisref05_Same.f k ((rd_T31 x0 x5).f0) ((rd_T31 x0 x5).f1) ((rd_T31 x0 x5).f2) ((rd_T31 x0 x5).f3) ((rd_T31 x1 x5).f0) ((rd_T31 x1 x5).f1) ((rd_T31 x1 x5).f2) ((rd_T31 x1 x5).f3)).bind fun t413 => (if t413 = true then (glacisref06_items.l0 k x0 x1 (wrap64 (x5 + 1))) else (some false))) else (none)) else (none)) else (some true)
def glacisref06_items.f (k : Nat) (l0 : List (S31)) (l1 : List (S31)) : Option (Bool) := if (l0.length : Int) = (l1.length : Int) then (glacisref06_items.l0 k l0 l1 0) else (some false)
def glacisref06_items.T6 : Bool × List (List Nat × List Nat) := (true, [([], []), ([], []), ([0, 1], [0, 1]), ([2], [2]), ([], []), ([], []), ([4, 5], [4, 5]), ([6], [6]), ([3, 7], [3, 7]), ([8, 8, 0, 1, 2, 3, 4, 5, 6, 7, 8], [8])])
def glacisref06_items.B6 : List Nat := [0, 0, 3, 7, 0, 0, 48, 112, 255, 511]
theorem glacisref06_items.tab6 : rtab .any (opsOf Tryz.f28 6) = glacisref06_items.T6 := by kernel_rfl
theorem glacisref06_items.bits6 : waitsOk glacisref06_items.T6.2 glacisref06_items.B6 = true := by kernel_rfl
theorem glacisref06_items.calls (k : Nat) (A0 : Option Addr) (c0 : Nat) (l0 : List (S31)) (A1 : Option Addr) (c1 : Nat) (l1 : List (S31)) (r : Bool) (w : World) (hr0 : Kd.C k31 w A0 l0.length l0) (hc0 : l0.length ≤ c0) (hr1 : Kd.C k31 w A1 l1.length l1) (hc1 : l1.length ≤ c1) (h : glacisref06_items.f k l0 l1 = some r) :
  Calls Tryz.prog 28 #[.slice A0 l0.length c0, .slice A1 l1.length c1] w fun e w' => e = .returned (.bool r) ∧ Below w.heap.size w w' := by
 have hu31 := Tryz.underlying31
 have HR0 := Aside0.mk hr0
 have HC0 := Aside0.mk hc0
 clear hr0 hc0
 have HR1 := Aside0.mk hr1
 have HC1 := Aside0.mk hc1
 clear hr1 hc1
 have HB := Aside0.mk (Below.refl w.heap.size w)
 have H : (if (l0.length : Int) = (l1.length : Int) then (glacisref06_items.l0 k l0 l1 0) else (some false)) = some r := h
 clear h
 by_cases c3 : (l0.length : Int) = (l1.length : Int)
 ·rw [if_pos c3] at H
  obtain ⟨c3b0, c3b1⟩ := eT_ c3
  have c3b2 : (l0.length == l1.length) = true := by first | simpa using c3 | (simp at c3 ⊢; omega)
  clear c3
  have H' := Aside0.mk H
  clear H
  go_enter Tryz.func28, Tryz.ntmps28
  go_wp2
  go_loopg [5] k (fun kq v5 w' => ∃ (x5_1 : Int), v5 = .int .i64 x5_1 ∧ Aside0 (glacisref06_items.l0 kq l0 l1 x5_1 = some r) ∧ Aside0 (kq ≤ k) ∧ Aside0 (Below w.heap.size w w'))
  case atStart => exact ⟨(0), (by first | rfl | simp [*]), H', ⟨Nat.le_refl _⟩, ⟨bl_ HB.out⟩⟩
  case round =>
   clear H'
   (try clear c1); (try clear c2); (try clear p2); (try clear c3); (try clear c3b0); (try clear c3b1); (try clear c3b2)
   obtain ⟨x5_1, rfl, HA, HK1, HB⟩ := hrel
   cases gk with
   | zero => exact absurd HA.out (by simp [glacisref06_items.l0])
   | succ k1 =>
    have H := HA.out
    clear HA
    simp only [glacisref06_items.l0] at H
    by_cases c4 : x5_1 < (l0.length : Int)
    ·rw [if_pos c4] at H
     have c4b0 : decide (x5_1 < (l0.length : Int)) = true := decide_eq_true c4
     clear c4
     by_cases c5 : 0 ≤ x5_1
     ·rw [if_pos c5] at H
      have c5b0 : decide (0 ≤ x5_1) = true := decide_eq_true c5
      clear c5
      by_cases c6 : x5_1 < (l1.length : Int)
      ·rw [if_pos c6] at H
       have c6b0 : decide (x5_1 < (l1.length : Int)) = true := decide_eq_true c6
       clear c6
       replace H := Option.bind_eq_some_iff.mp H
       obtain ⟨t413, A70, H⟩ := H
       (try dsimp only at H)
       have A7 := Aside0.mk A70
       clear A70
       by_cases c8 : t413 = true
       ·subst c8
        rw [if_pos rfl] at H
        have H' := Aside0.mk H
        clear H
        try go_wp2
        have n0_ := Aside0.mk (below_drew1 HB.out)
        clear HB
        have HB := n0_
        clear n0_
        have p411 : 0 ≤ (x5_1 : Int) := of_decide_eq_true (by assumption)
        have q411 : x5_1 < (l0.length : Int) := of_decide_eq_true (by assumption)
        obtain ⟨ad411, A411_3, c411_3, e411, hx411_0, hx411_1, hx411_2, hx411_3, hl411_3, hi411_3⟩ := at_T31 HR0.out x5_1 p411 q411
        have hw411_3 := hx411_3
        have hw411_2 := hx411_2
        have hw411_1 := hx411_1
        have hw411_0 := hx411_0
        cases e411
        replace hx411_0 := lb_ HB.out hx411_0
        replace hx411_1 := lb_ HB.out hx411_1
        replace hx411_2 := lb_ HB.out hx411_2
        replace hx411_3 := lb_ HB.out hx411_3
        have HR411_3 := Aside0.mk hi411_3
        have HC411_3 := Aside0.mk hl411_3
        clear hi411_3 hl411_3
        replace p411 := eq_true p411
        replace q411 := eq_true q411
        have p412 : 0 ≤ (x5_1 : Int) := of_decide_eq_true (by assumption)
        have q412 : x5_1 < (l1.length : Int) := of_decide_eq_true (by assumption)
        obtain ⟨ad412, A412_3, c412_3, e412, hx412_0, hx412_1, hx412_2, hx412_3, hl412_3, hi412_3⟩ := at_T31 HR1.out x5_1 p412 q412
        have hw412_3 := hx412_3
        have hw412_2 := hx412_2
        have hw412_1 := hx412_1
        have hw412_0 := hx412_0
        cases e412
        replace hx412_0 := lb_ HB.out hx412_0
        replace hx412_1 := lb_ HB.out hx412_1
        replace hx412_2 := lb_ HB.out hx412_2
        replace hx412_3 := lb_ HB.out hx412_3
        have HR412_3 := Aside0.mk hi412_3
        have HC412_3 := Aside0.mk hl412_3
        clear hi412_3 hl412_3
        replace p412 := eq_true p412
        replace q412 := eq_true q412
        refine start_ (n := 10) (S := fun w' => w'.cell? (ad411.add ((x5_1).toNat * 4)) = some (.int .i64 ((rd_T31 l0 x5_1).f0)) ∧ w'.cell? ⟨(ad411.add ((x5_1).toNat * 4)).block, (ad411.add ((x5_1).toNat * 4)).off + 1, none⟩ = some (.int .i64 ((rd_T31 l0 x5_1).f1)) ∧ w'.cell? ⟨(ad411.add ((x5_1).toNat * 4)).block, (ad411.add ((x5_1).toNat * 4)).off + 2, none⟩ = some (.string ((rd_T31 l0 x5_1).f2)) ∧ w'.cell? ⟨(ad411.add ((x5_1).toNat * 4)).block, (ad411.add ((x5_1).toNat * 4)).off + 3, none⟩ = some (.slice A411_3 ((rd_T31 l0 x5_1).f3).length c411_3) ∧ w'.cell? (ad412.add ((x5_1).toNat * 4)) = some (.int .i64 ((rd_T31 l1 x5_1).f0)) ∧ w'.cell? ⟨(ad412.add ((x5_1).toNat * 4)).block, (ad412.add ((x5_1).toNat * 4)).off + 1, none⟩ = some (.int .i64 ((rd_T31 l1 x5_1).f1)) ∧ w'.cell? ⟨(ad412.add ((x5_1).toNat * 4)).block, (ad412.add ((x5_1).toNat * 4)).off + 2, none⟩ = some (.string ((rd_T31 l1 x5_1).f2)) ∧ w'.cell? ⟨(ad412.add ((x5_1).toNat * 4)).block, (ad412.add ((x5_1).toNat * 4)).off + 3, none⟩ = some (.slice A412_3 ((rd_T31 l1 x5_1).f3).length c412_3)) (ds := []) #[false,false,false,false,false,false,false,false,false,false] (by kernel_rfl) rfl rfl ⟨(lc_ HB.out hw411_0), (lc_ HB.out hw411_1), (lc_ HB.out hw411_2), (lc_ HB.out hw411_3), (lc_ HB.out hw412_0), (lc_ HB.out hw412_1), (lc_ HB.out hw412_2), (lc_ HB.out hw412_3)⟩ (fun hHeld => ?_); refine with_tabW glacisref06_items.tab6 glacisref06_items.bits6 (fun HT_ HW_ => ?_)
        generalize wr.drew = w9 at HB HR411_3 HR412_3 hx411_0 hx411_1 hx411_2 hx411_3 hx412_0 hx412_1 hx412_2 hx412_3 hHeld ⊢
        refine pure_ (i := 0) (N := some 18) (v := ?_) (a' := ?_) #[true,false,false,false,false,false,false,false,false,false] rfl rfl (any_of HT_.out (by kernel_rfl)) (fun _ _ _ h => h) (Or.inl ⟨by rfl, ?_⟩) ?_ ?_; rotate_left; (intro w'; go_simp; with_reducible rfl); rotate_left; (simp only [Act.put, List.setIfInBounds_toArray, List.set_cons_zero, List.set_cons_succ, i64_w, i32_w]; rfl)
        refine pure_ (i := 1) (N := some 19) (v := ?_) (a' := ?_) #[true,true,false,false,false,false,false,false,false,false] rfl rfl (any_of HT_.out (by kernel_rfl)) (fun _ _ _ h => h) (Or.inl ⟨by rfl, ?_⟩) ?_ ?_; rotate_left; (intro w'; go_simp; with_reducible rfl); rotate_left; (simp only [Act.put, List.setIfInBounds_toArray, List.set_cons_zero, List.set_cons_succ, i64_w, i32_w]; rfl)
        refine pure_ (i := 2) (N := some 20) (v := ?_) (a' := ?_) #[true,true,true,false,false,false,false,false,false,false] rfl rfl (any_of HT_.out (by kernel_rfl)) (fun _ _ _ h => h) (Or.inl ⟨by rfl, ?_⟩) ?_ ?_; rotate_left; (intro w'; go_simp; with_reducible rfl); rotate_left; (simp only [Act.put, List.setIfInBounds_toArray, List.set_cons_zero, List.set_cons_succ, i64_w, i32_w]; rfl)
        refine pure_ (i := 4) (N := some 22) (v := ?_) (a' := ?_) #[true,true,true,false,true,false,false,false,false,false] rfl rfl (any_of HT_.out (by kernel_rfl)) (fun _ _ _ h => h) (Or.inl ⟨by rfl, ?_⟩) ?_ ?_; rotate_left; (intro w'; go_simp; with_reducible rfl); rotate_left; (simp only [Act.put, List.setIfInBounds_toArray, List.set_cons_zero, List.set_cons_succ, i64_w, i32_w]; rfl)
        refine pure_ (i := 5) (N := some 23) (v := ?_) (a' := ?_) #[true,true,true,false,true,true,false,false,false,false] rfl rfl (any_of HT_.out (by kernel_rfl)) (fun _ _ _ h => h) (Or.inl ⟨by rfl, ?_⟩) ?_ ?_; rotate_left; (intro w'; go_simp; with_reducible rfl); rotate_left; (simp only [Act.put, List.setIfInBounds_toArray, List.set_cons_zero, List.set_cons_succ, i64_w, i32_w]; rfl)
        refine pure_ (i := 6) (N := some 24) (v := ?_) (a' := ?_) #[true,true,true,false,true,true,true,false,false,false] rfl rfl (any_of HT_.out (by kernel_rfl)) (fun _ _ _ h => h) (Or.inl ⟨by rfl, ?_⟩) ?_ ?_; rotate_left; (intro w'; go_simp; with_reducible rfl); rotate_left; (simp only [Act.put, List.setIfInBounds_toArray, List.set_cons_zero, List.set_cons_succ, i64_w, i32_w]; rfl)
        refine take_ (i := 3) (N := some 21) (v := ?_) (a' := ?_) #[true,true,true,true,true,true,true,false,false,false] rfl rfl (take_ofW HT_.out HW_.out (by kernel_rfl)) (fun _ _ _ h => h) (Or.inl ⟨by rfl, ?_⟩) hHeld ?_ ?_
        rotate_left
        ·rintro w' ⟨s0, s1, s2, s3, s4, s5, s6, s7⟩
         go_simp
         with_reducible rfl
        rotate_left
        ·simp only [Act.put, List.setIfInBounds_toArray, List.set_cons_zero, List.set_cons_succ, i64_w, i32_w]
         rfl
        refine take_ (i := 7) (N := some 25) (v := ?_) (a' := ?_) #[true,true,true,true,true,true,true,true,false,false] rfl rfl (take_ofW HT_.out HW_.out (by kernel_rfl)) (fun _ _ _ h => h) (Or.inl ⟨by rfl, ?_⟩) hHeld ?_ ?_
        rotate_left
        ·rintro w' ⟨s0, s1, s2, s3, s4, s5, s6, s7⟩
         go_simp
         with_reducible rfl
        rotate_left
        ·simp only [Act.put, List.setIfInBounds_toArray, List.set_cons_zero, List.set_cons_succ, i64_w, i32_w]
         rfl
        refine one_ (i := 8) (N := some 26) #[true,true,true,true,true,true,true,true,true,false] rfl rfl (one_of HT_.out (by kernel_rfl)) (by decide) (fun K hK => ?_)
        refine goes_ Tryz.func27 (by kernel_rfl) rfl #[.agg #[.int .i64 ((rd_T31 l0 x5_1).f0), .int .i64 ((rd_T31 l0 x5_1).f1), .string ((rd_T31 l0 x5_1).f2), .slice A411_3 ((rd_T31 l0 x5_1).f3).length c411_3], .agg #[.int .i64 ((rd_T31 l1 x5_1).f0), .int .i64 ((rd_T31 l1 x5_1).f1), .string ((rd_T31 l1 x5_1).f2), .slice A412_3 ((rd_T31 l1 x5_1).f3).length c412_3]] (by rfl) rfl rfl (by simp only [List.map_toArray, List.map_cons, List.map_nil] <;> rfl) ?_
        with_reducible refine (glacisref05_Same.calls k1 ((rd_T31 l0 x5_1).f0) ((rd_T31 l0 x5_1).f1) ((rd_T31 l0 x5_1).f2) _ _ ((rd_T31 l0 x5_1).f3) ((rd_T31 l1 x5_1).f0) ((rd_T31 l1 x5_1).f1) ((rd_T31 l1 x5_1).f2) _ _ ((rd_T31 l1 x5_1).f3) true _ ?side1 ?side2 ?side3 ?side4 A7.out).mono ?_
        (case side1 => exact cl_ (Kd.C_below HR411_3.out HB.out))
        (case side2 => exact HC411_3.out)
        (case side3 => exact cl_ (Kd.C_below HR412_3.out HB.out))
        (case side4 => exact HC412_3.out)
        rintro e w10 ⟨rfl, hb⟩
        refine ⟨_, rfl, ?_⟩
        have n0_ := Aside0.mk (below_step (bl_ HB.out) hb)
        clear HB
        have HB := n0_
        clear n0_
        (try clear hb)
        (try clear hb2)
        (try clear hk)
        (try clear hi)
        refine hK.out _ _ ⟨(lc_ HB.out hw411_0), (lc_ HB.out hw411_1), (lc_ HB.out hw411_2), (lc_ HB.out hw411_3), (lc_ HB.out hw412_0), (lc_ HB.out hw412_1), (lc_ HB.out hw412_2), (lc_ HB.out hw412_3)⟩ (fun hHeld => ?_)
        clear hK K
        refine norm_ (a' := ?_) ?_ ?_
        rotate_left
        ·show Act.put _ (some 26) _ = _
         simp only [Act.put, List.setIfInBounds_toArray, List.set_cons_zero, List.set_cons_succ, i64_w, i32_w]
         rfl
        refine pure_ (i := 9) (N := some 6) (v := ?_) (a' := ?_) #[true,true,true,true,true,true,true,true,true,true] rfl rfl (any_of HT_.out (by kernel_rfl)) (fun _ _ _ h => h) (Or.inl ⟨by rfl, ?_⟩) ?_ ?_; rotate_left; (intro w'; go_simp; with_reducible rfl); rotate_left; (simp only [Act.put, List.setIfInBounds_toArray, List.set_cons_zero, List.set_cons_succ, i64_w, i32_w]; rfl)
        refine done_ (done_of HT_.out (by kernel_rfl)) ?_
        try go_wp2
        go_roundg k1
        case measure => have := HK1.out; omega
        case rel => exact ⟨(wrap64 (x5_1 + 1)), (by first | rfl | simp [*]), H', ⟨by have := HK1.out; omega⟩, ⟨bl_ HB.out⟩⟩
       ·replace c8 := Bool.eq_false_iff.mpr c8
        subst c8
        rw [if_neg (show ¬ (false = true) by decide)] at H
        obtain rfl := Option.some.inj H
        try go_wp2
        have n0_ := Aside0.mk (below_drew1 HB.out)
        clear HB
        have HB := n0_
        clear n0_
        have p411 : 0 ≤ (x5_1 : Int) := of_decide_eq_true (by assumption)
        have q411 : x5_1 < (l0.length : Int) := of_decide_eq_true (by assumption)
        obtain ⟨ad411, A411_3, c411_3, e411, hx411_0, hx411_1, hx411_2, hx411_3, hl411_3, hi411_3⟩ := at_T31 HR0.out x5_1 p411 q411
        have hw411_3 := hx411_3
        have hw411_2 := hx411_2
        have hw411_1 := hx411_1
        have hw411_0 := hx411_0
        cases e411
        replace hx411_0 := lb_ HB.out hx411_0
        replace hx411_1 := lb_ HB.out hx411_1
        replace hx411_2 := lb_ HB.out hx411_2
        replace hx411_3 := lb_ HB.out hx411_3
        have HR411_3 := Aside0.mk hi411_3
        have HC411_3 := Aside0.mk hl411_3
        clear hi411_3 hl411_3
        replace p411 := eq_true p411
        replace q411 := eq_true q411
        have p412 : 0 ≤ (x5_1 : Int) := of_decide_eq_true (by assumption)
        have q412 : x5_1 < (l1.length : Int) := of_decide_eq_true (by assumption)
        obtain ⟨ad412, A412_3, c412_3, e412, hx412_0, hx412_1, hx412_2, hx412_3, hl412_3, hi412_3⟩ := at_T31 HR1.out x5_1 p412 q412
        have hw412_3 := hx412_3
        have hw412_2 := hx412_2
        have hw412_1 := hx412_1
        have hw412_0 := hx412_0
        cases e412
        replace hx412_0 := lb_ HB.out hx412_0
        replace hx412_1 := lb_ HB.out hx412_1
        replace hx412_2 := lb_ HB.out hx412_2
        replace hx412_3 := lb_ HB.out hx412_3
        have HR412_3 := Aside0.mk hi412_3
        have HC412_3 := Aside0.mk hl412_3
        clear hi412_3 hl412_3
        replace p412 := eq_true p412
        replace q412 := eq_true q412
        refine start_ (n := 10) (S := fun w' => w'.cell? (ad411.add ((x5_1).toNat * 4)) = some (.int .i64 ((rd_T31 l0 x5_1).f0)) ∧ w'.cell? ⟨(ad411.add ((x5_1).toNat * 4)).block, (ad411.add ((x5_1).toNat * 4)).off + 1, none⟩ = some (.int .i64 ((rd_T31 l0 x5_1).f1)) ∧ w'.cell? ⟨(ad411.add ((x5_1).toNat * 4)).block, (ad411.add ((x5_1).toNat * 4)).off + 2, none⟩ = some (.string ((rd_T31 l0 x5_1).f2)) ∧ w'.cell? ⟨(ad411.add ((x5_1).toNat * 4)).block, (ad411.add ((x5_1).toNat * 4)).off + 3, none⟩ = some (.slice A411_3 ((rd_T31 l0 x5_1).f3).length c411_3) ∧ w'.cell? (ad412.add ((x5_1).toNat * 4)) = some (.int .i64 ((rd_T31 l1 x5_1).f0)) ∧ w'.cell? ⟨(ad412.add ((x5_1).toNat * 4)).block, (ad412.add ((x5_1).toNat * 4)).off + 1, none⟩ = some (.int .i64 ((rd_T31 l1 x5_1).f1)) ∧ w'.cell? ⟨(ad412.add ((x5_1).toNat * 4)).block, (ad412.add ((x5_1).toNat * 4)).off + 2, none⟩ = some (.string ((rd_T31 l1 x5_1).f2)) ∧ w'.cell? ⟨(ad412.add ((x5_1).toNat * 4)).block, (ad412.add ((x5_1).toNat * 4)).off + 3, none⟩ = some (.slice A412_3 ((rd_T31 l1 x5_1).f3).length c412_3)) (ds := []) #[false,false,false,false,false,false,false,false,false,false] (by kernel_rfl) rfl rfl ⟨(lc_ HB.out hw411_0), (lc_ HB.out hw411_1), (lc_ HB.out hw411_2), (lc_ HB.out hw411_3), (lc_ HB.out hw412_0), (lc_ HB.out hw412_1), (lc_ HB.out hw412_2), (lc_ HB.out hw412_3)⟩ (fun hHeld => ?_); refine with_tabW glacisref06_items.tab6 glacisref06_items.bits6 (fun HT_ HW_ => ?_)
        generalize wr.drew = w11 at HB HR411_3 HR412_3 hx411_0 hx411_1 hx411_2 hx411_3 hx412_0 hx412_1 hx412_2 hx412_3 hHeld ⊢
        refine pure_ (i := 0) (N := some 18) (v := ?_) (a' := ?_) #[true,false,false,false,false,false,false,false,false,false] rfl rfl (any_of HT_.out (by kernel_rfl)) (fun _ _ _ h => h) (Or.inl ⟨by rfl, ?_⟩) ?_ ?_; rotate_left; (intro w'; go_simp; with_reducible rfl); rotate_left; (simp only [Act.put, List.setIfInBounds_toArray, List.set_cons_zero, List.set_cons_succ, i64_w, i32_w]; rfl)
        refine pure_ (i := 1) (N := some 19) (v := ?_) (a' := ?_) #[true,true,false,false,false,false,false,false,false,false] rfl rfl (any_of HT_.out (by kernel_rfl)) (fun _ _ _ h => h) (Or.inl ⟨by rfl, ?_⟩) ?_ ?_; rotate_left; (intro w'; go_simp; with_reducible rfl); rotate_left; (simp only [Act.put, List.setIfInBounds_toArray, List.set_cons_zero, List.set_cons_succ, i64_w, i32_w]; rfl)
        refine pure_ (i := 2) (N := some 20) (v := ?_) (a' := ?_) #[true,true,true,false,false,false,false,false,false,false] rfl rfl (any_of HT_.out (by kernel_rfl)) (fun _ _ _ h => h) (Or.inl ⟨by rfl, ?_⟩) ?_ ?_; rotate_left; (intro w'; go_simp; with_reducible rfl); rotate_left; (simp only [Act.put, List.setIfInBounds_toArray, List.set_cons_zero, List.set_cons_succ, i64_w, i32_w]; rfl)
        refine pure_ (i := 4) (N := some 22) (v := ?_) (a' := ?_) #[true,true,true,false,true,false,false,false,false,false] rfl rfl (any_of HT_.out (by kernel_rfl)) (fun _ _ _ h => h) (Or.inl ⟨by rfl, ?_⟩) ?_ ?_; rotate_left; (intro w'; go_simp; with_reducible rfl); rotate_left; (simp only [Act.put, List.setIfInBounds_toArray, List.set_cons_zero, List.set_cons_succ, i64_w, i32_w]; rfl)
        refine pure_ (i := 5) (N := some 23) (v := ?_) (a' := ?_) #[true,true,true,false,true,true,false,false,false,false] rfl rfl (any_of HT_.out (by kernel_rfl)) (fun _ _ _ h => h) (Or.inl ⟨by rfl, ?_⟩) ?_ ?_; rotate_left; (intro w'; go_simp; with_reducible rfl); rotate_left; (simp only [Act.put, List.setIfInBounds_toArray, List.set_cons_zero, List.set_cons_succ, i64_w, i32_w]; rfl)
        refine pure_ (i := 6) (N := some 24) (v := ?_) (a' := ?_) #[true,true,true,false,true,true,true,false,false,false] rfl rfl (any_of HT_.out (by kernel_rfl)) (fun _ _ _ h => h) (Or.inl ⟨by rfl, ?_⟩) ?_ ?_; rotate_left; (intro w'; go_simp; with_reducible rfl); rotate_left; (simp only [Act.put, List.setIfInBounds_toArray, List.set_cons_zero, List.set_cons_succ, i64_w, i32_w]; rfl)
        refine take_ (i := 3) (N := some 21) (v := ?_) (a' := ?_) #[true,true,true,true,true,true,true,false,false,false] rfl rfl (take_ofW HT_.out HW_.out (by kernel_rfl)) (fun _ _ _ h => h) (Or.inl ⟨by rfl, ?_⟩) hHeld ?_ ?_
        rotate_left
        ·rintro w' ⟨s0, s1, s2, s3, s4, s5, s6, s7⟩
         go_simp
         with_reducible rfl
        rotate_left
        ·simp only [Act.put, List.setIfInBounds_toArray, List.set_cons_zero, List.set_cons_succ, i64_w, i32_w]
         rfl
        refine take_ (i := 7) (N := some 25) (v := ?_) (a' := ?_) #[true,true,true,true,true,true,true,true,false,false] rfl rfl (take_ofW HT_.out HW_.out (by kernel_rfl)) (fun _ _ _ h => h) (Or.inl ⟨by rfl, ?_⟩) hHeld ?_ ?_
        rotate_left
        ·rintro w' ⟨s0, s1, s2, s3, s4, s5, s6, s7⟩
         go_simp
         with_reducible rfl
        rotate_left
        ·simp only [Act.put, List.setIfInBounds_toArray, List.set_cons_zero, List.set_cons_succ, i64_w, i32_w]
         rfl
        refine one_ (i := 8) (N := some 26) #[true,true,true,true,true,true,true,true,true,false] rfl rfl (one_of HT_.out (by kernel_rfl)) (by decide) (fun K hK => ?_)
        refine goes_ Tryz.func27 (by kernel_rfl) rfl #[.agg #[.int .i64 ((rd_T31 l0 x5_1).f0), .int .i64 ((rd_T31 l0 x5_1).f1), .string ((rd_T31 l0 x5_1).f2), .slice A411_3 ((rd_T31 l0 x5_1).f3).length c411_3], .agg #[.int .i64 ((rd_T31 l1 x5_1).f0), .int .i64 ((rd_T31 l1 x5_1).f1), .string ((rd_T31 l1 x5_1).f2), .slice A412_3 ((rd_T31 l1 x5_1).f3).length c412_3]] (by rfl) rfl rfl (by simp only [List.map_toArray, List.map_cons, List.map_nil] <;> rfl) ?_
        with_reducible refine (glacisref05_Same.calls k1 ((rd_T31 l0 x5_1).f0) ((rd_T31 l0 x5_1).f1) ((rd_T31 l0 x5_1).f2) _ _ ((rd_T31 l0 x5_1).f3) ((rd_T31 l1 x5_1).f0) ((rd_T31 l1 x5_1).f1) ((rd_T31 l1 x5_1).f2) _ _ ((rd_T31 l1 x5_1).f3) false _ ?side1 ?side2 ?side3 ?side4 A7.out).mono ?_
        (case side1 => exact cl_ (Kd.C_below HR411_3.out HB.out))
        (case side2 => exact HC411_3.out)
        (case side3 => exact cl_ (Kd.C_below HR412_3.out HB.out))
        (case side4 => exact HC412_3.out)
        rintro e w12 ⟨rfl, hb⟩
        refine ⟨_, rfl, ?_⟩
        have n0_ := Aside0.mk (below_step (bl_ HB.out) hb)
        clear HB
        have HB := n0_
        clear n0_
        (try clear hb)
        (try clear hb2)
        (try clear hk)
        (try clear hi)
        refine hK.out _ _ ⟨(lc_ HB.out hw411_0), (lc_ HB.out hw411_1), (lc_ HB.out hw411_2), (lc_ HB.out hw411_3), (lc_ HB.out hw412_0), (lc_ HB.out hw412_1), (lc_ HB.out hw412_2), (lc_ HB.out hw412_3)⟩ (fun hHeld => ?_)
        clear hK K
        refine norm_ (a' := ?_) ?_ ?_
        rotate_left
        ·show Act.put _ (some 26) _ = _
         simp only [Act.put, List.setIfInBounds_toArray, List.set_cons_zero, List.set_cons_succ, i64_w, i32_w]
         rfl
        refine pure_ (i := 9) (N := some 6) (v := ?_) (a' := ?_) #[true,true,true,true,true,true,true,true,true,true] rfl rfl (any_of HT_.out (by kernel_rfl)) (fun _ _ _ h => h) (Or.inl ⟨by rfl, ?_⟩) ?_ ?_; rotate_left; (intro w'; go_simp; with_reducible rfl); rotate_left; (simp only [Act.put, List.setIfInBounds_toArray, List.set_cons_zero, List.set_cons_succ, i64_w, i32_w]; rfl)
        refine done_ (done_of HT_.out (by kernel_rfl)) ?_
        try go_wp2
        go_ret
        exact ⟨by first | rfl | simp [*], bl_ HB.out⟩
      ·rw [if_neg c6] at H
       exact absurd H (by simp)
     ·rw [if_neg c5] at H
      exact absurd H (by simp)
    ·rw [if_neg c4] at H
     have c4b0 : decide (x5_1 < (l0.length : Int)) = false := decide_eq_false c4
     clear c4
     obtain rfl := Option.some.inj H
     go_wp2
     go_ret
     exact ⟨by first | rfl | simp [*], bl_ HB.out⟩
 ·rw [if_neg c3] at H
  obtain ⟨c3b0, c3b1⟩ := eF_ c3
  have c3b2 : (l0.length == l1.length) = false := by first | simpa using c3 | (simp at c3 ⊢; omega)
  obtain rfl := Option.some.inj H
  go_enter Tryz.func28, Tryz.ntmps28
  go_wp2
  go_ret
  exact ⟨by first | rfl | simp [*], bl_ HB.out⟩
def okM (k : Nat) (a b : S34) : Bool :=
  decide (glacisref05_Same.f k a.f2.f0 a.f2.f1 a.f2.f2 a.f2.f3 b.f2.f0 b.f2.f1 b.f2.f2 b.f2.f3 = some true) && (decide (glacisref06_items.f k a.f3 b.f3 = some true) && (decide (glacisref05_SameParams.f k a.f4 b.f4 = some true) && (decide (a.f0 = b.f0) && decide (a.f1 = b.f1))))
def glacisref06_Same.f (k : Nat) (l0 l1 : List S34) : Option Bool :=
  if l0.length = l1.length ∧ l0.length ≤ 1000000 ∧ ∀ i : Nat, i < l0.length → okM k (rd_T34 l0 i) (rd_T34 l1 i) = true then some true else none
theorem glacisref06_Same.calls (k : Nat) (A0 : Option Addr) (c0 : Nat) (l0 : List S34) (A1 : Option Addr) (c1 : Nat) (l1 : List S34) (r : Bool) (w : World) (hr0 : Kd.C k34 w A0 l0.length l0) (hc0 : l0.length ≤ c0) (hr1 : Kd.C k34 w A1 l1.length l1) (hc1 : l1.length ≤ c1) (h : glacisref06_Same.f k l0 l1 = some r) :
    Calls Tryz.prog 14 #[.slice A0 l0.length c0, .slice A1 l1.length c1] w fun e w' => e = .returned (.bool r) ∧ Below w.heap.size w w' := by
  have hu31 := Tryz.underlying31
  unfold glacisref06_Same.f at h
  have hc : l0.length = l1.length ∧ l0.length ≤ 1000000 ∧ ∀ i : Nat, i < l0.length → okM k (rd_T34 l0 i) (rd_T34 l1 i) = true := Classical.byContradiction fun hn => by rw [if_neg hn] at h; cases h
  rw [if_pos hc] at h
  obtain rfl := Option.some.inj h
  obtain ⟨hlen, hbig, hok⟩ := hc
  have HLEN := Aside0.mk hlen
  have b0 : ((l0.length : Int) != (l1.length : Int)) = false := by simp [hlen]
  have HOK := Aside0.mk hok
  have HR0 := Aside0.mk hr0
  have HR1 := Aside0.mk hr1
  clear h hok hr0 hr1 hlen
  go_enter Tryz.func14, Tryz.ntmps14
  go_wp2
  go_loopw [5, 6, 7, 8] (fun v5 v6 v7 v8 wr => ∃ n : Nat, n ≤ l0.length ∧ v5 = .int .i64 n ∧ Aside0 (Below w.heap.size w wr)) (fun v5 _ _ _ _ => l0.length - (intOf v5).toNat)
  case atStart => exact ⟨0, Nat.zero_le _, rfl, ⟨Below.refl _ _⟩⟩
  case round =>
    obtain ⟨n, hn, rfl, HB⟩ := hrel
    by_cases hlt : n < l0.length
    · have hltd : decide ((n : Int) < (l0.length : Int)) = true := decide_eq_true (by omega)
      obtain ⟨ad, A5, c5, A6, c6, A7, c7, hA, h0, h1, h2, h3, h4, h5, h6, h7, m5, g5, m6, g6, m7, g7⟩ := at_T34 HR0.out (n : Int) (by omega) (by omega)
      obtain ⟨be, B5, d5, B6, d6, B7, d7, hB, i0, i1, i2, i3, i4, i5, i6, i7, o5, e5, o6, e6, o7, e7⟩ := at_T34 HR1.out (n : Int) (by omega) (by have := HLEN.out; omega)
      subst hA hB
      simp only [Int.toNat_natCast] at h0 h1 h2 h3 h4 h5 h6 h7 i0 i1 i2 i3 i4 i5 i6 i7
      have p1 : (0 ≤ (n : Int)) = True := eq_true (by omega)
      have p2 : ((n : Int) < (l0.length : Int)) = True := eq_true (by omega)
      have p3 : ((n : Int) < (l1.length : Int)) = True := eq_true (by have := HLEN.out; omega)
      have hk := HOK.out n hlt
      unfold okM at hk
      simp only [Bool.and_eq_true, decide_eq_true_eq] at hk
      obtain ⟨s1, s2, s3, s4, s5⟩ := hk
      generalize rd_T34 l0 n = p at *
      generalize rd_T34 l1 n = q at *
      have HS4 := Aside0.mk s4
      have HS5 := Aside0.mk s5
      have C1 := Aside0.mk (fun W (hb : Below w.heap.size w W) => glacisref05_Same.calls k p.f2.f0 p.f2.f1 p.f2.f2 A5 c5 p.f2.f3 q.f2.f0 q.f2.f1 q.f2.f2 B5 d5 q.f2.f3 true W (Kd.C_below g5 hb) m5 (Kd.C_below e5 hb) o5 s1)
      have C2 := Aside0.mk (fun W (hb : Below w.heap.size w W) => glacisref06_items.calls k A6 c6 p.f3 B6 d6 q.f3 true W (Kd.C_below g6 hb) m6 (Kd.C_below e6 hb) o6 s2)
      have C3 := Aside0.mk (fun W (hb : Below w.heap.size w W) => glacisref05_SameParams.calls k A7 c7 p.f4 B7 d7 q.f4 true W (Kd.C_below g7 hb) m7 (Kd.C_below e7 hb) o7 s3)
      have K6 := Aside0.mk (fun W' (hb : Below w.heap.size w W') => (⟨pw_cell_below hb h2, pw_cell_below hb h3, pw_cell_below hb h4, pw_cell_below hb h5, pw_cell_below hb i2, pw_cell_below hb i3, pw_cell_below hb i4, pw_cell_below hb i5⟩ : _ ∧ _ ∧ _ ∧ _ ∧ _ ∧ _ ∧ _ ∧ _))
      have K7 := Aside0.mk (fun W' (hb : Below w.heap.size w W') => (⟨pw_cell_below hb h6, pw_cell_below hb i6⟩ : _ ∧ _))
      have K8 := Aside0.mk (fun W' (hb : Below w.heap.size w W') => (⟨pw_cell_below hb h7, pw_cell_below hb i7⟩ : _ ∧ _))
      have K9 := Aside0.mk (fun W' (hb : Below w.heap.size w W') => (⟨pw_cell_below hb h0, pw_cell_below hb h1, pw_cell_below hb i0, pw_cell_below hb i1⟩ : _ ∧ _ ∧ _ ∧ _))
      clear h0 h1 h2 h3 h4 h5 h6 h7 i0 i1 i2 i3 i4 i5 i6 i7 g5 g6 g7 e5 e6 e7 m5 m6 m7 o5 o6 o7 s1 s2 s3 s4 s5
      go_upto_region 6 with (fail)
      have G := Aside0.mk (fun W' (h : Below wr.heap.size wr W') => K6.out W' (below_then HB.out HB.out.size h))
      go_region_held3 (fun w' => w'.cell? ⟨(ad.add (n * 8)).block, (ad.add (n * 8)).off + 2, none⟩ = some (.int .i64 p.f2.f0) ∧ w'.cell? ⟨(ad.add (n * 8)).block, (ad.add (n * 8)).off + 3, none⟩ = some (.int .i64 p.f2.f1) ∧ w'.cell? ⟨(ad.add (n * 8)).block, (ad.add (n * 8)).off + 4, none⟩ = some (.string p.f2.f2) ∧ w'.cell? ⟨(ad.add (n * 8)).block, (ad.add (n * 8)).off + 5, none⟩ = some (.slice A5 p.f2.f3.length c5) ∧ w'.cell? ⟨(be.add (n * 8)).block, (be.add (n * 8)).off + 2, none⟩ = some (.int .i64 q.f2.f0) ∧ w'.cell? ⟨(be.add (n * 8)).block, (be.add (n * 8)).off + 3, none⟩ = some (.int .i64 q.f2.f1) ∧ w'.cell? ⟨(be.add (n * 8)).block, (be.add (n * 8)).off + 4, none⟩ = some (.string q.f2.f2) ∧ w'.cell? ⟨(be.add (n * 8)).block, (be.add (n * 8)).off + 5, none⟩ = some (.slice B5 q.f2.f3.length d5)) (first | exact G.out _ (below_drew (Below.refl _ _)) | exact G.out _ (Below.refl _ _) | exact G.out _ (by assumption)) (first | (go_at_call 27; ((with_reducible refine (C1.out _ ?_).mono ?_); (first | exact HB.out | exact below_drew1 HB.out); rintro e w3 ⟨rfl, hb3⟩; have hb4 := below_then (below_drew (Below.refl wr.heap.size wr)) (Nat.le_refl _) hb3; clear hb3)))
      have HB3 := Aside0.mk (below_then HB.out HB.out.size hb4)
      clear hb4 G HB K6 C1
      go_upto_region 7 with (fail)
      have G := Aside0.mk (fun W' (h : Below w3.heap.size w3 W') => K7.out W' (below_then HB3.out HB3.out.size h))
      go_region_held3 (fun w' => w'.cell? ⟨(ad.add (n * 8)).block, (ad.add (n * 8)).off + 6, none⟩ = some (.slice A6 p.f3.length c6) ∧ w'.cell? ⟨(be.add (n * 8)).block, (be.add (n * 8)).off + 6, none⟩ = some (.slice B6 q.f3.length d6)) (first | exact G.out _ (below_drew (Below.refl _ _)) | exact G.out _ (Below.refl _ _) | exact G.out _ (by assumption)) (first | (go_at_call 28; ((with_reducible refine (C2.out _ ?_).mono ?_); (first | exact HB3.out | exact below_drew1 HB3.out); rintro e w4 ⟨rfl, hb3⟩; have hb4 := below_then (below_drew (Below.refl w3.heap.size w3)) (Nat.le_refl _) hb3; clear hb3)))
      have HB4 := Aside0.mk (below_then HB3.out HB3.out.size hb4)
      clear hb4 G HB3 K7 C2
      go_upto_region 8 with (fail)
      have G := Aside0.mk (fun W' (h : Below w4.heap.size w4 W') => K8.out W' (below_then HB4.out HB4.out.size h))
      go_region_held3 (fun w' => w'.cell? ⟨(ad.add (n * 8)).block, (ad.add (n * 8)).off + 7, none⟩ = some (.slice A7 p.f4.length c7) ∧ w'.cell? ⟨(be.add (n * 8)).block, (be.add (n * 8)).off + 7, none⟩ = some (.slice B7 q.f4.length d7)) (first | exact G.out _ (below_drew (Below.refl _ _)) | exact G.out _ (Below.refl _ _) | exact G.out _ (by assumption)) (first | (go_at_call 29; ((with_reducible refine (C3.out _ ?_).mono ?_); (first | exact HB4.out | exact below_drew1 HB4.out); rintro e w5 ⟨rfl, hd3⟩; have hb4 : Below w4.heap.size w4 w5 := (by obtain ⟨q_, rfl⟩ := hd3; exact pw_below_drewN (below_drew (Below.refl _ _)) q_); clear hd3)))
      have HB5 := Aside0.mk (below_then HB4.out HB4.out.size hb4)
      clear hb4 G HB4 K8 C3
      go_upto_region 9 with (fail)
      obtain ⟨h0, h1, i0, i1⟩ := K9.out _ HB5.out
      rw [← HS4.out] at i0
      rw [← HS5.out] at i1
      have z4 : (p.f0.toList != p.f0.toList) = false := by simp
      have z5 : (p.f1 != p.f1) = false := by simp
      go_region
      have HB6 := Aside0.mk (below_drew1 HB5.out)
      go_wp2
      exact ⟨⟨n + 1, by omega, by go_num, HB6⟩, by simp [intOf]; omega⟩
    · obtain rfl : n = l0.length := by omega
      have hltd : decide ((l0.length : Int) < (l0.length : Int)) = false := decide_eq_false (by omega)
      go_wp2
      go_ret
      exact ⟨rfl, HB.out⟩
def glacislaw06_SfieldReads.f (k : Nat) (a0 : ByteArray) : Option (Bool) := (glacislaw06_awake.f k).bind fun t414 => (if (a0.size : Int) > 5000 then (some t414) else ((sfield_List.f k a0).bind fun bt415 => ((glacisref06_List.f k a0).bind fun bt419 => ((sfield_Dict.f k a0).bind fun bt423 => ((glacisref06_Dict.f k a0).bind fun bt427 => ((glacisref06_Same.f k bt415.1 bt419.1).bind fun t431 => ((glacisref06_Same.f k bt423.1 bt427.1).bind fun t432 => (if t414 = true then (if t431 = true then (if bt415.2 = bt419.2 then (if t432 = true then (some (bt423.2 == bt427.2)) else (none)) else (none)) else (none)) else (none)))))))))
theorem glacislaw06_SfieldReads.calls (k : Nat) (a0 : ByteArray) (r : Bool) (w : World) (hT_ : Aside0 (TabW w)) (h : glacislaw06_SfieldReads.f k a0 = some r) :
  Calls Tryz.prog 3 #[.string a0] w fun e w' => e = .returned (.bool r) ∧ Below w.heap.size w w' := by
 have HB := Aside0.mk (Below.refl w.heap.size w)
 have H : ((glacislaw06_awake.f k).bind fun t414 => (if (a0.size : Int) > 5000 then (some t414) else ((sfield_List.f k a0).bind fun bt415 => ((glacisref06_List.f k a0).bind fun bt419 => ((sfield_Dict.f k a0).bind fun bt423 => ((glacisref06_Dict.f k a0).bind fun bt427 => ((glacisref06_Same.f k bt415.1 bt419.1).bind fun t431 => ((glacisref06_Same.f k bt423.1 bt427.1).bind fun t432 => (if t414 = true then (if t431 = true then (if bt415.2 = bt419.2 then (if t432 = true then (some (bt423.2 == bt427.2)) else (none)) else (none)) else (none)) else (none)))))))))) = some r := h
 clear h
 replace H := Option.bind_eq_some_iff.mp H
 obtain ⟨t414, A20, H⟩ := H
 (try dsimp only at H)
 have A2 := Aside0.mk A20
 clear A20
 by_cases c3 : (a0.size : Int) > 5000
 ·rw [if_pos c3] at H
  have c3b0 : decide (5000 < (a0.size : Int)) = true := decide_eq_true c3
  have c3b1 : decide (5000 < a0.size) = true := decide_eq_true (by omega)
  clear c3
  obtain rfl := Option.some.inj H
  go_enter Tryz.func3, Tryz.ntmps3
  go_wp2_with (first | ((with_reducible refine gate_callee (f := 9) rfl ?_); refine goesL_ (some 14) rfl rfl Tryz.func9 (by kernel_rfl) rfl #[] rfl (by simp only [List.map_toArray, List.map_cons, List.map_nil] <;> rfl) ?_; (with_reducible refine (glacislaw06_awake.calls k  t414 _ (tab_ hT_ ?hTab) A2.out).mono ?_); (case hTab => exact (bl_ HB.out)); rintro e w4 ⟨rfl, hb⟩; refine ⟨_, rfl, ?_⟩; replace HB := Aside0.mk (below_step (bl_ HB.out) hb); (try clear hb); (try clear hb2); (try clear hk); (try clear hi)))
  go_ret
  exact ⟨by first | rfl | simp [*], bl_ HB.out⟩
 ·rw [if_neg c3] at H
  have c3b0 : decide (5000 < (a0.size : Int)) = false := decide_eq_false c3
  have c3b1 : decide (5000 < a0.size) = false := decide_eq_false (by omega)
  clear c3
  replace H := Option.bind_eq_some_iff.mp H
  obtain ⟨⟨t415, t416⟩, A50, H⟩ := H
  (try dsimp only at H)
  have A5 := Aside0.mk A50
  clear A50
  replace H := Option.bind_eq_some_iff.mp H
  obtain ⟨⟨t419, t420⟩, A60, H⟩ := H
  (try dsimp only at H)
  have A6 := Aside0.mk A60
  clear A60
  replace H := Option.bind_eq_some_iff.mp H
  obtain ⟨⟨t423, t424⟩, A70, H⟩ := H
  (try dsimp only at H)
  have A7 := Aside0.mk A70
  clear A70
  replace H := Option.bind_eq_some_iff.mp H
  obtain ⟨⟨t427, t428⟩, A80, H⟩ := H
  (try dsimp only at H)
  have A8 := Aside0.mk A80
  clear A80
  replace H := Option.bind_eq_some_iff.mp H
  obtain ⟨t431, A90, H⟩ := H
  (try dsimp only at H)
  have A9 := Aside0.mk A90
  clear A90
  replace H := Option.bind_eq_some_iff.mp H
  obtain ⟨t432, A100, H⟩ := H
  (try dsimp only at H)
  have A10 := Aside0.mk A100
  clear A100
  by_cases c11 : t414 = true
  ·subst c11
   rw [if_pos rfl] at H
   by_cases c12 : t431 = true
   ·subst c12
    rw [if_pos rfl] at H
    by_cases c13 : t416 = t420
    ·rw [if_pos c13] at H
     obtain ⟨c13b0, c13b1⟩ := eT_ c13
     clear c13
     by_cases c14 : t432 = true
     ·subst c14
      rw [if_pos rfl] at H
      obtain rfl := Option.some.inj H
      go_enter Tryz.func3, Tryz.ntmps3
      go_wp2_with (first | ((with_reducible refine gate_callee (f := 9) rfl ?_); refine goesL_ (some 14) rfl rfl Tryz.func9 (by kernel_rfl) rfl #[] rfl (by simp only [List.map_toArray, List.map_cons, List.map_nil] <;> rfl) ?_; (with_reducible refine (glacislaw06_awake.calls k  true _ (tab_ hT_ ?hTab) A2.out).mono ?_); (case hTab => exact (bl_ HB.out)); rintro e w15 ⟨rfl, hb⟩; refine ⟨_, rfl, ?_⟩; replace HB := Aside0.mk (below_step (bl_ HB.out) hb); (try clear hb); (try clear hb2); (try clear hk); (try clear hi)) | ((with_reducible refine gate_callee (f := 10) rfl ?_); refine goesL_ (some 21) rfl rfl Tryz.func10 (by kernel_rfl) rfl #[.string a0] rfl (by simp only [List.map_toArray, List.map_cons, List.map_nil] <;> rfl) ?_; (with_reducible refine (sfield_List.calls k a0 t415 t416 _ A5.out).mono ?_); rintro e w16 ⟨v417, rfl, ho0, hb⟩; refine ⟨_, rfl, ?_⟩; have n0_ := Aside0.mk (Kd.R_lower ho0 (below_size (bl_ HB.out))); have n1_ := Aside0.mk (below_step (bl_ HB.out) hb); clear HB; have HO418 := n0_; have HB := n1_; clear n0_ n1_; (try clear hb); (try clear hb2); (try clear hk); (try clear hi); (try clear ho0)) | ((with_reducible refine gate_callee (f := 11) rfl ?_); refine goesL_ (some 26) rfl rfl Tryz.func11 (by kernel_rfl) rfl #[.string a0] rfl (by simp only [List.map_toArray, List.map_cons, List.map_nil] <;> rfl) ?_; (with_reducible refine (glacisref06_List.calls k a0 t419 t420 _ A6.out).mono ?_); rintro e w17 ⟨v421, rfl, ho0, hb⟩; refine ⟨_, rfl, ?_⟩; have n0_ := Aside0.mk (Kd.R_elder' (rl_ HO418.out) (Kd.R_base ho0) hb); have n1_ := Aside0.mk (Kd.R_lower (Kd.R_new' ho0 (Kd.R_lt (rl_ HO418.out))) (below_size (bl_ HB.out))); have n2_ := Aside0.mk (below_step (bl_ HB.out) hb); clear HO418; clear HB; have HO418 := n0_; have HO422 := n1_; have HB := n2_; clear n0_ n1_ n2_; (try clear hb); (try clear hb2); (try clear hk); (try clear hi); (try clear ho0)) | ((with_reducible refine gate_callee (f := 12) rfl ?_); refine goesL_ (some 31) rfl rfl Tryz.func12 (by kernel_rfl) rfl #[.string a0] rfl (by simp only [List.map_toArray, List.map_cons, List.map_nil] <;> rfl) ?_; (with_reducible refine (sfield_Dict.calls k a0 t423 t424 _ A7.out).mono ?_); rintro e w18 ⟨v425, rfl, ho0, hb⟩; refine ⟨_, rfl, ?_⟩; have n0_ := Aside0.mk (Kd.R_elder' (rl_ HO418.out) (Kd.R_base ho0) hb); have n1_ := Aside0.mk (Kd.R_elder' (rl_ HO422.out) (Kd.R_base ho0) hb); have n2_ := Aside0.mk (Kd.R_lower (Kd.R_new' (Kd.R_new' ho0 (Kd.R_lt (rl_ HO418.out))) (Kd.R_lt (rl_ HO422.out))) (below_size (bl_ HB.out))); have n3_ := Aside0.mk (below_step (bl_ HB.out) hb); clear HO418; clear HO422; clear HB; have HO418 := n0_; have HO422 := n1_; have HO426 := n2_; have HB := n3_; clear n0_ n1_ n2_ n3_; (try clear hb); (try clear hb2); (try clear hk); (try clear hi); (try clear ho0)) | ((with_reducible refine gate_callee (f := 13) rfl ?_); refine goesL_ (some 36) rfl rfl Tryz.func13 (by kernel_rfl) rfl #[.string a0] rfl (by simp only [List.map_toArray, List.map_cons, List.map_nil] <;> rfl) ?_; (with_reducible refine (glacisref06_Dict.calls k a0 t427 t428 _ A8.out).mono ?_); rintro e w19 ⟨v429, rfl, ho0, hb⟩; refine ⟨_, rfl, ?_⟩; have n0_ := Aside0.mk (Kd.R_elder' (rl_ HO418.out) (Kd.R_base ho0) hb); have n1_ := Aside0.mk (Kd.R_elder' (rl_ HO422.out) (Kd.R_base ho0) hb); have n2_ := Aside0.mk (Kd.R_elder' (rl_ HO426.out) (Kd.R_base ho0) hb); have n3_ := Aside0.mk (Kd.R_lower (Kd.R_new' (Kd.R_new' (Kd.R_new' ho0 (Kd.R_lt (rl_ HO418.out))) (Kd.R_lt (rl_ HO422.out))) (Kd.R_lt (rl_ HO426.out))) (below_size (bl_ HB.out))); have n4_ := Aside0.mk (below_step (bl_ HB.out) hb); clear HO418; clear HO422; clear HO426; clear HB; have HO418 := n0_; have HO422 := n1_; have HO426 := n2_; have HO430 := n3_; have HB := n4_; clear n0_ n1_ n2_ n3_ n4_; (try clear hb); (try clear hb2); (try clear hk); (try clear hi); (try clear ho0); obtain ⟨Ao20, co20, eo20⟩ := Kd.R_slice HO418.out; subst eo20; obtain ⟨Ao21, co21, eo21⟩ := Kd.R_slice HO422.out; subst eo21) | ((with_reducible refine gate_callee (f := 14) rfl ?_); refine goesL_ (some 41) rfl rfl Tryz.func14 (by kernel_rfl) rfl #[.slice Ao20 t415.length co20, .slice Ao21 t419.length co21] rfl (by simp only [List.map_toArray, List.map_cons, List.map_nil] <;> rfl) ?_; (with_reducible refine (glacisref06_Same.calls k _ _ t415 _ _ t419 true _ ?side1 ?side2 ?side3 ?side4 A9.out).mono ?_); (case side1 => exact cl_ (Kd.R_reads' HO418.out).2.2); (case side2 => exact (Kd.R_reads' HO418.out).2.1); (case side3 => exact cl_ (Kd.R_reads' HO422.out).2.2); (case side4 => exact (Kd.R_reads' HO422.out).2.1); rintro e w22 ⟨rfl, hb⟩; refine ⟨_, rfl, ?_⟩; have n0_ := Aside0.mk (Kd.R_below (rl_ HO418.out) hb); have n1_ := Aside0.mk (Kd.R_below (rl_ HO422.out) hb); have n2_ := Aside0.mk (Kd.R_below (rl_ HO426.out) hb); have n3_ := Aside0.mk (Kd.R_below (rl_ HO430.out) hb); have n4_ := Aside0.mk (below_step (bl_ HB.out) hb); clear HO418; clear HO422; clear HO426; clear HO430; clear HB; have HO418 := n0_; have HO422 := n1_; have HO426 := n2_; have HO430 := n3_; have HB := n4_; clear n0_ n1_ n2_ n3_ n4_; (try clear hb); (try clear hb2); (try clear hk); (try clear hi); obtain ⟨Ao23, co23, eo23⟩ := Kd.R_slice HO426.out; subst eo23; obtain ⟨Ao24, co24, eo24⟩ := Kd.R_slice HO430.out; subst eo24) | ((with_reducible refine gate_callee (f := 14) rfl ?_); refine goesL_ (some 44) rfl rfl Tryz.func14 (by kernel_rfl) rfl #[.slice Ao23 t423.length co23, .slice Ao24 t427.length co24] rfl (by simp only [List.map_toArray, List.map_cons, List.map_nil] <;> rfl) ?_; (with_reducible refine (glacisref06_Same.calls k _ _ t423 _ _ t427 true _ ?side1 ?side2 ?side3 ?side4 A10.out).mono ?_); (case side1 => exact cl_ (Kd.R_reads' HO426.out).2.2); (case side2 => exact (Kd.R_reads' HO426.out).2.1); (case side3 => exact cl_ (Kd.R_reads' HO430.out).2.2); (case side4 => exact (Kd.R_reads' HO430.out).2.1); rintro e w25 ⟨rfl, hb⟩; refine ⟨_, rfl, ?_⟩; have n0_ := Aside0.mk (Kd.R_below (rl_ HO418.out) hb); have n1_ := Aside0.mk (Kd.R_below (rl_ HO422.out) hb); have n2_ := Aside0.mk (Kd.R_below (rl_ HO426.out) hb); have n3_ := Aside0.mk (Kd.R_below (rl_ HO430.out) hb); have n4_ := Aside0.mk (below_step (bl_ HB.out) hb); clear HO418; clear HO422; clear HO426; clear HO430; clear HB; have HO418 := n0_; have HO422 := n1_; have HO426 := n2_; have HO430 := n3_; have HB := n4_; clear n0_ n1_ n2_ n3_ n4_; (try clear hb); (try clear hb2); (try clear hk); (try clear hi)))
      go_ret
      exact ⟨by first | rfl | simp [*], bl_ HB.out⟩
     ·exact absurd H (by rw [if_neg c14]; simp)
    ·exact absurd H (by rw [if_neg c13]; simp)
   ·exact absurd H (by rw [if_neg c12]; simp)
  ·exact absurd H (by rw [if_neg c11]; simp)
end Go.Proofs.YtjdbiicjfpgjkaaGreatDoor.Q
/- Chapter 5: the reader over lists of bytes: what text tells what value, and how such a text is read. -/
namespace Go.Proofs.YtjdbiicjfpgjkaaGreatDoor.Pl
open Go.RowKit Go.Proofs.YtjdbiicjfpgjkaaGreatDoor.Q Go.Proofs.YtjdbiicjfpgjkaaGreatDoor.Sf Go.Proofs.YtjdbiicjfpgjkaaGreatDoorW.PrintWords Go.Proofs.YtjdbiicjfpgjkaaGreatDoorW.PrintLast
set_option linter.unusedVariables false
set_option linter.unusedSimpArgs false
def L (s : ByteArray) : List UInt8 := s.data.toList
def B (l : List UInt8) : ByteArray := ⟨l.toArray⟩
theorem L_B (l : List UInt8) : L (B l) = l := by simp [L, B]
theorem B_L (s : ByteArray) : B (L s) = s := by apply ByteArray.ext; simp [L, B]
theorem L_inj {a b : ByteArray} (h : L a = L b) : a = b := by rw [← B_L a, h, B_L]
theorem L_app (a b : ByteArray) : L (a ++ b) = L a ++ L b := by unfold L; simp
theorem size_L (s : ByteArray) : s.size = (L s).length := Lib.size_eq s
theorem L_tl (s : ByteArray) : L (tl s) = (L s).tail := by
  unfold L tl
  rw [Lib.extract_data, Lib.size_eq]
  rw [List.take_of_length_le (by simp), List.drop_one]
theorem bt0 {s : ByteArray} {c : UInt8} {r : List UInt8} (h : L s = c :: r) : bt s 0 = (c.toNat : Int) := by
  have hl : 0 < s.data.toList.length := by show 0 < (L s).length; rw [h]; simp
  have := bt_list s 0 hl
  have e : s.data.toList[0] = c := by
    have h2 : s.data.toList = c :: r := h
    simp [h2]
  rw [e] at this
  exact this
theorem size_pos {s : ByteArray} {c : UInt8} {r : List UInt8} (h : L s = c :: r) : 0 < s.size := by rw [size_L, h]; simp
theorem size_nil {s : ByteArray} (h : L s = []) : ¬ 0 < s.size := by rw [size_L, h]; simp
theorem atF_cons {s : ByteArray} {c : UInt8} {r : List UInt8} (h : L s = c :: r) (n : Int) : atF s n = decide ((c.toNat : Int) = n) := by
  unfold atF; rw [bt0 h]; simp [size_pos h]
theorem atF_nil {s : ByteArray} (h : L s = []) (n : Int) : atF s n = false := by
  unfold atF; simp [size_nil h]
theorem atF_ex {s : ByteArray} {n : Int} (h : atF s n = true) : ∃ c r, L s = c :: r ∧ (c.toNat : Int) = n := by
  cases e : L s with
  | nil => rw [atF_nil e] at h; cases h
  | cons c r => rw [atF_cons e] at h; exact ⟨c, r, rfl, of_decide_eq_true h⟩
theorem L_tak (p : Int → Bool) (s : ByteArray) : L (takB p s) = (L s).takeWhile (fun c => p c.toNat) := tak_data p s
theorem L_drp (p : Int → Bool) (s : ByteArray) : L (drpB p s) = (L s).dropWhile (fun c => p c.toNat) := by
  have h1 : L (drpB p s) = (L s).drop (spanB p s) := by
    unfold L drpB
    rw [Lib.extract_data, Lib.size_eq]
    rw [List.take_of_length_le (by simp)]
  rw [h1]
  have h2 : spanB p s = ((L s).takeWhile (fun c => p c.toNat)).length := rfl
  rw [h2]
  generalize (fun c : UInt8 => p c.toNat) = q
  induction L s with
  | nil => rfl
  | cons x l ih => rw [List.takeWhile_cons, List.dropWhile_cons]; split <;> simp [*]
theorem span_split {α : Type} (q : α → Bool) (l : List α) : l.takeWhile q ++ l.dropWhile q = l := List.takeWhile_append_dropWhile
theorem allU (P : UInt8 → Bool) (h : (List.range 256).all (fun n => P (UInt8.ofNat n)) = true) (c : UInt8) : P c = true := by
  have hc : c.toNat < 256 := c.toNat_lt
  have := List.all_eq_true.1 h c.toNat (List.mem_range.2 hc)
  simpa using this
def numL (l : List UInt8) : Nat := l.foldl (fun a c => a * 10 + (c.toNat - 48)) 0
theorem numV_L (s : ByteArray) : numV s = numL (L s) := rfl
def zerL (n : Nat) : List UInt8 := ([48, 48, 48] : List UInt8).drop n
theorem zer_L (n : Nat) : L (zer n) = zerL n := by
  unfold L zer
  rw [Lib.extract_data]
  show List.take (3 - n) (List.drop n [48, 48, 48]) = zerL n
  rw [List.take_of_length_le (by simp)]; rfl
def dgU (c : UInt8) : Bool := dgP c.toNat
def toU (c : UInt8) : Bool := tokP c.toNat
def baU (c : UInt8) : Bool := baP c.toNat
def keU (c : UInt8) : Bool := keP c.toNat
inductive QT : List UInt8 → List UInt8 → Prop
  | stop : QT [34] []
  | plain (c : UInt8) (q t : List UInt8) (h1 : 32 ≤ c.toNat) (h2 : c.toNat ≤ 126) (h3 : c.toNat ≠ 34) (h4 : c.toNat ≠ 92) (h : QT q t) : QT (c :: q) (c :: t)
  | esc (c : UInt8) (q t : List UInt8) (h1 : c.toNat = 34 ∨ c.toNat = 92) (h : QT q t) : QT (92 :: c :: q) (c :: t)
def sgV (sg : List UInt8) : Int := if sg = [] then 1 else -1
inductive VT : List UInt8 → Int → Int → List UInt8 → Prop
  | int (sg w : List UInt8) (h0 : sg = [] ∨ sg = [45]) (h1 : w ≠ []) (h2 : ∀ c ∈ w, dgU c = true) (h3 : w.length ≤ 15) : VT (sg ++ w) 1 (sgV sg * (numL w : Int)) []
  | dec (sg w p : List UInt8) (h0 : sg = [] ∨ sg = [45]) (h1 : w ≠ []) (h2 : ∀ c ∈ w, dgU c = true) (h3 : w.length ≤ 12) (h4 : p ≠ []) (h5 : ∀ c ∈ p, dgU c = true) (h6 : p.length ≤ 3) : VT (sg ++ (w ++ 46 :: p)) 2 (sgV sg * (numL (w ++ (p ++ zerL p.length)) : Int)) []
  | tok (c : UInt8) (w : List UInt8) (h0 : leP c.toNat = true ∨ (c.toNat : Int) = 42) (h1 : ∀ x ∈ c :: w, toU x = true) : VT (c :: w) 4 0 (c :: w)
  | quo (q t : List UInt8) (h : QT q t) : VT (34 :: q) 3 0 t
  | byt (w : List UInt8) (h : ∀ c ∈ w, baU c = true) : VT (58 :: (w ++ [58])) 5 0 w
  | one : VT [63, 49] 6 1 []
  | zero : VT [63, 48] 6 0 []
def KT (k : List UInt8) : Prop := ∃ c w, k = c :: w ∧ (smP c.toNat = true ∨ (c.toNat : Int) = 42) ∧ ∀ x ∈ k, keU x = true
theorem dg_ne {c : UInt8} (h : dgU c = true) : 48 ≤ c.toNat ∧ c.toNat ≤ 57 := by
  unfold dgU dgP at h; have := of_decide_eq_true h; omega
theorem wiQ (c : UInt8) : wiP c.toNat ⟨#[34, 92]⟩ = decide (c.toNat = 34 ∨ c.toNat = 92) := by
  have := allU (fun c : UInt8 => wiP c.toNat ⟨#[34, 92]⟩ == decide (c.toNat = 34 ∨ c.toNat = 92)) (by decide +kernel) c
  exact beq_iff_eq.1 this
theorem num_app (l : List Int) (c : UInt8) (t : List UInt8) (h : L (strOfNums l) = t) : L (strOfNums (l ++ [(c.toNat : Int)])) = t ++ [c] := by
  subst h
  unfold L strOfNums
  simp
end Go.Proofs.YtjdbiicjfpgjkaaGreatDoor.Pl
/- Chapter 5: what the reader has read is such a text; parameters; whole items. -/
namespace Go.Proofs.YtjdbiicjfpgjkaaGreatDoor.Pl
open Go.RowKit Go.Proofs.YtjdbiicjfpgjkaaGreatDoor.Q Go.Proofs.YtjdbiicjfpgjkaaGreatDoor.Sf Go.Proofs.YtjdbiicjfpgjkaaGreatDoorW.PrintWords Go.Proofs.YtjdbiicjfpgjkaaGreatDoorW.PrintLast
set_option linter.unusedVariables false
set_option linter.unusedSimpArgs false
theorem u_eq {c d : UInt8} (h : (c.toNat : Int) = (d.toNat : Int)) : c = d := UInt8.toNat_inj.1 (by omega)
theorem cons_of (s : ByteArray) (h : 0 < s.size) : ∃ c r, L s = c :: r := by
  cases e : L s with
  | nil => exact absurd h (size_nil e)
  | cons c r => exact ⟨c, r, rfl⟩
theorem qt_inv : ∀ (d : Nat) (s : ByteArray) (xs : List Int) (o t : ByteArray), qF d s xs = some (o, t) → ∃ q m, L s = q ++ L t ∧ QT q m ∧ L o = L (strOfNums xs) ++ m
  | 0, s, xs, o, t, h => by rw [qF] at h; cases h
  | d + 1, s, xs, o, t, h => by
    rw [qF] at h
    by_cases h0 : 0 < s.size
    · rw [if_pos h0] at h
      obtain ⟨c, r, e⟩ := cons_of s h0
      have et : L (tl s) = r := by rw [L_tl, e]; rfl
      rw [bt0 e] at h
      by_cases c34 : (c.toNat : Int) = 34
      · rw [if_pos c34] at h
        obtain ⟨rfl, rfl⟩ := Prod.mk.inj (Option.some.inj h)
        have : c = 34 := u_eq c34
        subst this
        exact ⟨[34], [], by rw [et, e]; rfl, QT.stop, by simp⟩
      · rw [if_neg c34] at h
        by_cases bad : (c.toNat : Int) < 32 ∨ 126 < (c.toNat : Int) ∨ ((c.toNat : Int) = 92 ∧ ¬ (0 < (tl s).size ∧ wiP (bt (tl s) 0) ⟨#[34, 92]⟩ = true))
        · rw [if_pos bad] at h; cases h
        · rw [if_neg bad] at h
          by_cases c92 : (c.toNat : Int) = 92
          · rw [if_pos c92] at h
            have ok : 0 < (tl s).size ∧ wiP (bt (tl s) 0) ⟨#[34, 92]⟩ = true := Classical.byContradiction fun k => bad (Or.inr (Or.inr ⟨c92, k⟩))
            obtain ⟨c2, r2, e2⟩ := cons_of (tl s) ok.1
            have ok2 := ok.2
            rw [bt0 e2, wiQ] at ok2
            rw [bt0 e2] at h
            obtain ⟨q, m, a1, a2, a3⟩ := qt_inv d _ _ _ _ h
            have e3 : L (tl (tl s)) = r2 := by rw [L_tl, e2]; rfl
            have : c = 92 := u_eq c92
            subst this
            refine ⟨92 :: c2 :: q, c2 :: m, ?_, QT.esc c2 q m (of_decide_eq_true ok2) a2, ?_⟩
            · rw [e3] at a1; rw [e, ← et, e2, a1]; rfl
            · rw [a3, num_app xs c2 _ rfl]; simp
          · rw [if_neg c92] at h
            obtain ⟨q, m, a1, a2, a3⟩ := qt_inv d _ _ _ _ h
            refine ⟨c :: q, c :: m, ?_, QT.plain c q m (by omega) (by omega) (by omega) (by omega) a2, ?_⟩
            · rw [et] at a1; rw [e, a1]; rfl
            · rw [a3, num_app xs c _ rfl]; simp
    · rw [if_neg h0] at h; cases h
theorem quoted_inv {s t : ByteArray} {v : Int × Int × ByteArray} (h : rdQuoted s = some (v, t)) : ∃ q, L s = q ++ L t ∧ QT q (L v.2.2) ∧ v.1 = 3 ∧ v.2.1 = 0 := by
  unfold rdQuoted at h
  obtain ⟨⟨o, t'⟩, hq, hm⟩ := Option.map_eq_some_iff.1 h
  unfold mkQ at hm
  obtain ⟨rfl, rfl⟩ := Prod.mk.inj hm
  obtain ⟨q, m, a1, a2, a3⟩ := qt_inv _ _ _ _ _ hq
  refine ⟨q, a1, ?_, rfl, rfl⟩
  have : L (strOfNums []) = [] := rfl
  rw [this] at a3
  simpa [a3] using a2
theorem number_inv {s t : ByteArray} {v : Int × Int × ByteArray} (h : rdNumber s = some (v, t)) : ∃ u, L s = u ++ L t ∧ VT u v.1 v.2.1 (L v.2.2) := by
  obtain ⟨sg, h0, hs, hg⟩ : ∃ sg : List UInt8, (sg = [] ∨ sg = [45]) ∧ L s = sg ++ L (atR s 45) ∧ (if atF s 45 = true then (-1 : Int) else 1) = sgV sg := by
    unfold atR
    cases e : atF s 45 with
    | false => exact ⟨[], Or.inl rfl, rfl, rfl⟩
    | true =>
      obtain ⟨c, r, e1, e2⟩ := atF_ex e
      have : c = 45 := u_eq e2
      subst this
      exact ⟨[45], Or.inr rfl, by rw [if_pos rfl, L_tl, e1]; rfl, rfl⟩
  unfold rdNumber at h
  simp only [] at h
  rw [hg] at h
  have hw := L_tak dgP (atR s 45)
  have hd := L_drp dgP (atR s 45)
  have hsp := span_split (fun c : UInt8 => dgP c.toNat) (L (atR s 45))
  have hall := tak_all dgP (atR s 45)
  rw [← hw, ← hd] at hsp
  generalize takB dgP (atR s 45) = w at *
  generalize drpB dgP (atR s 45) = s2 at *
  by_cases hw0 : w.size = 0
  · rw [if_pos hw0] at h; cases h
  · rw [if_neg hw0] at h
    have hwn : L w ≠ [] := by rw [size_L] at hw0; intro e; rw [e] at hw0; exact hw0 rfl
    cases e : atF s2 46 with
    | true =>
      rw [e, if_pos rfl] at h
      obtain ⟨c, r, e1, e2⟩ := atF_ex e
      have : c = 46 := u_eq e2
      subst this
      have hw2 := L_tak dgP (tl s2)
      have hd2 := L_drp dgP (tl s2)
      have hsp2 := span_split (fun c : UInt8 => dgP c.toNat) (L (tl s2))
      have hall2 := tak_all dgP (tl s2)
      rw [← hw2, ← hd2] at hsp2
      have et : L (tl s2) = r := by rw [L_tl, e1]; rfl
      generalize takB dgP (tl s2) = p at *
      generalize drpB dgP (tl s2) = s3 at *
      by_cases hb : w.size > 12 ∨ p.size = 0 ∨ p.size > 3
      · rw [if_pos hb] at h; cases h
      · rw [if_neg hb] at h
        obtain ⟨rfl, rfl⟩ := Prod.mk.inj (Option.some.inj h)
        simp only [size_L] at hb
        refine ⟨sg ++ (L w ++ 46 :: L p), ?_, ?_⟩
        · rw [hs, ← hsp, e1, ← et, ← hsp2]; simp
        · have := VT.dec sg (L w) (L p) h0 hwn hall (by omega) (by intro k; rw [k] at hb; exact hb (Or.inr (Or.inl rfl))) hall2 (by omega)
          rw [numV_L, L_app, L_app, zer_L, size_L]
          exact this
    | false =>
      rw [e, if_neg (by decide)] at h
      by_cases hb : w.size > 15
      · rw [if_pos hb] at h; cases h
      · rw [if_neg hb] at h
        obtain ⟨rfl, rfl⟩ := Prod.mk.inj (Option.some.inj h)
        rw [size_L] at hb
        exact ⟨sg ++ L w, by rw [hs, ← hsp]; simp, VT.int sg (L w) h0 hwn hall (by omega)⟩
theorem le_tok (c : UInt8) (h : leP c.toNat = true ∨ (c.toNat : Int) = 42) : toU c = true := by
  have := allU (fun c : UInt8 => !(leP c.toNat || decide ((c.toNat : Int) = 42)) || toU c) (by decide +kernel) c
  simp only [Bool.or_eq_true, Bool.not_eq_true', Bool.or_eq_false_iff, decide_eq_false_iff_not] at this
  rcases this with ⟨a, b⟩ | a
  · rcases h with h | h
    · rw [h] at a; cases a
    · exact absurd h b
  · exact a
theorem value_inv {s t : ByteArray} {v : Int × Int × ByteArray} (h : rdValue s = some (v, t)) : ∃ u, L s = u ++ L t ∧ VT u v.1 v.2.1 (L v.2.2) := by
  unfold rdValue at h
  by_cases h0 : 0 < s.size
  · rw [if_pos h0] at h
    obtain ⟨c, r, e⟩ := cons_of s h0
    have et : L (tl s) = r := by rw [L_tl, e]; rfl
    rw [bt0 e] at h
    by_cases c1 : (c.toNat : Int) = 45 ∨ dgP c.toNat = true
    · rw [if_pos c1] at h; exact number_inv h
    rw [if_neg c1] at h
    by_cases c2 : leP c.toNat = true ∨ (c.toNat : Int) = 42
    · rw [if_pos c2] at h
      obtain ⟨rfl, rfl⟩ := Prod.mk.inj (Option.some.inj h)
      have hw := L_tak tokP s
      have hd := L_drp tokP s
      have hsp := span_split (fun c : UInt8 => tokP c.toNat) (L s)
      rw [← hw, ← hd] at hsp
      refine ⟨L (takB tokP s), hsp.symm, ?_⟩
      have hc : L (takB tokP s) = c :: r.takeWhile (fun c => tokP c.toNat) := by
        rw [hw, e, List.takeWhile_cons, show tokP c.toNat = true from le_tok c c2]; simp
      have hall : ∀ x ∈ L (takB tokP s), toU x = true := tak_all tokP s
      show VT (L (takB tokP s)) 4 0 (L (takB tokP s))
      rw [hc] at hall ⊢
      exact VT.tok c _ c2 hall
    rw [if_neg c2] at h
    by_cases c3 : (c.toNat : Int) = 34
    · rw [if_pos c3] at h
      have : c = 34 := u_eq c3
      subst this
      obtain ⟨q, a1, a2, a3, a4⟩ := quoted_inv h
      refine ⟨34 :: q, by rw [e, ← et, a1]; rfl, ?_⟩
      rw [a3, a4]; exact VT.quo q _ a2
    rw [if_neg c3] at h
    by_cases c4 : (c.toNat : Int) = 58
    · rw [if_pos c4] at h
      have : c = 58 := u_eq c4
      subst this
      unfold rdBytes at h
      have hw := L_tak baP (tl s)
      have hd := L_drp baP (tl s)
      have hsp := span_split (fun c : UInt8 => baP c.toNat) (L (tl s))
      have hall : ∀ x ∈ L (takB baP (tl s)), baU x = true := tak_all baP (tl s)
      rw [← hw, ← hd] at hsp
      cases e5 : atF (drpB baP (tl s)) 58 with
      | false => rw [e5, if_neg (by decide)] at h; cases h
      | true =>
        rw [e5, if_pos rfl] at h
        obtain ⟨rfl, rfl⟩ := Prod.mk.inj (Option.some.inj h)
        obtain ⟨c', r', f1, f2⟩ := atF_ex e5
        have : c' = 58 := u_eq f2
        subst this
        refine ⟨58 :: (L (takB baP (tl s)) ++ [58]), ?_, VT.byt _ hall⟩
        rw [L_tl, f1, e, ← et, ← hsp, f1]; simp
    rw [if_neg c4] at h
    by_cases c5 : (c.toNat : Int) = 63
    · rw [if_pos c5] at h
      have : c = 63 := u_eq c5
      subst this
      unfold rdBool at h
      cases e5 : atF (tl s) 49 with
      | true =>
        rw [e5, if_pos rfl] at h
        obtain ⟨rfl, rfl⟩ := Prod.mk.inj (Option.some.inj h)
        obtain ⟨c', r', f1, f2⟩ := atF_ex e5
        have : c' = 49 := u_eq f2
        subst this
        exact ⟨[63, 49], by rw [L_tl, f1, e, ← et, f1]; rfl, VT.one⟩
      | false =>
        rw [e5, if_neg (by decide)] at h
        cases e6 : atF (tl s) 48 with
        | true =>
          rw [e6, if_pos rfl] at h
          obtain ⟨rfl, rfl⟩ := Prod.mk.inj (Option.some.inj h)
          obtain ⟨c', r', f1, f2⟩ := atF_ex e6
          have : c' = 48 := u_eq f2
          subst this
          exact ⟨[63, 48], by rw [L_tl, f1, e, ← et, f1]; rfl, VT.zero⟩
        | false => rw [e6, if_neg (by decide)] at h; cases h
    · rw [if_neg c5] at h; cases h
  · rw [if_neg h0] at h; cases h
theorem key_first (c : UInt8) (h : smP c.toNat = true ∨ (c.toNat : Int) = 42) : keU c = true ∧ c ≠ 32 := by
  have := allU (fun c : UInt8 => !(smP c.toNat || decide ((c.toNat : Int) = 42)) || (keU c && !decide (c = 32))) (by decide +kernel) c
  simp only [Bool.or_eq_true, Bool.not_eq_true', Bool.or_eq_false_iff, decide_eq_false_iff_not, Bool.and_eq_true] at this
  rcases this with ⟨a, b⟩ | a
  · rcases h with h | h
    · rw [h] at a; cases a
    · exact absurd h b
  · exact a
theorem key_inv {s k t : ByteArray} (h : rdKey s = some (k, t)) : L s = L k ++ L t ∧ KT (L k) := by
  unfold rdKey at h
  by_cases h0 : 0 < s.size ∧ (smP (bt s 0) = true ∨ bt s 0 = 42)
  · rw [if_pos h0] at h
    obtain ⟨rfl, rfl⟩ := Prod.mk.inj (Option.some.inj h)
    obtain ⟨c, r, e⟩ := cons_of s h0.1
    have h1 := h0.2
    rw [bt0 e] at h1
    have hw := L_tak keP s
    have hd := L_drp keP s
    have hsp := span_split (fun c : UInt8 => keP c.toNat) (L s)
    rw [← hw, ← hd] at hsp
    have hall : ∀ x ∈ L (takB keP s), keU x = true := tak_all keP s
    refine ⟨hsp.symm, c, r.takeWhile (fun c => keP c.toNat), ?_, h1, hall⟩
    rw [hw, e, List.takeWhile_cons, show keP c.toNat = true from (key_first c h1).1]; simp
  · rw [if_neg h0] at h; cases h
inductive PT : List UInt8 → List S60 → List S60 → Prop
  | nil (l : List S60) : PT [] l l
  | flag (b k u : List UInt8) (l l1 : List S60) (hb : ∀ c ∈ b, c = 32) (hk : KT k) (h : PT u (withP (B k) l ⟨B k, 6, 1, ⟨#[]⟩⟩) l1) : PT (59 :: (b ++ (k ++ u))) l l1
  | val (b k w u : List UInt8) (n i : Int) (t : List UInt8) (l l1 : List S60) (hb : ∀ c ∈ b, c = 32) (hk : KT k) (hv : VT w n i t) (h : PT u (withP (B k) l ⟨B k, n, i, B t⟩) l1) : PT (59 :: (b ++ (k ++ (61 :: (w ++ u))))) l l1
theorem all_of_take {q : UInt8 → Bool} (l : List UInt8) : ∀ c ∈ l.takeWhile q, q c = true := fun c hc => mem_takeWhile q l c hc
theorem pt_inv : ∀ (d : Nat) (s : ByteArray) (l l1 : List S60) (t : ByteArray), pF d s l = some (l1, t) → ∃ u, L s = u ++ L t ∧ PT u l l1 ∧ atF t 59 = false
  | 0, s, l, l1, t, h => by rw [pF] at h; cases h
  | d + 1, s, l, l1, t, h => by
    rw [pF] at h
    cases e : atF s 59 with
    | false =>
      rw [e, if_neg (by decide)] at h
      obtain ⟨rfl, rfl⟩ := Prod.mk.inj (Option.some.inj h)
      exact ⟨[], rfl, PT.nil _, e⟩
    | true =>
      rw [e, if_pos rfl] at h
      obtain ⟨c, r, e1, e2⟩ := atF_ex e
      have : c = 59 := u_eq e2
      subst this
      have et : L (tl s) = r := by rw [L_tl, e1]; rfl
      obtain ⟨⟨k, t1⟩, hk, h⟩ := Option.bind_eq_some_iff.1 h
      simp only [] at h
      obtain ⟨a1, a2⟩ := key_inv hk
      have hsp := span_split (fun c : UInt8 => spP c.toNat) (L (tl s))
      rw [← L_drp spP (tl s), a1] at hsp
      have hb : ∀ c ∈ (L (tl s)).takeWhile (fun c : UInt8 => spP c.toNat), c = 32 := by
        intro c hc
        have := all_of_take (q := fun c : UInt8 => spP c.toNat) (L (tl s)) c hc
        unfold spP at this
        exact u_eq (beq_iff_eq.1 this)
      generalize List.takeWhile (fun c : UInt8 => spP c.toNat) (L (tl s)) = bl at hsp hb
      cases e3 : atF t1 61 with
      | true =>
        rw [e3, if_pos rfl] at h
        obtain ⟨⟨v, t2⟩, hv, h⟩ := Option.bind_eq_some_iff.1 h
        obtain ⟨c', r', f1, f2⟩ := atF_ex e3
        have : c' = 61 := u_eq f2
        subst this
        have et1 : L (tl t1) = r' := by rw [L_tl, f1]; rfl
        obtain ⟨w, b1, b2⟩ := value_inv hv
        obtain ⟨u, g1, g2, g3⟩ := pt_inv d _ _ _ _ h
        simp only [] at g1 g2
        refine ⟨59 :: (bl ++ (L k ++ (61 :: (w ++ u)))), ?_, PT.val _ _ w u v.1 v.2.1 (L v.2.2) _ _ hb a2 b2 (by rw [B_L, B_L]; exact g2), g3⟩
        rw [e1, ← et, ← hsp, f1, ← et1, b1, g1]
        simp
      | false =>
        rw [e3, if_neg (by decide)] at h
        obtain ⟨u, g1, g2, g3⟩ := pt_inv d _ _ _ _ h
        refine ⟨59 :: (bl ++ (L k ++ u)), ?_, PT.flag _ _ u _ _ hb a2 (by rw [B_L]; exact g2), g3⟩
        rw [e1, ← et, ← hsp, g1]
        simp
theorem vt_first {u : List UInt8} {n i : Int} {t : List UInt8} (h : VT u n i t) : ∃ c u', u = c :: u' ∧ c ≠ 32 := by
  cases h with
  | int sg w h0 h1 h2 h3 =>
    rcases h0 with rfl | rfl
    · obtain ⟨c, w', rfl⟩ := List.exists_cons_of_ne_nil h1
      exact ⟨c, w', rfl, fun e => by have := h2 c (List.mem_cons_self ..); subst e; revert this; decide⟩
    · exact ⟨45, w, rfl, by decide⟩
  | dec sg w p h0 h1 h2 h3 h4 h5 h6 =>
    rcases h0 with rfl | rfl
    · obtain ⟨c, w', rfl⟩ := List.exists_cons_of_ne_nil h1
      exact ⟨c, w' ++ 46 :: p, rfl, fun e => by have := h2 c (List.mem_cons_self ..); subst e; revert this; decide⟩
    · exact ⟨45, w ++ 46 :: p, rfl, by decide⟩
  | tok c w h0 h1 => exact ⟨c, w, rfl, fun e => by have := h1 c (List.mem_cons_self ..); subst e; revert this; decide +kernel⟩
  | quo q t h => exact ⟨34, q, rfl, by decide⟩
  | byt h => exact ⟨58, _, rfl, by decide⟩
  | one => exact ⟨63, _, rfl, by decide⟩
  | zero => exact ⟨63, _, rfl, by decide⟩
def IT (u : List UInt8) (n i : Int) (t : List UInt8) (l : List S60) : Prop := ∃ a b, u = a ++ b ∧ VT a n i t ∧ PT b [] l
theorem next_inv {s : ByteArray} {v : Int × Int × ByteArray} {l : List S60} {t : ByteArray} (h : rdNext s = some (v, l, t)) : ∃ u, L s = u ++ L t ∧ IT u v.1 v.2.1 (L v.2.2) l ∧ atF t 59 = false := by
  unfold rdNext at h
  obtain ⟨⟨v', t1⟩, h1, h⟩ := Option.bind_eq_some_iff.1 h
  obtain ⟨⟨l', t2⟩, h2, h⟩ := Option.bind_eq_some_iff.1 h
  have h := Option.some.inj h
  simp only [Prod.mk.injEq] at h
  obtain ⟨rfl, rfl, rfl⟩ := h
  obtain ⟨a, a1, a2⟩ := value_inv h1
  obtain ⟨b, b1, b2, b3⟩ := pt_inv _ _ _ _ _ h2
  exact ⟨a ++ b, by rw [a1, b1]; simp, ⟨a, b, rfl, a2, b2⟩, b3⟩
theorem trim_len (u : List UInt8) : (Lib.trimB u 32).length ≤ u.length := by
  unfold Lib.trimB Lib.trimLeftB Lib.trimRightB
  have h1 := (List.dropWhile_sublist (fun c : UInt8 => c == 32) (l := (u.reverse.dropWhile (· == 32)).reverse)).length_le
  have h2 := (List.dropWhile_sublist (fun c : UInt8 => c == 32) (l := u.reverse)).length_le
  simp only [List.length_reverse] at h1 h2
  omega
theorem IT.pos {u : List UInt8} {n i : Int} {t : List UInt8} {l : List S60} (h : IT u n i t l) : 0 < u.length := by
  obtain ⟨a, b, rfl, hv, hp⟩ := h
  obtain ⟨c, a', rfl, hc⟩ := vt_first hv
  simp
end Go.Proofs.YtjdbiicjfpgjkaaGreatDoor.Pl
/- Chapter 5: values' text, there and back. -/
namespace Go.Proofs.YtjdbiicjfpgjkaaGreatDoor.Pl
open Go.RowKit Go.Proofs.YtjdbiicjfpgjkaaGreatDoor.Q Go.Proofs.YtjdbiicjfpgjkaaGreatDoor.Sf Go.Proofs.YtjdbiicjfpgjkaaGreatDoorW.PrintWords Go.Proofs.YtjdbiicjfpgjkaaGreatDoorW.PrintLast
set_option linter.unusedVariables false
set_option linter.unusedSimpArgs false
theorem numL_fold : ∀ (b : List UInt8) (acc : Nat), b.foldl (fun a c => a * 10 + (c.toNat - 48)) acc = acc * 10 ^ b.length + numL b
  | [], acc => by simp [numL]
  | c :: b, acc => by
    have h1 := numL_fold b (acc * 10 + (c.toNat - 48))
    have h2 := numL_fold b (0 * 10 + (c.toNat - 48))
    have e : numL (c :: b) = b.foldl (fun a c => a * 10 + (c.toNat - 48)) (0 * 10 + (c.toNat - 48)) := rfl
    rw [List.foldl_cons, h1, e, h2, List.length_cons, Nat.pow_succ]
    simp only [Nat.add_mul, Nat.zero_mul, Nat.zero_add, Nat.mul_assoc, Nat.mul_comm 10 (10 ^ b.length), Nat.add_assoc]
theorem numL_app (a b : List UInt8) : numL (a ++ b) = numL a * 10 ^ b.length + numL b := by
  have : numL (a ++ b) = b.foldl (fun a c => a * 10 + (c.toNat - 48)) (numL a) := by unfold numL; rw [List.foldl_append]
  rw [this, numL_fold]
theorem numL_bound (l : List UInt8) (h : ∀ c ∈ l, dgU c = true) : numL l < 10 ^ l.length := by
  have := num_bound l 0 h
  rw [Nat.zero_add, Nat.one_mul] at this
  exact this
theorem L_toList (s : ByteArray) : s.toList = L s := Lib.toList_data s
theorem zer_len (n : Nat) (h : n ≤ 3) : (zerL n).length = 3 - n := by unfold zerL; simp
theorem take_snoc {α : Type} (l : List α) (k : Nat) (h : k < l.length) : l.take (k + 1) = l.take k ++ [l[k]] := by
  rw [List.take_add_one, List.getElem?_eq_getElem h]; rfl
end Go.Proofs.YtjdbiicjfpgjkaaGreatDoor.Pl
/- Chapter 5: an item is the same as itself; how many parameters a text has. -/
namespace Go.Proofs.YtjdbiicjfpgjkaaGreatDoor.Pl
open Go.RowKit Go.Proofs.YtjdbiicjfpgjkaaGreatDoor.Q Go.Proofs.YtjdbiicjfpgjkaaGreatDoor.Sf Go.Proofs.YtjdbiicjfpgjkaaGreatDoorW.PrintWords Go.Proofs.YtjdbiicjfpgjkaaGreatDoorW.PrintLast
set_option linter.unusedVariables false
set_option linter.unusedSimpArgs false
theorem wrap_next (j : Nat) (h : j ≤ 100000) : wrap64 ((j : Int) + 1) = ((j + 1 : Nat) : Int) := by
  unfold wrap64; omega
theorem same_loop (l : List S60) (hl : l.length ≤ 100000) : ∀ (m j k : Nat), j + m = l.length → m < k → glacisref05_SameParams.l0 k l l (j : Int) = some true
  | 0, j, k, hm, hk => by
    obtain ⟨k, rfl⟩ : ∃ k', k = k' + 1 := ⟨k - 1, by omega⟩
    rw [glacisref05_SameParams.l0, if_neg (by omega)]
  | m + 1, j, k, hm, hk => by
    obtain ⟨k, rfl⟩ : ∃ k', k = k' + 1 := ⟨k - 1, by omega⟩
    rw [glacisref05_SameParams.l0, if_pos (by omega), if_pos (by omega), if_pos (by omega), if_neg (by simp), wrap_next j (by omega)]
    exact same_loop l hl m (j + 1) k (by omega) (by omega)
theorem same_refl (l : List S60) (hl : l.length ≤ 100000) (n i : Int) (t : ByteArray) (k : Nat) (hk : l.length < k) : glacisref05_Same.f k n i t l n i t l = some true := by
  unfold glacisref05_Same.f glacisref05_SameParams.f
  rw [if_pos rfl]
  have := same_loop l hl l.length 0 k (by omega) hk
  rw [show ((0 : Nat) : Int) = 0 from rfl] at this
  rw [this]
  simp only [Option.bind_some]
  rw [if_pos trivial, if_pos trivial, if_pos trivial]
  simp
theorem pt_count {u : List UInt8} {l l1 : List S60} (h : PT u l l1) : l1.length ≤ l.length + u.length := by
  induction h with
  | nil => simp
  | flag b k u l l1 hb hk h ih =>
    have := withP_len (B k) l ⟨B k, 6, 1, ⟨#[]⟩⟩
    simp only [List.length_cons, List.length_append]; omega
  | val b k w u n i t l l1 hb hk hv h ih =>
    have := withP_len (B k) l ⟨B k, n, i, B t⟩
    simp only [List.length_cons, List.length_append]; omega
theorem it_count {u : List UInt8} {n i : Int} {t : List UInt8} {l : List S60} (h : IT u n i t l) : l.length ≤ u.length := by
  obtain ⟨a, b, rfl, hv, hp⟩ := h
  have := pt_count hp
  simp at this ⊢; omega
end Go.Proofs.YtjdbiicjfpgjkaaGreatDoor.Pl
/- Chapter 5: parameters' text, there and back. -/
namespace Go.Proofs.YtjdbiicjfpgjkaaGreatDoor.Pl
open Go.RowKit Go.Proofs.YtjdbiicjfpgjkaaGreatDoor.Q Go.Proofs.YtjdbiicjfpgjkaaGreatDoor.Sf Go.Proofs.YtjdbiicjfpgjkaaGreatDoorW.PrintWords Go.Proofs.YtjdbiicjfpgjkaaGreatDoorW.PrintLast
set_option linter.unusedVariables false
set_option linter.unusedSimpArgs false
theorem rd_at5 (l : List S60) (j : Nat) (h : j < l.length) : rd_T60 l (j : Int) = l[j] := by
  unfold rd_T60; simp [List.getD_eq_getElem?_getD, h]
def Dist (l : List S60) : Prop := (l.map (·.f0)).Nodup
theorem set_keys (l : List S60) (i : Nat) (p : S60) (hl : i < l.length) (hp : p.f0 = l[i].f0) : (l.set i p).map (·.f0) = l.map (·.f0) := by
  rw [List.map_set, hp]
  apply List.ext_getElem?
  intro j
  rw [List.getElem?_set]
  split
  · rename_i e; subst e; simp [hl]
  · rfl
theorem dist_with (k : ByteArray) (l : List S60) (p : S60) (hp : p.f0 = k) (h : Dist l) : Dist (withP k l p) := by
  unfold withP
  split
  · rename_i i hi
    obtain ⟨hl, h1, _⟩ := List.findIdx?_eq_some_iff_getElem.1 hi
    have hk : l[i].f0 = k := of_decide_eq_true h1
    unfold Dist at h ⊢
    rw [set_keys l i p hl (hp.trans hk.symm)]; exact h
  · rename_i hn
    unfold Dist at h ⊢
    rw [List.map_append, List.nodup_append]
    refine ⟨h, by simp, ?_⟩
    intro a ha b hb e
    obtain ⟨q, hq, rfl⟩ := List.mem_map.1 ha
    have := List.findIdx?_eq_none_iff.1 hn q hq
    have hb' : b = p.f0 := by simpa using hb
    have := of_decide_eq_false this
    exact this (e.trans (hb'.trans hp))
end Go.Proofs.YtjdbiicjfpgjkaaGreatDoor.Pl
/- Chapter 5: what the document's own reader gives is what the program's reader gives. -/
namespace Go.Proofs.YtjdbiicjfpgjkaaGreatDoor.Pl
open Go.RowKit Go.Proofs.YtjdbiicjfpgjkaaGreatDoor.Q Go.Proofs.YtjdbiicjfpgjkaaGreatDoor.Sf Go.Proofs.YtjdbiicjfpgjkaaGreatDoorW.PrintWords Go.Proofs.YtjdbiicjfpgjkaaGreatDoorW.PrintLast
set_option linter.unusedVariables false
set_option linter.unusedSimpArgs false
theorem up {α : Type} {f : Nat → Option α} (hm : ∀ k, LeO (f k) (f (k + 1))) {k0 : Nat} {r : α} (h : f k0 = some r) : ∀ k, k0 ≤ k → f k = some r := by
  intro k hk
  induction k with
  | zero => obtain rfl : k0 = 0 := by omega
            exact h
  | succ k ih =>
    rcases Nat.lt_or_ge k k0 with c | c
    · obtain rfl : k0 = k + 1 := by omega
      exact h
    · exact hm k r (ih c)
theorem bt_u (s : ByteArray) (j : Nat) (h : j < s.size) : ∃ c : UInt8, bt s (j : Int) = (c.toNat : Int) := by
  have hl : j < s.data.toList.length := by rw [← Lib.size_eq]; exact h
  exact ⟨_, bt_list s j hl⟩
theorem letter_u (c : UInt8) : glacisref01_Letter.f c.toNat = some (leP c.toNat) :=
  of_decide_eq_true (allU (fun c : UInt8 => decide (glacisref01_Letter.f c.toNat = some (leP c.toNat))) (by decide +kernel) c)
theorem digit_u (c : UInt8) : glacisref01_Digit.f c.toNat = some (dgP c.toNat) :=
  of_decide_eq_true (allU (fun c : UInt8 => decide (glacisref01_Digit.f c.toNat = some (dgP c.toNat))) (by decide +kernel) c)
theorem base_u (c : UInt8) : glacisref05_base.f c.toNat = some (baP c.toNat) :=
  of_decide_eq_true (allU (fun c : UInt8 => decide (glacisref05_base.f c.toNat = some (baP c.toNat))) (by decide +kernel) c)
theorem tokens_u (c : UInt8) (k : Nat) (hk : 16 ≤ k) : glacisref05_tokens.f k c.toNat = some (tokP c.toNat) := by
  have h := of_decide_eq_true (allU (fun c : UInt8 => decide (glacisref05_tokens.f 16 c.toNat = some (tokP c.toNat))) (by decide +kernel) c)
  exact up (f := fun k => glacisref05_tokens.f k c.toNat) (fun k => glacisref05_tokens.mono _ k) h k hk
theorem small_u (c : UInt8) : glacisref05_small.f c.toNat true = some (smP c.toNat || decide ((c.toNat : Int) = 42)) :=
  of_decide_eq_true (allU (fun c : UInt8 => decide (glacisref05_small.f c.toNat true = some (smP c.toNat || decide ((c.toNat : Int) = 42)))) (by decide +kernel) c)
theorem small_v (c : UInt8) : glacisref05_small.f c.toNat false = some (keP c.toNat) :=
  of_decide_eq_true (allU (fun c : UInt8 => decide (glacisref05_small.f c.toNat false = some (keP c.toNat))) (by decide +kernel) c)
theorem L_ext (s : ByteArray) (a : Nat) : L (s.extract a s.size) = (L s).drop a := by
  unfold L
  rw [Lib.extract_data, Lib.size_eq, List.take_of_length_le (by simp)]
theorem L_ext0 (s : ByteArray) (a : Nat) : L (s.extract 0 a) = (L s).take a := by
  unfold L
  rw [Lib.extract_data]; simp
theorem L_extm (s : ByteArray) (a b : Nat) : L (s.extract a b) = ((L s).drop a).take (b - a) := by
  unfold L
  rw [Lib.extract_data]
theorem bt_L (s : ByteArray) (j : Nat) (h : j < (L s).length) : bt s (j : Int) = ((L s)[j].toNat : Int) := bt_list s j h
theorem drop_cons (l : List UInt8) (n : Nat) (h : n < l.length) : l.drop n = l[n] :: l.drop (n + 1) := List.drop_eq_getElem_cons h
theorem atF_ext (s : ByteArray) (n : Nat) (c : Int) : atF (s.extract n s.size) c = decide (n < s.size ∧ bt s (n : Int) = c) := by
  by_cases h : n < s.size
  · have hl : n < (L s).length := by rw [← size_L]; exact h
    have e : L (s.extract n s.size) = (L s)[n] :: (L s).drop (n + 1) := by rw [L_ext, drop_cons _ _ hl]
    rw [atF_cons e, bt_L s n hl]
    simp [h]
  · have e : L (s.extract n s.size) = [] := by rw [L_ext]; exact List.drop_eq_nil_of_le (by rw [← size_L]; omega)
    rw [atF_nil e]
    simp [h]
theorem tl_ext (s : ByteArray) (n : Nat) : tl (s.extract n s.size) = s.extract (n + 1) s.size := by
  apply L_inj
  rw [L_tl, L_ext, L_ext]; simp
theorem drp_is (p : Int → Bool) (s : ByteArray) : drpB p s = s.extract (spanB p s) s.size := rfl
theorem tl_is (s : ByteArray) : tl s = s.extract 1 s.size := rfl
theorem bt_tl (s : ByteArray) (j : Nat) (h : j + 1 < s.size) : bt (tl s) (j : Int) = bt s ((j + 1 : Nat) : Int) := by
  have h1 : j + 1 < (L s).length := by rw [← size_L]; exact h
  have h2 : j < (L (tl s)).length := by rw [L_tl, List.length_tail]; omega
  rw [bt_L _ _ h2, bt_L _ _ h1]
  have : (L (tl s))[j] = (L s)[j + 1] := by simp [L_tl]
  rw [this]
theorem size_tl (s : ByteArray) : (tl s).size = s.size - 1 := by unfold tl; rw [ByteArray.size_extract]; omega
theorem digits_l (s : ByteArray) (hs : s.size ≤ 100000) : ∀ (m x k : Nat), x + m = s.size → m < k → (∀ j : Nat, j < x → dgP (bt s j) = true) → glacisref05_digits.l0 k s (x : Int) = some (spanB dgP s : Int)
  | 0, x, k, hm, hk, hj => by
    obtain ⟨k, rfl⟩ : ∃ k', k = k' + 1 := ⟨k - 1, by omega⟩
    rw [glacisref05_digits.l0, if_neg (by omega), span_eq dgP s x (by omega) hj (fun h => by omega)]
  | m + 1, x, k, hm, hk, hj => by
    obtain ⟨k, rfl⟩ : ∃ k', k = k' + 1 := ⟨k - 1, by omega⟩
    obtain ⟨c, hc⟩ := bt_u s x (by omega)
    rw [glacisref05_digits.l0, if_pos (by omega), if_pos (by omega), hc, digit_u]
    simp only [Option.bind_some]
    by_cases hd : dgP c.toNat = true
    · rw [if_pos hd, wrap_next x (by omega)]
      refine digits_l s hs m (x + 1) k (by omega) (by omega) (fun j hjx => ?_)
      by_cases e : j = x
      · subst e; rw [hc]; exact hd
      · exact hj j (by omega)
    · rw [if_neg hd, span_eq dgP s x (by omega) hj (fun _ => by rw [hc]; exact Bool.eq_false_iff.mpr hd)]
theorem digits_f (s : ByteArray) (hs : s.size ≤ 100000) (k : Nat) (hk : s.size < k) : glacisref05_digits.f k s = some (spanB dgP s : Int) := by
  unfold glacisref05_digits.f
  exact digits_l s hs s.size 0 k (by omega) hk (fun j hj => by omega)
theorem numL_snoc (l : List UInt8) (c : UInt8) : numL (l ++ [c]) = numL l * 10 + (c.toNat - 48) := by unfold numL; rw [List.foldl_append]; rfl
theorem wrap_id (x : Int) (h : -9000000000000000000 ≤ x ∧ x ≤ 9000000000000000000) : wrap64 x = x := by unfold wrap64; omega
theorem lt_p15 {x n : Nat} (h : x < 10 ^ n) (hn : n ≤ 15) : x < 1000000000000000 := Nat.lt_of_lt_of_le h (Nat.le_trans (Nat.pow_le_pow_right (by decide) hn) (by decide))
theorem told_l (s : ByteArray) (hs : s.size ≤ 15) (hd : ∀ c ∈ L s, dgU c = true) : ∀ (m x k : Nat), x + m = s.size → m < k → glacisref05_told.l0 k s (numL ((L s).take x) : Int) (x : Int) = some (numL (L s) : Int)
  | 0, x, k, hm, hk => by
    obtain ⟨k, rfl⟩ : ∃ k', k = k' + 1 := ⟨k - 1, by omega⟩
    rw [glacisref05_told.l0, if_neg (by omega), List.take_of_length_le (by rw [← size_L]; omega)]
  | m + 1, x, k, hm, hk => by
    obtain ⟨k, rfl⟩ : ∃ k', k = k' + 1 := ⟨k - 1, by omega⟩
    have hx : x < (L s).length := by rw [← size_L]; omega
    have hc := hd _ (List.getElem_mem hx)
    have hc2 := dg_ne hc
    have e : numL ((L s).take (x + 1)) = numL ((L s).take x) * 10 + ((L s)[x].toNat - 48) := by rw [take_snoc _ _ hx, numL_snoc]
    have hb : numL ((L s).take (x + 1)) < 1000000000000000 := lt_p15 (numL_bound ((L s).take (x + 1)) (fun c hc => hd c (List.mem_of_mem_take hc))) (by rw [List.length_take, ← size_L]; omega)
    rw [glacisref05_told.l0, if_pos (by omega), if_pos (by omega), bt_L s x hx, wrap_next x (by omega)]
    obtain ⟨d, hd48⟩ : ∃ d : Nat, (L s)[x].toNat = 48 + d := ⟨(L s)[x].toNat - 48, by omega⟩
    have hd9 : d ≤ 9 := by omega
    rw [hd48, Nat.add_sub_cancel_left] at e
    rw [e] at hb
    have m1 : ((((L s)[x].toNat : Int) - 48) % 256) = (d : Int) := by rw [hd48]; omega
    generalize numL ((L s).take x) = a at *
    have m2 : wrap64 (10 * (a : Int)) = 10 * (a : Int) := wrap_id _ (by omega)
    have m3 : wrap64 (10 * (a : Int) + (d : Int)) = 10 * (a : Int) + (d : Int) := wrap_id _ (by omega)
    have e2 : wrap64 ((wrap64 (10 * (a : Int))) + ((((L s)[x].toNat : Int) - 48) % 256)) = (numL ((L s).take (x + 1)) : Int) := by
      rw [m1, m2, m3, e]; omega
    rw [e2]
    exact told_l s hs hd m (x + 1) k (by omega) (by omega)
theorem told_f (s : ByteArray) (hs : s.size ≤ 15) (hd : ∀ c ∈ L s, dgU c = true) (k : Nat) (hk : 16 ≤ k) : glacisref05_told.f k s = some (numL (L s) : Int) := by
  unfold glacisref05_told.f
  have := told_l s hs hd s.size 0 k (by omega) (by omega)
  simpa [numL] using this
def refV (o : Option ((Int × Int × ByteArray) × ByteArray)) : ByteArray × Int × Int × ByteArray × ByteArray × Bool := match o with | some (v, t) => (⟨#[]⟩, v.1, v.2.1, v.2.2, t, true) | none => (⟨#[]⟩, 0, 0, ⟨#[]⟩, ⟨#[]⟩, false)
theorem refV_some (v : Int × Int × ByteArray) (t : ByteArray) : refV (some (v, t)) = (⟨#[]⟩, v.1, v.2.1, v.2.2, t, true) := rfl
def rdN (sg : Int) (s1 : ByteArray) : Option ((Int × Int × ByteArray) × ByteArray) :=
  if (takB dgP s1).size = 0 then none
    else if atF (drpB dgP s1) 46 = true then
      (if (takB dgP s1).size > 12 ∨ (takB dgP (tl (drpB dgP s1))).size = 0 ∨ (takB dgP (tl (drpB dgP s1))).size > 3 then none
      else some ((2, sg * (numV (takB dgP s1 ++ (takB dgP (tl (drpB dgP s1)) ++ zer (takB dgP (tl (drpB dgP s1))).size)) : Int), ⟨#[]⟩), drpB dgP (tl (drpB dgP s1))))
    else if (takB dgP s1).size > 15 then none else some ((1, sg * (numV (takB dgP s1) : Int), ⟨#[]⟩), drpB dgP s1)
theorem rdN_eq (s : ByteArray) : rdNumber s = rdN (sgn s) (atR s 45) := rdNumber_eq s
theorem number_j0 (s : ByteArray) (hs : s.size ≤ 100000) (sg : Int) (hsg : sg = 1 ∨ sg = -1) (k : Nat) (hk : s.size + 30 < k) : glacisref05_number.j0 k s sg = some (refV (rdN sg s)) := by
  obtain ⟨k, rfl⟩ : ∃ k', k = k' + 10 := ⟨k - 10, by omega⟩
  have hn := span_le dgP s
  have hall : ∀ c ∈ L (takB dgP s), dgU c = true := tak_all dgP s
  rw [glacisref05_number.j0, digits_f s hs _ (by omega)]
  simp only [Option.bind_some]
  unfold rdN
  rw [drp_is dgP s, tl_ext, atF_ext]
  have et : takB dgP s = s.extract 0 (spanB dgP s) := rfl
  rw [tak_size]
  by_cases h0 : spanB dgP s = 0
  · rw [if_pos (by omega), if_pos h0, glacisref05_number.j1, if_pos rfl]; rfl
  rw [if_neg (by omega), if_neg h0, glacisref05_number.j1]
  by_cases h15 : (spanB dgP s : Int) > 15
  · rw [decide_eq_true h15, if_pos rfl]
    by_cases h46 : spanB dgP s < s.size ∧ bt s (spanB dgP s) = 46
    · rw [decide_eq_true h46, if_pos rfl, if_pos (by omega)]; rfl
    · rw [decide_eq_false h46, if_neg (by decide), if_pos (by omega)]; rfl
  rw [decide_eq_false h15, if_neg (by decide)]
  have hint : glacisref05_number.j2 (k + 8) s sg (spanB dgP s) true = some (refV (some ((1, sg * (numV (takB dgP s) : Int), ⟨#[]⟩), s.extract (spanB dgP s) s.size))) := by
    have hz : (takB dgP s).size ≤ 15 := by rw [tak_size]; omega
    have hb := lt_p15 (numL_bound (L (takB dgP s)) hall) (by rw [← size_L]; exact hz)
    rw [glacisref05_number.j2, if_pos rfl, if_pos (by omega), if_pos (by omega)]
    have e1 : s.extract 0 ((spanB dgP s : Int)).toNat = takB dgP s := rfl
    rw [e1, told_f _ hz hall _ (by omega)]
    simp only [Option.bind_some]
    rw [wrap_id _ (by rcases hsg with rfl | rfl <;> omega), numV_L, refV_some]
    rfl
  by_cases h46 : spanB dgP s < s.size ∧ bt s (spanB dgP s) = 46
  · rw [decide_eq_true h46, if_pos (show true = true from rfl)]
    rw [if_neg (by omega), if_pos (by omega), if_pos (by omega), h46.2]
    have hw : wrap64 ((spanB dgP s : Int) + 1) = ((spanB dgP s + 1 : Nat) : Int) := wrap_next _ (by omega)
    rw [show ((46 : Int) != 46) = false from rfl, glacisref05_number.j2, if_neg (by decide), hw, if_pos (by omega), if_pos (by omega)]
    have e2 : s.extract (((spanB dgP s + 1 : Nat) : Int)).toNat s.size = s.extract (spanB dgP s + 1) s.size := rfl
    rw [e2]
    have hz2 : (s.extract (spanB dgP s + 1) s.size).size ≤ s.size := by rw [ByteArray.size_extract]; omega
    rw [digits_f _ (by omega) _ (by omega)]
    simp only [Option.bind_some]
    generalize hP : s.extract (spanB dgP s + 1) s.size = P at *
    have hPL : L P = (L s).drop (spanB dgP s + 1) := by rw [← hP, L_ext]
    have hPs : P.size = s.size - (spanB dgP s + 1) := by rw [← hP, ByteArray.size_extract]; omega
    have hm := span_le dgP P
    have hall2 : ∀ c ∈ L (takB dgP P), dgU c = true := tak_all dgP P
    rw [tak_size]
    by_cases hbad : spanB dgP s > 12 ∨ spanB dgP P = 0 ∨ spanB dgP P > 3
    · rw [if_pos hbad]
      have hj : ∀ b : Bool, b = true → glacisref05_number.j3 (k + 7) s sg (spanB dgP s) (spanB dgP P) b = some (refV none) := by
        intro b hb
        rw [glacisref05_number.j3, if_pos hb]; rfl
      by_cases b1 : (spanB dgP s : Int) > 12
      · rw [if_pos b1]; exact hj true rfl
      rw [if_neg b1]
      by_cases b2 : (spanB dgP P : Int) < 1
      · rw [if_pos b2]; exact hj true rfl
      rw [if_neg b2]
      exact hj _ (decide_eq_true (by omega))
    · rw [if_neg hbad, if_neg (by omega), if_neg (by omega), decide_eq_false (by omega), glacisref05_number.j3, if_neg (by decide), if_pos (by omega), if_pos (by omega), hw, if_pos (by omega)]
      have hw2 : wrap64 (((spanB dgP s + 1 : Nat) : Int) + (spanB dgP P : Int)) = ((spanB dgP s + 1 + spanB dgP P : Nat) : Int) := by unfold wrap64; omega
      rw [hw2, if_pos (by omega), if_pos (by omega)]
      have e3 : s.extract 0 ((spanB dgP s : Int)).toNat = takB dgP s := rfl
      have e4 : s.extract (((spanB dgP s + 1 : Nat) : Int)).toNat (((spanB dgP s + 1 + spanB dgP P : Nat) : Int)).toNat = takB dgP P := by
        apply L_inj
        rw [L_extm]
        have : L (takB dgP P) = (L P).take (spanB dgP P) := L_ext0 P _
        rw [this, hPL]
        congr 1
        omega
      rw [e3, e4]
      have z1 := tak_size dgP s
      have z2 := tak_size dgP P
      rw [if_pos (by omega)]
      have hz : (takB dgP s ++ takB dgP P).size ≤ 15 := by rw [ByteArray.size_append]; omega
      have hall3 : ∀ c ∈ L (takB dgP s ++ takB dgP P), dgU c = true := by
        rw [L_app]; intro c hc
        rcases List.mem_append.1 hc with hc | hc
        · exact hall c hc
        · exact hall2 c hc
      rw [told_f _ hz hall3 _ (by omega)]
      simp only [Option.bind_some]
      have hb := numL_bound (L (takB dgP s ++ takB dgP P)) hall3
      have hlen : (L (takB dgP s ++ takB dgP P)).length = spanB dgP s + spanB dgP P := by rw [← size_L, ByteArray.size_append]; omega
      have hval : numV (takB dgP s ++ (takB dgP P ++ zer (spanB dgP P))) = numL (L (takB dgP s ++ takB dgP P)) * 10 ^ (3 - spanB dgP P) := by
        have eqa : takB dgP s ++ (takB dgP P ++ zer (spanB dgP P)) = (takB dgP s ++ takB dgP P) ++ zer (spanB dgP P) := L_inj (by simp only [L_app, List.append_assoc])
        rw [eqa, numV_L, L_app, zer_L, numL_app]
        have hzl : (zerL (spanB dgP P)).length = 3 - spanB dgP P := zer_len _ (by omega)
        have hz0 : numL (zerL (spanB dgP P)) = 0 := by
          rcases (show spanB dgP P = 1 ∨ spanB dgP P = 2 ∨ spanB dgP P = 3 by omega) with e | e | e <;> rw [e] <;> rfl
        rw [hzl, hz0, Nat.add_zero]
      rw [hval, refV_some]
      have hrest : drpB dgP P = s.extract (spanB dgP s + 1 + spanB dgP P) s.size := by
        apply L_inj
        have : L (drpB dgP P) = (L P).drop (spanB dgP P) := L_ext P _
        rw [this, hPL, L_ext, List.drop_drop]
      rw [hrest]
      generalize numL (L (takB dgP s ++ takB dgP P)) = X at *
      have hX : X < 10 ^ (spanB dgP s + spanB dgP P) := by rw [← hlen]; exact hb
      have hlast : ∀ (k' : Nat) (Y : Int), glacisref05_number.l0 (k' + 1) s sg (spanB dgP s) (spanB dgP P) Y 3 = some (⟨#[]⟩, 2, wrap64 (sg * Y), ⟨#[]⟩, s.extract (spanB dgP s + 1 + spanB dgP P) s.size, true) := by
        intro k' Y
        rw [glacisref05_number.l0, if_neg (by decide), hw, hw2, if_pos (by omega), if_pos (by omega)]
        rfl
      have hle : X < 10 ^ 12 * 10 ^ spanB dgP P := by
        rw [← Nat.pow_add]
        exact Nat.lt_of_lt_of_le hX (Nat.pow_le_pow_right (by omega) (by omega))
      rcases (show spanB dgP P = 1 ∨ spanB dgP P = 2 ∨ spanB dgP P = 3 by omega) with e | e | e
      · rw [e] at hlast hle ⊢
        rw [show k + 6 = (k + 5) + 1 from rfl, show (((1 : Nat)) : Int) = 1 from rfl] at *
        rw [glacisref05_number.l0, if_pos (by decide), wrap_id (10 * (X : Int)) (by omega), show wrap64 ((1 : Int) + 1) = 2 from wrap_id _ (by omega), glacisref05_number.l0, if_pos (by decide), wrap_id (10 * (10 * (X : Int))) (by omega), show wrap64 ((2 : Int) + 1) = 3 from wrap_id _ (by omega), hlast]
        rw [wrap_id _ (by rcases hsg with rfl | rfl <;> omega)]
        congr 3
        rw [show (3 - 1 : Nat) = 2 from rfl]
        push_cast
        rcases hsg with rfl | rfl <;> simp <;> omega
      · rw [e] at hlast hle ⊢
        rw [show k + 6 = (k + 5) + 1 from rfl, show (((2 : Nat)) : Int) = 2 from rfl] at *
        rw [glacisref05_number.l0, if_pos (by decide), wrap_id (10 * (X : Int)) (by omega), show wrap64 ((2 : Int) + 1) = 3 from wrap_id _ (by omega), hlast]
        rw [wrap_id _ (by rcases hsg with rfl | rfl <;> omega)]
        congr 3
        rw [show (3 - 2 : Nat) = 1 from rfl]
        push_cast
        rcases hsg with rfl | rfl <;> simp <;> omega
      · rw [e] at hlast hle ⊢
        rw [show k + 6 = (k + 5) + 1 from rfl, show (((3 : Nat)) : Int) = 3 from rfl] at *
        rw [hlast]
        rw [wrap_id _ (by rcases hsg with rfl | rfl <;> omega)]
        congr 3
        rw [show (3 - 3 : Nat) = 0 from rfl]
        simp
  · rw [decide_eq_false h46, if_neg (show ¬ (false = true) by decide), if_neg (show ¬ (spanB dgP s > 15) by omega)]
    by_cases he : (spanB dgP s : Int) = (s.size : Int)
    · rw [if_pos he]; exact hint
    · rw [if_neg he, if_pos (by omega), if_pos (by omega)]
      have : (bt s (spanB dgP s) != 46) = true := by
        rw [bne_iff_ne]; intro e; exact h46 ⟨by omega, e⟩
      rw [this]; exact hint
theorem number_f (s : ByteArray) (hs : s.size ≤ 100000) (h0 : 0 < s.size) (k : Nat) (hk : s.size + 30 < k) : glacisref05_number.f k s = some (refV (rdNumber s)) := by
  unfold glacisref05_number.f
  rw [if_pos (by omega), rdN_eq]
  unfold sgn atR atF
  by_cases h : bt s 0 = 45
  · rw [if_pos h, if_pos (by omega), decide_eq_true (show 0 < s.size ∧ bt s 0 = 45 from ⟨h0, h⟩), if_pos rfl, if_pos rfl]
    have hz := tl_size s
    exact number_j0 (tl s) (by omega) (-1) (Or.inr rfl) k (by omega)
  · rw [if_neg h, decide_eq_false (show ¬ (0 < s.size ∧ bt s 0 = 45) from fun e => h e.2), if_neg (by decide), if_neg (by decide)]
    exact number_j0 s hs 1 (Or.inl rfl) k hk
end Go.Proofs.YtjdbiicjfpgjkaaGreatDoor.Pl
/- Chapter 5: the document's own reader: texts in quotes, values, keys, parameters, items. -/
namespace Go.Proofs.YtjdbiicjfpgjkaaGreatDoor.Pl
open Go.RowKit Go.Proofs.YtjdbiicjfpgjkaaGreatDoor.Q Go.Proofs.YtjdbiicjfpgjkaaGreatDoor.Sf Go.Proofs.YtjdbiicjfpgjkaaGreatDoorW.PrintWords Go.Proofs.YtjdbiicjfpgjkaaGreatDoorW.PrintLast
set_option linter.unusedVariables false
set_option linter.unusedSimpArgs false
theorem nums_snoc (xs : List Int) (s : ByteArray) (i : Nat) (h : i < s.size) : strOfNums (xs ++ [bt s i]) = strOfNums xs ++ s.extract i (i + 1) := by
  have hl : i < (L s).length := by rw [← size_L]; exact h
  apply L_inj
  rw [bt_L s i hl, num_app xs _ _ rfl, L_app, L_extm, drop_cons _ _ hl]
  rw [show i + 1 - i = 1 by omega]; rfl
theorem ext_size (s : ByteArray) (i : Nat) (h : i < s.size) : (s.extract i (i + 1)).size = 1 := by rw [ByteArray.size_extract]; omega
theorem fits (a b : Nat) (ha : a ≤ 100000) (hb : b = 1) : a + b ≤ 9223372036854775807 := by omega
theorem qF_shut (d : Nat) (s : ByteArray) (xs : List Int) (h0 : 0 < s.size) (h : bt s 0 = 34) : qF (d + 1) s xs = some (strOfNums xs, tl s) := by
  rw [qF, if_pos h0, if_pos h]
theorem qF_nil (d : Nat) (s : ByteArray) (xs : List Int) (h0 : ¬ 0 < s.size) : qF (d + 1) s xs = none := by
  rw [qF, if_neg h0]
theorem qF_bad (d : Nat) (s : ByteArray) (xs : List Int) (h0 : 0 < s.size) (h : bt s 0 ≠ 34) (hb : bt s 0 < 32 ∨ 126 < bt s 0) : qF (d + 1) s xs = none := by
  rw [qF, if_pos h0, if_neg h, if_pos (by rcases hb with h | h; exact Or.inl h; exact Or.inr (Or.inl h))]
theorem wi_of {c : UInt8} (h : (c.toNat : Int) = 34 ∨ (c.toNat : Int) = 92) : wiP c.toNat ⟨#[34, 92]⟩ = true := by
  rw [wiQ]; exact decide_eq_true (by omega)
theorem wi_not {c : UInt8} (h : ¬ ((c.toNat : Int) = 34 ∨ (c.toNat : Int) = 92)) : ¬ wiP c.toNat ⟨#[34, 92]⟩ = true := by
  rw [wiQ]; intro e; have := of_decide_eq_true e; omega
theorem qF_esc (d : Nat) (s : ByteArray) (xs : List Int) (h0 : 0 < s.size) (h : bt s 0 = 92) (h1 : 0 < (tl s).size) (hq : bt (tl s) 0 = 34 ∨ bt (tl s) 0 = 92) : qF (d + 1) s xs = qF d (tl (tl s)) (xs ++ [bt (tl s) 0]) := by
  obtain ⟨c, hc⟩ := bt_u (tl s) 0 h1
  have hc' : bt (tl s) 0 = (c.toNat : Int) := hc
  rw [hc'] at hq
  have hw := wi_of hq
  rw [← hc'] at hw
  rw [qF, if_pos h0, if_neg (by rw [h]; decide), if_neg (by
    rintro (k | k | ⟨_, k⟩)
    · rw [h] at k; exact absurd k (by decide)
    · rw [h] at k; exact absurd k (by decide)
    · exact k ⟨h1, hw⟩), if_pos h]
theorem qF_escbad (d : Nat) (s : ByteArray) (xs : List Int) (h0 : 0 < s.size) (h : bt s 0 = 92) (hq : ¬ (0 < (tl s).size ∧ (bt (tl s) 0 = 34 ∨ bt (tl s) 0 = 92))) : qF (d + 1) s xs = none := by
  rw [qF, if_pos h0, if_neg (by rw [h]; decide), if_pos (by
    refine Or.inr (Or.inr ⟨h, fun k => ?_⟩)
    obtain ⟨c, hc⟩ := bt_u (tl s) 0 k.1
    have hc' : bt (tl s) 0 = (c.toNat : Int) := hc
    have k2 := k.2
    rw [hc'] at hq k2
    exact wi_not (fun e => hq ⟨k.1, e⟩) k2)]
theorem qF_plain (d : Nat) (s : ByteArray) (xs : List Int) (h0 : 0 < s.size) (h : bt s 0 ≠ 34) (h1 : ¬ bt s 0 < 32) (h2 : ¬ 126 < bt s 0) (h3 : bt s 0 ≠ 92) : qF (d + 1) s xs = qF d (tl s) (xs ++ [bt s 0]) := by
  rw [qF, if_pos h0, if_neg h, if_neg (by
    rintro (k | k | ⟨k, _⟩)
    · exact h1 k
    · exact h2 k
    · exact h3 k), if_neg h3]
theorem r_shut (k i : Nat) (s o : ByteArray) (hs : s.size ≤ 100000) (hi : i < s.size) (h : bt s i = 34) : glacisref05_quoted.l0 (k + 1) s o (i : Int) = some (⟨#[]⟩, 3, 0, o, s.extract (i + 1) s.size, true) := by
  rw [glacisref05_quoted.l0, if_pos (by omega), if_pos (by omega), if_pos h, wrap_next i (by omega), if_pos (by omega), if_pos (by omega)]; rfl
theorem r_nil (k i : Nat) (s o : ByteArray) (hi : ¬ i < s.size) : glacisref05_quoted.l0 (k + 1) s o (i : Int) = some (refV none) := by
  rw [glacisref05_quoted.l0, if_neg (by omega)]; rfl
theorem r_j (k i : Nat) (s o : ByteArray) (hi : i < s.size) (h : bt s i ≠ 34) : glacisref05_quoted.l0 (k + 1) s o (i : Int) = glacisref05_quoted.j1 k s o i (decide (bt s i < 32 ∨ 126 < bt s i)) := by
  rw [glacisref05_quoted.l0, if_pos (by omega), if_pos (by omega), if_neg h]
  by_cases h1 : bt s i < 32
  · rw [if_pos h1, decide_eq_true (Or.inl h1)]
  · rw [if_neg h1]
    by_cases h2 : bt s i > 126
    · rw [decide_eq_true h2, decide_eq_true (Or.inr h2)]
    · rw [decide_eq_false h2, decide_eq_false (by rintro (k | k); exact h1 k; exact h2 k)]
theorem r_bad (k i : Nat) (s o : ByteArray) (hi : i < s.size) (h : bt s i ≠ 34) (hb : bt s i < 32 ∨ 126 < bt s i) : glacisref05_quoted.l0 (k + 2) s o (i : Int) = some (refV none) := by
  rw [r_j (k + 1) i s o hi h, decide_eq_true hb, glacisref05_quoted.j1, if_pos rfl]; rfl
theorem r_plain (k i : Nat) (s o : ByteArray) (hs : s.size ≤ 100000) (hi : i < s.size) (ho : o.size ≤ 100000) (h : bt s i ≠ 34) (hb : ¬ (bt s i < 32 ∨ 126 < bt s i)) (h9 : bt s i ≠ 92) : glacisref05_quoted.l0 (k + 2) s o (i : Int) = glacisref05_quoted.l0 k s (o ++ s.extract i (i + 1)) ((i + 1 : Nat) : Int) := by
  have p1 : ((i : Int)) ≤ (((i + 1 : Nat) : Int)) := by omega
  have p2 : (((i + 1 : Nat) : Int)) ≤ (s.size : Int) := by omega
  have p3 : (0 : Int) ≤ (i : Int) := by omega
  have p4 : (i : Int) < (s.size : Int) := by omega
  have hw := wrap_next i (by omega)
  rw [r_j (k + 1) i s o hi h, decide_eq_false hb, glacisref05_quoted.j1, if_neg (by decide), if_pos p3, if_pos p4, if_neg h9, hw, if_pos p1, if_pos p2]
  simp only [Int.toNat_natCast]
  rw [if_pos (fits _ _ ho (ext_size s i hi))]
theorem r_esc (k i : Nat) (s o : ByteArray) (hs : s.size ≤ 100000) (hi : i + 1 < s.size) (ho : o.size ≤ 100000) (h9 : bt s i = 92) (hq : bt s ((i + 1 : Nat) : Int) = 34 ∨ bt s ((i + 1 : Nat) : Int) = 92) : glacisref05_quoted.l0 (k + 2) s o (i : Int) = glacisref05_quoted.l0 k s (o ++ s.extract (i + 1) (i + 1 + 1)) ((i + 1 + 1 : Nat) : Int) := by
  have p1 : (((i + 1 : Nat) : Int)) ≤ (((i + 1 + 1 : Nat) : Int)) := by omega
  have p2 : (((i + 1 + 1 : Nat) : Int)) ≤ (s.size : Int) := by omega
  have p3 : (0 : Int) ≤ (i : Int) := by omega
  have p4 : (i : Int) < (s.size : Int) := by omega
  have p5 : ¬ (((i + 1 : Nat) : Int)) = (s.size : Int) := by omega
  have p6 : (0 : Int) ≤ (((i + 1 : Nat) : Int)) := by omega
  have p7 : (((i + 1 : Nat) : Int)) < (s.size : Int) := by omega
  have hw := wrap_next i (by omega)
  have hw2 := wrap_next (i + 1) (by omega)
  rw [r_j (k + 1) i s o (by omega) (by rw [h9]; decide), decide_eq_false (by rw [h9]; decide), glacisref05_quoted.j1, if_neg (by decide), if_pos p3, if_pos p4, if_pos h9, hw, if_neg p5, if_pos p6, if_pos p7, hw2]
  rcases hq with hq | hq
  · rw [if_pos hq, if_pos p1, if_pos p2]
    simp only [Int.toNat_natCast]
    rw [if_pos (fits _ _ ho (ext_size s (i + 1) hi))]
  · rw [if_neg (by rw [hq]; decide), if_pos hq, if_pos p1, if_pos p2]
    simp only [Int.toNat_natCast]
    rw [if_pos (fits _ _ ho (ext_size s (i + 1) hi))]
theorem r_escbad (k i : Nat) (s o : ByteArray) (hs : s.size ≤ 100000) (hi : i < s.size) (h9 : bt s i = 92) (hq : ¬ (i + 1 < s.size ∧ (bt s ((i + 1 : Nat) : Int) = 34 ∨ bt s ((i + 1 : Nat) : Int) = 92))) : glacisref05_quoted.l0 (k + 2) s o (i : Int) = some (refV none) := by
  have p3 : (0 : Int) ≤ (i : Int) := by omega
  have p4 : (i : Int) < (s.size : Int) := by omega
  have hw := wrap_next i (by omega)
  rw [r_j (k + 1) i s o hi (by rw [h9]; decide), decide_eq_false (by rw [h9]; decide), glacisref05_quoted.j1, if_neg (by decide), if_pos p3, if_pos p4, if_pos h9, hw]
  by_cases he : i + 1 = s.size
  · rw [if_pos (show (((i + 1 : Nat) : Int)) = (s.size : Int) by omega)]; rfl
  · have h1 : i + 1 < s.size := by omega
    have p6 : (0 : Int) ≤ (((i + 1 : Nat) : Int)) := by omega
    have p7 : (((i + 1 : Nat) : Int)) < (s.size : Int) := by omega
    rw [if_neg (show ¬ (((i + 1 : Nat) : Int)) = (s.size : Int) by omega), if_pos p6, if_pos p7, if_neg (fun e => hq ⟨h1, Or.inl e⟩), if_neg (fun e => hq ⟨h1, Or.inr e⟩)]; rfl
theorem bt_ext (s : ByteArray) (i : Nat) (h : i < s.size) : bt (s.extract i s.size) 0 = bt s i := by
  have hl : i < (L s).length := by rw [← size_L]; exact h
  have e : L (s.extract i s.size) = (L s)[i] :: (L s).drop (i + 1) := by rw [L_ext, drop_cons _ _ hl]
  rw [bt0 e, bt_L s i hl]
theorem quoted_l (s : ByteArray) (hs : s.size ≤ 100000) : ∀ (d i k : Nat) (xs : List Int), s.size < i + d → i ≤ s.size → 2 * s.size + 2 < k + 2 * i → (strOfNums xs).size ≤ i →
    glacisref05_quoted.l0 k s (strOfNums xs) (i : Int) = some (refV ((qF d (s.extract i s.size) xs).map mkQ))
  | 0, i, k, xs, hd, hi, hk, hx => by omega
  | d + 1, i, k, xs, hd, hi, hk, hx => by
    obtain ⟨k, rfl⟩ : ∃ k', k = k' + 2 := ⟨k - 2, by omega⟩
    have hz : (s.extract i s.size).size + i = s.size := by rw [ByteArray.size_extract]; omega
    have ho : (strOfNums xs).size ≤ 100000 := Nat.le_trans hx (Nat.le_trans hi hs)
    by_cases h : i < s.size
    · have hb := bt_ext s i h
      have h0 : 0 < (s.extract i s.size).size := by omega
      by_cases c34 : bt s i = 34
      · rw [r_shut (k + 1) i s _ hs h c34, qF_shut d _ xs h0 (hb.trans c34), tl_ext]; rfl
      by_cases cb : bt s i < 32 ∨ 126 < bt s i
      · rw [r_bad k i s _ h c34 cb, qF_bad d _ xs h0 (by rw [hb]; exact c34) (by rw [hb]; exact cb)]; rfl
      by_cases c92 : bt s i = 92
      · have hz1 : (s.extract (i + 1) s.size).size + (i + 1) = s.size := by rw [ByteArray.size_extract]; omega
        by_cases hq : i + 1 < s.size ∧ (bt s ((i + 1 : Nat) : Int) = 34 ∨ bt s ((i + 1 : Nat) : Int) = 92)
        · have hb1 := bt_ext s (i + 1) hq.1
          rw [r_esc k i s _ hs hq.1 ho c92 hq.2, qF_esc d _ xs h0 (hb.trans c92) (by rw [tl_ext]; omega) (by rw [tl_ext, hb1]; exact hq.2), tl_ext, tl_ext, hb1, ← nums_snoc xs s (i + 1) hq.1]
          refine quoted_l s hs d (i + 1 + 1) k _ (by omega) (by omega) (by omega) ?_
          rw [nums_snoc xs s (i + 1) hq.1, ByteArray.size_append, ext_size s (i + 1) hq.1]; omega
        · rw [r_escbad k i s _ hs h c92 hq, qF_escbad d _ xs h0 (hb.trans c92) (by
            rw [tl_ext]
            rintro ⟨k1, k2⟩
            have h1 : i + 1 < s.size := by omega
            rw [bt_ext s (i + 1) h1] at k2
            exact hq ⟨h1, k2⟩)]
          rfl
      · rw [r_plain k i s _ hs h ho c34 cb c92, qF_plain d _ xs h0 (by rw [hb]; exact c34) (by rw [hb]; exact fun e => cb (Or.inl e)) (by rw [hb]; exact fun e => cb (Or.inr e)) (by rw [hb]; exact c92), tl_ext, hb, ← nums_snoc xs s i h]
        refine quoted_l s hs d (i + 1) k _ (by omega) (by omega) (by omega) ?_
        rw [nums_snoc xs s i h, ByteArray.size_append, ext_size s i h]; omega
    · rw [r_nil (k + 1) i s _ h, qF_nil d _ xs (by omega)]; rfl
theorem quoted_f (s : ByteArray) (hs : s.size ≤ 100000) (h0 : 0 < s.size) (k : Nat) (hk : 2 * s.size + 10 < k) : glacisref05_quoted.f k s = some (refV (rdQuoted (tl s))) := by
  unfold glacisref05_quoted.f rdQuoted
  have z := tl_lt s h0
  rw [z]
  have := quoted_l s hs s.size 1 k [] (by omega) (by omega) (by omega) (by show (0 : Nat) ≤ 1; omega)
  exact this
theorem tok_l (s : ByteArray) (hs : s.size ≤ 100000) : ∀ (m x k : Nat), x + m = s.size → m + 17 < k → (∀ j : Nat, j < x → tokP (bt s j) = true) → glacisref05_value.l0 k s (x : Int) = some (refV (some ((4, 0, takB tokP s), drpB tokP s)))
  | 0, x, k, hm, hk, hj => by
    obtain ⟨k, rfl⟩ : ∃ k', k = k' + 1 := ⟨k - 1, by omega⟩
    have e := span_eq tokP s x (by omega) hj (fun h => by omega)
    rw [glacisref05_value.l0, if_neg (by omega), if_pos (by omega), if_pos (by omega)]
    unfold takB drpB
    rw [e]; rfl
  | m + 1, x, k, hm, hk, hj => by
    obtain ⟨k, rfl⟩ : ∃ k', k = k' + 1 := ⟨k - 1, by omega⟩
    obtain ⟨c, hc⟩ := bt_u s x (by omega)
    rw [glacisref05_value.l0, if_pos (by omega), if_pos (by omega), hc, tokens_u c k (by omega)]
    simp only [Option.bind_some]
    by_cases hd : tokP c.toNat = true
    · rw [if_pos hd, wrap_next x (by omega)]
      refine tok_l s hs m (x + 1) k (by omega) (by omega) (fun j hjx => ?_)
      by_cases e : j = x
      · subst e; rw [hc]; exact hd
      · exact hj j (by omega)
    · have e := span_eq tokP s x (by omega) hj (fun _ => by rw [hc]; exact Bool.eq_false_iff.mpr hd)
      rw [if_neg hd, if_pos (by omega)]
      unfold takB drpB
      rw [e]; rfl
theorem base_l (s : ByteArray) (hs : s.size ≤ 100000) (h0 : 0 < s.size) : ∀ (m x k : Nat), x + 1 + m = s.size → m < k → (∀ j : Nat, j < x → baP (bt (tl s) j) = true) → glacisref05_value.l1 k s ((x + 1 : Nat) : Int) = some (refV (rdBytes (tl s)))
  | 0, x, k, hm, hk, hj => by
    obtain ⟨k, rfl⟩ : ∃ k', k = k' + 1 := ⟨k - 1, by omega⟩
    have hz := tl_lt s h0
    have e := span_eq baP (tl s) x (by omega) hj (fun h => by omega)
    rw [glacisref05_value.l1, if_neg (by omega), if_pos (by omega)]
    unfold rdBytes
    rw [drp_is, e, atF_ext, decide_eq_false (by omega), if_neg (by decide)]; rfl
  | m + 1, x, k, hm, hk, hj => by
    obtain ⟨k, rfl⟩ : ∃ k', k = k' + 1 := ⟨k - 1, by omega⟩
    have hz := tl_lt s h0
    have hb : bt (tl s) (x : Int) = bt s ((x + 1 : Nat) : Int) := bt_tl s x (by omega)
    obtain ⟨c, hc⟩ := bt_u s (x + 1) (by omega)
    rw [glacisref05_value.l1, if_pos (by omega), if_pos (by omega), hc, base_u c]
    simp only [Option.bind_some]
    by_cases hd : baP c.toNat = true
    · rw [if_pos hd, wrap_next _ (by omega)]
      refine base_l s hs h0 m (x + 1) k (by omega) (by omega) (fun j hjx => ?_)
      by_cases e : j = x
      · subst e; rw [hb, hc]; exact hd
      · exact hj j (by omega)
    · have e := span_eq baP (tl s) x (by omega) hj (fun _ => by rw [hb, hc]; exact Bool.eq_false_iff.mpr hd)
      rw [if_neg hd, if_neg (by omega)]
      unfold rdBytes
      rw [drp_is, e, atF_ext, hb, hc]
      by_cases h58 : (c.toNat : Int) = 58
      · rw [if_pos h58, decide_eq_true ⟨by omega, h58⟩, if_pos rfl, if_pos (by omega), if_pos (by omega), wrap_next _ (by omega), if_pos (by omega), if_pos (by omega), refV_some]
        have e1 : s.extract 1 (((x + 1 : Nat) : Int)).toNat = takB baP (tl s) := by
          apply L_inj
          unfold takB
          rw [e, L_ext0, L_tl, L_extm]
          rw [show (((x + 1 : Nat) : Int)).toNat - 1 = x by omega, List.drop_one]
        have e2 : s.extract (((x + 1 + 1 : Nat) : Int)).toNat s.size = tl ((tl s).extract x (tl s).size) := by
          rw [tl_ext]
          apply L_inj
          rw [L_ext, L_ext, L_tl, ← List.drop_one, List.drop_drop]
          congr 1
          omega
        rw [e1, e2]
      · rw [if_neg h58, decide_eq_false (fun h => h58 h.2), if_neg (by decide)]; rfl
theorem firsts (c : UInt8) : ((c.toNat : Int) = 45 ∨ dgP c.toNat = true → (c.toNat : Int) ≠ 34) ∧ (leP c.toNat = true ∨ (c.toNat : Int) = 42 → tokP c.toNat = true ∧ (c.toNat : Int) ≠ 34) := by
  have h := allU (fun c : UInt8 => (!(decide ((c.toNat : Int) = 45) || dgP c.toNat) || !decide ((c.toNat : Int) = 34)) && (!(leP c.toNat || decide ((c.toNat : Int) = 42)) || (tokP c.toNat && !decide ((c.toNat : Int) = 34)))) (by decide +kernel) c
  simp only [Bool.and_eq_true, Bool.or_eq_true, Bool.not_eq_true', Bool.or_eq_false_iff, decide_eq_false_iff_not] at h
  refine ⟨fun k => ?_, fun k => ?_⟩
  · rcases h.1 with ⟨a, b⟩ | a
    · rcases k with k | k
      · exact absurd k a
      · rw [k] at b; cases b
    · exact a
  · rcases h.2 with ⟨a, b⟩ | a
    · rcases k with k | k
      · rw [k] at a; cases a
      · exact absurd k b
    · exact a
theorem value_f (s : ByteArray) (hs : s.size ≤ 100000) (k : Nat) (hk : 2 * s.size + 100 < k) : glacisref05_value.f k s = some (refV (rdValue s)) := by
  unfold glacisref05_value.f rdValue
  by_cases h0 : 0 < s.size
  · obtain ⟨c, hc⟩ := bt_u s 0 h0
    have hne : ¬ s.toList = ([] : List UInt8) := by
      rw [L_toList]; intro e; rw [size_L, e] at h0; exact absurd h0 (by simp)
    have hc' : bt s 0 = (c.toNat : Int) := hc
    obtain ⟨f1, f2⟩ := firsts c
    rw [if_neg hne, if_pos (by omega), if_pos h0, hc', letter_u, digit_u]
    simp only [Option.bind_some]
    obtain ⟨k, rfl⟩ : ∃ k', k = k' + 3 := ⟨k - 3, by omega⟩
    have hj0 : ∀ b : Bool, b = true → (c.toNat : Int) = 45 ∨ dgP c.toNat = true → glacisref05_value.j0 (k + 3) s (leP c.toNat) b = some (refV (if (c.toNat : Int) = 45 ∨ dgP c.toNat = true then rdNumber s else if leP c.toNat = true ∨ (c.toNat : Int) = 42 then some ((4, 0, takB tokP s), drpB tokP s) else if (c.toNat : Int) = 34 then rdQuoted (tl s) else if (c.toNat : Int) = 58 then rdBytes (tl s) else if (c.toNat : Int) = 63 then rdBool (tl s) else none)) := by
      intro b hb hcn
      rw [glacisref05_value.j0, if_pos hb, number_f s hs h0 _ (by omega), if_pos hcn]
      simp only [Option.bind_some]
    by_cases c45 : (c.toNat : Int) = 45
    · rw [if_pos c45]; exact hj0 true rfl (Or.inl c45)
    rw [if_neg c45]
    by_cases cd : dgP c.toNat = true
    · exact hj0 _ cd (Or.inr cd)
    rw [if_neg (by rintro (h | h); exact c45 h; exact cd h), glacisref05_value.j0, if_neg cd, if_pos (by omega), hc']
    by_cases c34 : (c.toNat : Int) = 34
    · rw [if_pos c34, quoted_f s hs h0 _ (by omega), if_neg (fun h => (f2 h).2 c34), if_pos c34]
      simp only [Option.bind_some]
    rw [if_neg c34]
    have hj1 : ∀ b : Bool, b = true → leP c.toNat = true ∨ (c.toNat : Int) = 42 → glacisref05_value.j1 (k + 2) s b = some (refV (if leP c.toNat = true ∨ (c.toNat : Int) = 42 then some ((4, 0, takB tokP s), drpB tokP s) else if (c.toNat : Int) = 34 then rdQuoted (tl s) else if (c.toNat : Int) = 58 then rdBytes (tl s) else if (c.toNat : Int) = 63 then rdBool (tl s) else none)) := by
      intro b hb hcn
      rw [glacisref05_value.j1, if_pos hb, if_pos hcn]
      exact tok_l s hs (s.size - 1) 1 (k + 1) (by omega) (by omega) (fun j hj => by
        obtain rfl : j = 0 := by omega
        rw [hc]; exact (f2 hcn).1)
    by_cases cl : leP c.toNat = true
    · rw [if_pos cl]; exact hj1 true rfl (Or.inl cl)
    rw [if_neg cl]
    by_cases c42 : (c.toNat : Int) = 42
    · exact hj1 _ (beq_iff_eq.2 c42) (Or.inr c42)
    rw [if_neg (by rintro (h | h); exact cl h; exact c42 h), if_neg c34, glacisref05_value.j1, if_neg (by simpa using c42), if_pos (by omega), hc']
    by_cases c58 : (c.toNat : Int) = 58
    · rw [if_pos c58, if_pos c58]
      exact base_l s hs h0 (s.size - 1) 0 (k + 1) (by omega) (by omega) (fun j hj => by omega)
    rw [if_neg c58, if_neg c58]
    by_cases c63 : (c.toNat : Int) = 63
    · rw [if_pos c63, if_pos c63]
      unfold rdBool
      have hz := tl_lt s h0
      by_cases h2 : (s.size : Int) < 2
      · have e : L (tl s) = [] := by
          have : (L (tl s)).length = 0 := by rw [← size_L]; omega
          exact List.length_eq_zero_iff.1 this
        rw [if_pos h2, atF_nil e, atF_nil e, if_neg (by decide), if_neg (by decide)]; rfl
      · rw [if_neg h2, if_pos (by omega)]
        have hb : bt (tl s) 0 = bt s 1 := bt_tl s 0 (by omega)
        have a1 : ∀ n : Int, atF (tl s) n = decide (bt s 1 = n) := fun n => by
          unfold atF; rw [hb]; simp [show 0 < (tl s).size by omega]
        have er : s.extract 2 s.size = tl (tl s) := by rw [tl_is s, tl_ext]
        rw [a1, a1]
        by_cases d48 : bt s 1 = 48
        · rw [if_pos d48, if_pos (by omega), d48, er]; rfl
        rw [if_neg d48]
        by_cases d49 : bt s 1 = 49
        · rw [if_pos d49, if_pos (by omega), d49, er]; rfl
        · rw [if_neg d49, decide_eq_false d49, decide_eq_false d48, if_neg (by decide), if_neg (by decide)]; rfl
    · rw [if_neg c63, if_neg c63]; rfl
  · have he : s.toList = ([] : List UInt8) := by
      rw [L_toList]
      have : (L s).length = 0 := by rw [← size_L]; omega
      exact List.length_eq_zero_iff.1 this
    rw [if_pos he, if_neg h0]; rfl
def refK (o : Option (ByteArray × ByteArray)) : ByteArray × ByteArray × Int := match o with | some (k, t) => (k, t, 0) | none => (⟨#[]⟩, ⟨#[]⟩, 50)
theorem key_l (s : ByteArray) (hs : s.size ≤ 100000) (h0 : 0 < s.size) (hf : smP (bt s 0) = true ∨ bt s 0 = 42) : ∀ (m x k : Nat), x + 1 + m = s.size → m < k → (∀ j : Nat, j < x + 1 → keP (bt s j) = true) → glacisref05_Key.l0 k s ((x + 1 : Nat) : Int) = some (takB keP s, drpB keP s, 0)
  | 0, x, k, hm, hk, hj => by
    obtain ⟨k, rfl⟩ : ∃ k', k = k' + 1 := ⟨k - 1, by omega⟩
    have e := span_eq keP s (x + 1) (by omega) hj (fun h => by omega)
    rw [glacisref05_Key.l0, if_neg (by omega), if_neg (by omega), if_pos (by omega), if_pos (by omega)]
    unfold takB drpB
    rw [e]; rfl
  | m + 1, x, k, hm, hk, hj => by
    obtain ⟨k, rfl⟩ : ∃ k', k = k' + 1 := ⟨k - 1, by omega⟩
    obtain ⟨c, hc⟩ := bt_u s (x + 1) (by omega)
    have hb : ((((x + 1 : Nat) : Int)) == 0) = false := by rw [beq_eq_false_iff_ne]; omega
    rw [glacisref05_Key.l0, if_pos (by omega), if_pos (by omega), hc, hb, small_v c]
    simp only [Option.bind_some]
    by_cases hd : keP c.toNat = true
    · rw [if_pos hd, wrap_next _ (by omega)]
      refine key_l s hs h0 hf m (x + 1) k (by omega) (by omega) (fun j hjx => ?_)
      by_cases e : j = x + 1
      · subst e; rw [hc]; exact hd
      · exact hj j (by omega)
    · have e := span_eq keP s (x + 1) (by omega) hj (fun _ => by rw [hc]; exact Bool.eq_false_iff.mpr hd)
      rw [if_neg hd, if_neg (by omega), if_pos (by omega)]
      unfold takB drpB
      rw [e]; rfl
theorem key_f (s : ByteArray) (hs : s.size ≤ 100000) (k : Nat) (hk : s.size + 2 < k) : glacisref05_Key.f k s = some (refK (rdKey s)) := by
  unfold glacisref05_Key.f rdKey
  obtain ⟨k, rfl⟩ : ∃ k', k = k' + 1 := ⟨k - 1, by omega⟩
  rw [glacisref05_Key.l0]
  by_cases h0 : 0 < s.size
  · obtain ⟨c, hc⟩ := bt_u s 0 h0
    have hc' : bt s 0 = (c.toNat : Int) := hc
    rw [if_pos (by omega), if_pos (by omega), hc', show ((0 : Int) == 0) = true from rfl, small_u c]
    simp only [Option.bind_some]
    by_cases hf : smP c.toNat = true ∨ (c.toNat : Int) = 42
    · have e : (smP c.toNat || decide ((c.toNat : Int) = 42)) = true := by
        rcases hf with h | h
        · rw [h]; rfl
        · rw [decide_eq_true h, Bool.or_true]
      rw [if_pos e, if_pos ⟨h0, hf⟩]
      rw [show wrap64 ((0 : Int) + 1) = ((0 + 1 : Nat) : Int) from wrap_id _ (by omega)]
      have := key_l s hs h0 (by rw [hc']; exact hf) (s.size - 1) 0 k (by omega) (by omega) (fun j hj => by
        obtain rfl : j = 0 := by omega
        rw [hc]; exact (key_first c hf).1)
      exact this
    · have e : (smP c.toNat || decide ((c.toNat : Int) = 42)) = false := by
        rw [Bool.or_eq_false_iff]
        exact ⟨Bool.eq_false_iff.mpr (fun h => hf (Or.inl h)), decide_eq_false (fun h => hf (Or.inr h))⟩
      rw [e, if_neg (by decide), if_pos trivial, if_neg (fun h => hf h.2)]; rfl
  · rw [if_neg (by omega), if_pos rfl, if_neg (fun h => h0 h.1)]; rfl
theorem L_zero {s : ByteArray} (h : ¬ 0 < s.size) : L s = [] := by
  have : (L s).length = 0 := by rw [← size_L]; omega
  exact List.length_eq_zero_iff.1 this
theorem blank_nil (k : Nat) (s : ByteArray) (h0 : ¬ 0 < s.size) : glacisref05_Blank.l0 (k + 1) s = some (drpB spP s) := by
  rw [glacisref05_Blank.l0, if_neg (by omega)]
  congr 1
  apply L_inj
  rw [L_drp, L_zero h0]; rfl
theorem blank_stay (k : Nat) (s : ByteArray) (h0 : 0 < s.size) (h : bt s 0 ≠ 32) : glacisref05_Blank.l0 (k + 1) s = some (drpB spP s) := by
  obtain ⟨c, r, e⟩ := cons_of s h0
  rw [glacisref05_Blank.l0, if_pos (by omega), if_pos (by omega), if_neg h]
  congr 1
  apply L_inj
  rw [bt0 e] at h
  rw [L_drp, e, List.dropWhile_cons, if_neg (by unfold spP; rw [beq_iff_eq]; exact h)]
theorem blank_go (k : Nat) (s : ByteArray) (h0 : 0 < s.size) (h : bt s 0 = 32) : glacisref05_Blank.l0 (k + 1) s = glacisref05_Blank.l0 k (tl s) ∧ drpB spP s = drpB spP (tl s) := by
  obtain ⟨c, r, e⟩ := cons_of s h0
  refine ⟨by rw [glacisref05_Blank.l0, if_pos (by omega), if_pos (by omega), if_pos h, if_pos (by omega)]; rfl, ?_⟩
  apply L_inj
  rw [bt0 e] at h
  rw [L_drp, e, List.dropWhile_cons, if_pos (by unfold spP; exact beq_iff_eq.2 h), L_drp, L_tl, e]; rfl
theorem blank_l : ∀ (d : Nat) (s : ByteArray) (k : Nat), s.size ≤ d → d < k → glacisref05_Blank.l0 k s = some (drpB spP s)
  | 0, s, k, hd, hk => by
    obtain ⟨k, rfl⟩ : ∃ k', k = k' + 1 := ⟨k - 1, by omega⟩
    exact blank_nil k s (by omega)
  | d + 1, s, k, hd, hk => by
    obtain ⟨k, rfl⟩ : ∃ k', k = k' + 1 := ⟨k - 1, by omega⟩
    by_cases h0 : 0 < s.size
    · by_cases h : bt s 0 = 32
      · obtain ⟨h1, h2⟩ := blank_go k s h0 h
        have z := tl_lt s h0
        rw [h1, h2]
        exact blank_l d (tl s) k (by omega) (by omega)
      · exact blank_stay k s h0 h
    · exact blank_nil k s h0
theorem blank_f (s : ByteArray) (hs : s.size ≤ 100000) (k : Nat) (hk : s.size < k) : glacisref05_Blank.f k s = some (drpB spP s) := by
  unfold glacisref05_Blank.f
  exact blank_l s.size s k (Nat.le_refl _) hk
end Go.Proofs.YtjdbiicjfpgjkaaGreatDoor.Pl
/- Chapter 5: the document's own reader: parameters, items, fields. -/
namespace Go.Proofs.YtjdbiicjfpgjkaaGreatDoor.Pl
open Go.RowKit Go.Proofs.YtjdbiicjfpgjkaaGreatDoor.Q Go.Proofs.YtjdbiicjfpgjkaaGreatDoor.Sf Go.Proofs.YtjdbiicjfpgjkaaGreatDoorW.PrintWords Go.Proofs.YtjdbiicjfpgjkaaGreatDoorW.PrintLast
set_option linter.unusedVariables false
set_option linter.unusedSimpArgs false
def wMap (key : ByteArray) (p : S60) (l : List S60) : List S60 := l.map fun q => if q.f0 = key then p else q
def wAny (key : ByteArray) (l : List S60) : Bool := l.any fun q => decide (q.f0 = key)
theorem toList_inj {a b : ByteArray} : a.toList = b.toList ↔ a = b := ⟨fun h => L_inj (by rw [← L_toList, ← L_toList, h]), fun h => by rw [h]⟩
theorem s38_eta (q : S60) : (⟨q.f0, q.f1, q.f2, q.f3⟩ : S60) = q := rfl
theorem with_l (l : List S60) (hl : l.length ≤ 100000) (p : S60) : ∀ (m j k : Nat), j + m = l.length → m < k →
    glacisref05_With.l0 k l (wMap p.f0 p (l.take j)) (wAny p.f0 (l.take j)) (j : Int) p.f0 p.f1 p.f2 p.f3 = some (if wAny p.f0 l = true then wMap p.f0 p l else wMap p.f0 p l ++ [p])
  | 0, j, k, hm, hk => by
    obtain ⟨k, rfl⟩ : ∃ k', k = k' + 1 := ⟨k - 1, by omega⟩
    have e : l.take j = l := List.take_of_length_le (by omega)
    rw [glacisref05_With.l0, if_neg (by omega), e]
    by_cases h : wAny p.f0 l = true
    · rw [if_pos h, if_pos h]
    · rw [if_neg h, if_neg h, if_pos (by unfold wMap; rw [List.length_map]; omega), s38_eta]
  | m + 1, j, k, hm, hk => by
    obtain ⟨k, rfl⟩ : ∃ k', k = k' + 1 := ⟨k - 1, by omega⟩
    have hj : j < l.length := by omega
    have et : l.take (j + 1) = l.take j ++ [l[j]] := take_snoc l j hj
    have hlen : (wMap p.f0 p (l.take j)).length < 2932031007402 := by unfold wMap; rw [List.length_map, List.length_take]; omega
    have ih := with_l l hl p m (j + 1) k (by omega) (by omega)
    rw [glacisref05_With.l0, if_pos (by omega), if_pos (by omega), rd_at5 l j hj, wrap_next j (by omega)]
    by_cases h : l[j].f0 = p.f0
    · rw [if_pos (toList_inj.2 h), if_pos hlen]
      have e1 : wMap p.f0 p (l.take (j + 1)) = wMap p.f0 p (l.take j) ++ [p] := by
        unfold wMap; rw [et, List.map_append]; simp [h]
      have e2 : wAny p.f0 (l.take (j + 1)) = true := by
        unfold wAny; rw [et, List.any_append]; simp [h]
      rw [e1, e2] at ih
      exact ih
    · rw [if_neg (fun e => h (toList_inj.1 e)), if_pos hlen]
      have e1 : wMap p.f0 p (l.take (j + 1)) = wMap p.f0 p (l.take j) ++ [l[j]] := by
        unfold wMap; rw [et, List.map_append]; simp [h]
      have e2 : wAny p.f0 (l.take (j + 1)) = wAny p.f0 (l.take j) := by
        unfold wAny; rw [et, List.any_append]; simp [h]
      rw [e1, e2] at ih
      exact ih
theorem with_is (l : List S60) (hd : Dist l) (p : S60) : (if wAny p.f0 l = true then wMap p.f0 p l else wMap p.f0 p l ++ [p]) = withP p.f0 l p := by
  unfold withP
  cases hf : l.findIdx? (fun q => decide (q.f0 = p.f0)) with
  | none =>
    have hn := List.findIdx?_eq_none_iff.1 hf
    have h1 : wAny p.f0 l = false := by
      unfold wAny
      rw [List.any_eq_false]
      intro q hq; have := hn q hq; simp only [decide_eq_false_iff_not] at this; simpa using this
    have h2 : wMap p.f0 p l = l := by
      unfold wMap
      conv => rhs; rw [← List.map_id l]
      refine List.map_congr_left (fun q hq => ?_)
      have := of_decide_eq_false (hn q hq)
      rw [if_neg this]; rfl
    rw [if_neg (by rw [h1]; decide), h2]
  | some i =>
    obtain ⟨hi, h1, _⟩ := List.findIdx?_eq_some_iff_getElem.1 hf
    have hk : l[i].f0 = p.f0 := of_decide_eq_true h1
    have ha : wAny p.f0 l = true := by
      unfold wAny
      rw [List.any_eq_true]
      exact ⟨l[i], List.getElem_mem hi, by simpa using hk⟩
    rw [if_pos ha]
    simp only []
    unfold wMap
    apply List.ext_getElem
    · simp
    · intro j h1 h2
      rw [List.length_map] at h1
      rw [List.getElem_map, List.getElem_set]
      by_cases e : i = j
      · subst e; rw [if_pos hk, if_pos rfl]
      · rw [if_neg e, if_neg]
        intro hq
        unfold Dist at hd
        have q1 : (l.map (·.f0))[j]'(by simp; omega) = (l.map (·.f0))[i]'(by simp; omega) := by simp [hq, hk]
        rcases Nat.lt_or_gt_of_ne e with c | c
        · exact List.pairwise_iff_getElem.1 hd i j (by simp; omega) (by simp; omega) c q1.symm
        · exact List.pairwise_iff_getElem.1 hd j i (by simp; omega) (by simp; omega) c q1
theorem with_f (l : List S60) (hl : l.length ≤ 100000) (hd : Dist l) (key : ByteArray) (n i : Int) (t : ByteArray) (k : Nat) (hk : l.length < k) : glacisref05_With.f k l key n i t = some (withP key l ⟨key, n, i, t⟩) := by
  unfold glacisref05_With.f
  have := with_l l hl ⟨key, n, i, t⟩ l.length 0 k (by omega) hk
  have e := with_is l hd ⟨key, n, i, t⟩
  simp only [] at this e
  rw [← e]
  exact this
def refP (o : Option (List S60 × ByteArray)) : List S60 × ByteArray × Int := match o with | some (l, t) => (l, t, 0) | none => ([], ⟨#[]⟩, 50)
theorem size_atF {s : ByteArray} {c : Int} (h : atF s c = true) : 0 < s.size := (of_decide_eq_true h).1
theorem params_l : ∀ (d : Nat) (s : ByteArray) (l : List S60) (k : Nat), s.size < d → s.size ≤ 20000 → l.length + s.size ≤ 20000 → Dist l → 3 * s.size + 60000 < k → glacisref05_Params.l0 k s l = some (refP (pF d s l))
  | 0, s, l, k, hd, hs, hl, hD, hk => by omega
  | d + 1, s, l, k, hd, hs, hl, hD, hk => by
    obtain ⟨k, rfl⟩ : ∃ k', k = k' + 3 := ⟨k - 3, by omega⟩
    have hj : glacisref05_Params.l0 (k + 3) s l = glacisref05_Params.j1 (k + 2) s l (atF s 59) := by
      rw [glacisref05_Params.l0]
      unfold atF
      by_cases h0 : 0 < s.size
      · rw [if_pos (by omega), if_pos (by omega)]
        by_cases h59 : bt s 0 = 59
        · rw [decide_eq_true ⟨h0, h59⟩, beq_iff_eq.2 h59]
        · rw [decide_eq_false (fun h => h59 h.2), beq_eq_false_iff_ne.2 h59]
      · rw [if_neg (by omega), decide_eq_false (fun h => h0 h.1)]
    rw [hj, glacisref05_Params.j1, pF]
    by_cases h59 : atF s 59 = true
    · have h0 := size_atF h59
      have z0 := tl_lt s h0
      rw [if_pos h59, if_pos h59, if_pos (by omega), ← tl_is, blank_f (tl s) (by omega) _ (by omega)]
      simp only [Option.bind_some]
      have z1 := drp_size spP (tl s)
      rw [key_f _ (by omega) _ (by omega)]
      simp only [Option.bind_some]
      cases hK : rdKey (drpB spP (tl s)) with
      | none =>
        rw [if_neg (show ¬ (refK none).2.2 = 0 by decide)]; rfl
      | some kr =>
        obtain ⟨key, t⟩ := kr
        have z2 := key_rest hK
        rw [if_pos (show (refK (some (key, t))).2.2 = 0 from rfl)]
        have hj2 : (if (t.size : Int) > 0 then (if 0 < (t.size : Int) then (glacisref05_Params.j2 (k + 1) t l key ((bt t 0) == 61) (⟨#[]⟩ : ByteArray) 6 1 (⟨#[]⟩ : ByteArray)) else none) else (glacisref05_Params.j2 (k + 1) t l key false (⟨#[]⟩ : ByteArray) 6 1 (⟨#[]⟩ : ByteArray))) = glacisref05_Params.j2 (k + 1) t l key (atF t 61) ⟨#[]⟩ 6 1 ⟨#[]⟩ := by
          unfold atF
          by_cases h0 : 0 < t.size
          · rw [if_pos (by omega), if_pos (by omega)]
            by_cases h61 : bt t 0 = 61
            · rw [decide_eq_true ⟨h0, h61⟩, beq_iff_eq.2 h61]
            · rw [decide_eq_false (fun h => h61 h.2), beq_eq_false_iff_ne.2 h61]
          · rw [if_neg (by omega), decide_eq_false (fun h => h0 h.1)]
        refine Eq.trans hj2 ?_
        show _ = some (refP (if atF t 61 = true then (rdValue (tl t)).bind fun vr => pF d vr.2 (withP key l ⟨key, vr.1.1, vr.1.2.1, vr.1.2.2⟩) else pF d t (withP key l ⟨key, 6, 1, ⟨#[]⟩⟩)))
        rw [glacisref05_Params.j2]
        by_cases h61 : atF t 61 = true
        · have h1 := size_atF h61
          have z3 := tl_lt t h1
          rw [if_pos h61, if_pos h61, if_pos (by omega), ← tl_is, value_f (tl t) (by omega) _ (by omega)]
          simp only [Option.bind_some]
          cases hV : rdValue (tl t) with
          | none => rw [if_neg (show ¬ (refV none).2.2.2.2.2 = true by decide)]; rfl
          | some vr =>
            obtain ⟨⟨n, i, tx⟩, t3⟩ := vr
            have z4 := value_rest hV
            rw [if_pos (show (refV (some ((n, i, tx), t3))).2.2.2.2.2 = true from rfl)]
            show (Option.bind (glacisref05_With.f k l key n i tx) fun t208 => glacisref05_Params.l0 k t3 t208) = some (refP (pF d t3 (withP key l ⟨key, n, i, tx⟩)))
            rw [with_f l (by omega) hD key n i tx _ (by omega)]
            simp only [Option.bind_some]
            have zl := withP_len key l ⟨key, n, i, tx⟩
            exact params_l d t3 _ k (by omega) (by omega) (by omega) (dist_with _ _ _ rfl hD) (by omega)
        · rw [if_neg h61, if_neg h61, with_f l (by omega) hD key 6 1 ⟨#[]⟩ _ (by omega)]
          simp only [Option.bind_some]
          have zl := withP_len key l ⟨key, 6, 1, ⟨#[]⟩⟩
          exact params_l d t _ k (by omega) (by omega) (by omega) (dist_with _ _ _ rfl hD) (by omega)
    · rw [if_neg h59, if_neg h59]; rfl
theorem params_f (s : ByteArray) (hs : s.size ≤ 20000) (k : Nat) (hk : 3 * s.size + 60000 < k) : glacisref05_Params.f k s = some (refP (rdParams s)) := by
  unfold glacisref05_Params.f rdParams
  exact params_l (s.size + 1) s [] k (by omega) hs (by simpa using hs) (by unfold Dist; simp) hk
def refN (o : Option ((Int × Int × ByteArray) × List S60 × ByteArray)) : Int × Int × ByteArray × List S60 × ByteArray × Int := match o with | some (v, l, t) => (v.1, v.2.1, v.2.2, l, t, 0) | none => (0, 0, ⟨#[]⟩, [], ⟨#[]⟩, 50)
theorem next_f (s : ByteArray) (hs : s.size ≤ 20000) (k : Nat) (hk : 3 * s.size + 60000 < k) : glacisref05_Next.f k s = some (refN (rdNext s)) := by
  unfold glacisref05_Next.f rdNext
  rw [value_f s (by omega) k (by omega)]
  simp only [Option.bind_some]
  cases hV : rdValue s with
  | none => rw [if_neg (show ¬ (refV none).2.2.2.2.2 = true by decide)]; rfl
  | some vr =>
    obtain ⟨⟨n, i, tx⟩, t⟩ := vr
    have z := value_rest hV
    rw [if_pos (show (refV (some ((n, i, tx), t))).2.2.2.2.2 = true from rfl)]
    show (Option.bind (glacisref05_Params.f k t) fun bt222 => if bt222.2.2 = 0 then some (n, i, tx, bt222.1, bt222.2.1, 0) else some (0, 0, (⟨#[]⟩ : ByteArray), ([] : List (S60)), (⟨#[]⟩ : ByteArray), bt222.2.2)) = some (refN ((rdParams t).bind fun p => some ((n, i, tx), p.1, p.2)))
    rw [params_f t (by omega) k (by omega)]
    simp only [Option.bind_some]
    cases hP : rdParams t with
    | none => rw [if_neg (show ¬ (refP none).2.2 = 0 by decide)]; rfl
    | some lr =>
      obtain ⟨l, r⟩ := lr
      rw [if_pos (show (refP (some (l, r))).2.2 = 0 from rfl)]; rfl
def trimR (u : List UInt8) : List UInt8 := (u.reverse.dropWhile (· == 32)).reverse
theorem trimR_cons (c : UInt8) (u : List UInt8) : trimR (u ++ [c]) = if c = 32 then trimR u else u ++ [c] := by
  unfold trimR
  rw [List.reverse_append, List.reverse_singleton, List.singleton_append, List.dropWhile_cons]
  by_cases h : c = 32
  · rw [if_pos (by simpa using h), if_pos h]
  · rw [if_neg (by simpa using h), if_neg h]; simp
theorem trimR_head (x : UInt8) (u : List UInt8) (hx : x ≠ 32) : trimR (x :: u) = x :: trimR u := by
  unfold trimR
  rw [List.reverse_cons]
  have key : ∀ v : List UInt8, (v ++ [x]).dropWhile (· == 32) = v.dropWhile (· == 32) ++ [x] := by
    intro v
    induction v with
    | nil => rw [List.nil_append, List.dropWhile_cons, if_neg (by simpa using hx)]; rfl
    | cons y v ih =>
      rw [List.cons_append, List.dropWhile_cons, List.dropWhile_cons]
      by_cases h : (y == 32) = true
      · rw [if_pos h, if_pos h, ih]
      · rw [if_neg h, if_neg h]; rfl
  rw [key, List.reverse_append]; rfl
theorem trimR_cons32 (u : List UInt8) : (trimR (32 :: u)).dropWhile (· == 32) = (trimR u).dropWhile (· == 32) := by
  unfold trimR
  rw [List.reverse_cons]
  have key : ∀ v : List UInt8, (v ++ [32]).dropWhile (· == 32) = if v.dropWhile (· == 32) = [] then [] else v.dropWhile (· == 32) ++ [32] := by
    intro v
    induction v with
    | nil => rfl
    | cons y v ih =>
      rw [List.cons_append, List.dropWhile_cons, List.dropWhile_cons]
      by_cases h : (y == 32) = true
      · rw [if_pos h, if_pos h, ih]
      · rw [if_neg h, if_neg h, if_neg (by simp)]; rfl
  rw [key]
  by_cases h : u.reverse.dropWhile (· == 32) = []
  · rw [if_pos h, h]
  · rw [if_neg h, List.reverse_append]; simp
theorem trim_comm (u : List UInt8) : trimR (u.dropWhile (· == 32)) = (trimR u).dropWhile (· == 32) := by
  induction u with
  | nil => rfl
  | cons x u ih =>
    rw [List.dropWhile_cons]
    by_cases h : (x == 32) = true
    · have : x = 32 := by simpa using h
      subst this
      rw [if_pos h, ih, trimR_cons32]
    · rw [if_neg h, trimR_head x u (by simpa using h), List.dropWhile_cons, if_neg h]
theorem right_nil (k : Nat) (s : ByteArray) (h0 : ¬ 0 < s.size) : glacisref05_Trim.l0 (k + 1) s = some (B (trimR (L s))) := by
  rw [glacisref05_Trim.l0, if_neg (by omega)]
  congr 1
  apply L_inj
  rw [L_B, L_zero h0]; rfl
theorem last_split (s : ByteArray) (h0 : 0 < s.size) : ∃ c : UInt8, bt s ((s.size - 1 : Nat) : Int) = (c.toNat : Int) ∧ L s = L (s.extract 0 (s.size - 1)) ++ [c] := by
  have hx : s.size - 1 < (L s).length := by rw [← size_L]; omega
  refine ⟨(L s)[s.size - 1], bt_L s _ hx, ?_⟩
  rw [L_ext0, ← take_snoc (L s) (s.size - 1) hx, List.take_of_length_le (by rw [← size_L]; omega)]
theorem wrap_pred (n : Nat) (h0 : 0 < n) (h : n ≤ 100000) : wrap64 ((n : Int) - 1) = ((n - 1 : Nat) : Int) := by unfold wrap64; omega
theorem right_step (k : Nat) (s : ByteArray) (h0 : 0 < s.size) (hs : s.size ≤ 100000) : glacisref05_Trim.l0 (k + 1) s = if bt s ((s.size - 1 : Nat) : Int) = 32 then glacisref05_Trim.l0 k (s.extract 0 (s.size - 1)) else some s := by
  have p1 : ((s.size : Int)) > 0 := by omega
  have p2 : (0 : Int) ≤ (((s.size - 1 : Nat) : Int)) := by omega
  have p3 : (((s.size - 1 : Nat) : Int)) < (s.size : Int) := by omega
  have p4 : (((s.size - 1 : Nat) : Int)) ≤ (s.size : Int) := by omega
  rw [glacisref05_Trim.l0, if_pos p1, wrap_pred _ h0 hs, if_pos p2, if_pos p3, if_pos p4]
  rfl
theorem right_l : ∀ (d : Nat) (s : ByteArray) (k : Nat), s.size ≤ d → s.size ≤ 100000 → d < k → glacisref05_Trim.l0 k s = some (B (trimR (L s)))
  | 0, s, k, hd, hs, hk => by
    obtain ⟨k, rfl⟩ : ∃ k', k = k' + 1 := ⟨k - 1, by omega⟩
    exact right_nil k s (by omega)
  | d + 1, s, k, hd, hs, hk => by
    obtain ⟨k, rfl⟩ : ∃ k', k = k' + 1 := ⟨k - 1, by omega⟩
    by_cases h0 : 0 < s.size
    · obtain ⟨c, hc, el⟩ := last_split s h0
      have hz : (s.extract 0 (s.size - 1)).size + 1 = s.size := by rw [ByteArray.size_extract]; omega
      rw [right_step k s h0 hs, hc]
      by_cases h32 : (c.toNat : Int) = 32
      · rw [if_pos h32, right_l d _ k (by omega) (by omega) (by omega), el, trimR_cons, if_pos (u_eq h32)]
      · rw [if_neg h32]
        congr 1
        apply L_inj
        rw [L_B, el, trimR_cons, if_neg (fun e => h32 (by rw [e]; rfl))]
    · exact right_nil k s h0
theorem trim_f (s : ByteArray) (hs : s.size ≤ 100000) (k : Nat) (hk : s.size < k) : glacisref05_Trim.f k s = some (trimSp s) := by
  unfold glacisref05_Trim.f
  rw [blank_f s hs k hk]
  simp only [Option.bind_some]
  have z := drp_size spP s
  rw [right_l s.size _ k z (by omega) hk]
  congr 1
  apply L_inj
  have ht : L (trimSp s) = Lib.trimB (L s) 32 := by unfold trimSp L; simp
  have hp : (fun c : UInt8 => spP c.toNat) = (fun c : UInt8 => c == 32) := by
    funext c
    have := allU (fun c : UInt8 => spP c.toNat == (c == 32)) (by decide +kernel) c
    exact beq_iff_eq.1 this
  rw [L_B, ht, L_drp, hp, trim_comm]
  rfl
end Go.Proofs.YtjdbiicjfpgjkaaGreatDoor.Pl
/- Chapter 6: awake's calls, evaluated. -/
namespace Go.Proofs.YtjdbiicjfpgjkaaGreatDoor.Pl
open Go.RowKit Go.Proofs.YtjdbiicjfpgjkaaGreatDoor.Q Go.Proofs.YtjdbiicjfpgjkaaGreatDoor.Sf Go.Proofs.YtjdbiicjfpgjkaaGreatDoorW.PrintWords Go.Proofs.YtjdbiicjfpgjkaaGreatDoorW.PrintLast
set_option linter.unusedVariables false
set_option linter.unusedSimpArgs false
set_option maxRecDepth 100000
def la6 : List S34 := [⟨⟨#[]⟩, false, ⟨4, 0, ⟨#[97]⟩, []⟩, [], []⟩, ⟨⟨#[]⟩, true, ⟨0, 0, ⟨#[]⟩, []⟩, [⟨4, 0, ⟨#[98]⟩, []⟩, ⟨4, 0, ⟨#[99]⟩, []⟩], [⟨⟨#[100]⟩, 6, 1, ⟨#[]⟩⟩]⟩, ⟨⟨#[]⟩, false, ⟨3, 0, ⟨#[101]⟩, []⟩, [], []⟩]
def ld6 : List S34 := [⟨⟨#[97]⟩, true, ⟨0, 0, ⟨#[]⟩, []⟩, [⟨4, 0, ⟨#[120]⟩, []⟩], []⟩, ⟨⟨#[98]⟩, false, ⟨6, 1, ⟨#[]⟩, []⟩, [], []⟩]
theorem list_c : sfield_List.f 20 (⟨#[97, 44]⟩ : ByteArray) = some ([], 50) := by kernel_rfl
theorem list_a : sfield_List.f 20 (⟨#[97, 44, 32, 40, 98, 32, 99, 41, 59, 100, 32, 44, 32, 34, 101, 34]⟩ : ByteArray) = some (la6, 0) := by kernel_rfl
theorem dict_a : sfield_Dict.f 20 (⟨#[97, 61, 49, 44, 32, 98, 44, 32, 97, 61, 40, 120, 41]⟩ : ByteArray) = some (ld6, 0) := by kernel_rfl
theorem dictT_a : sfield_DictText.f 20 ld6 = some (⟨#[97, 61, 40, 120, 41, 44, 32, 98]⟩, 0) := by kernel_rfl
theorem awake6_20 : glacislaw06_awake.f 20 = some true := by
  unfold glacislaw06_awake.f
  rw [list_a, Option.bind_some, dict_a, Option.bind_some]
  show ((sfield_DictText.f 20 ld6).bind fun _ => _) = _
  rw [dictT_a, Option.bind_some, list_c, Option.bind_some]
  repeat rw [if_pos (by first | decide | rfl | (rw [Lib.toList_data]; rfl) | (rw [Lib.toList_data]))]
  rfl
theorem up6 {α : Type} {f : Nat → Option α} (hm : ∀ k, LeO (f k) (f (k + 1))) {k0 : Nat} {r : α} (h : f k0 = some r) : ∀ k, k0 ≤ k → f k = some r := by
  intro k hk
  induction k with
  | zero => obtain rfl : k0 = 0 := by omega
            exact h
  | succ k ih =>
    rcases Nat.lt_or_ge k k0 with c | c
    · obtain rfl : k0 = k + 1 := by omega
      exact h
    · exact hm k r (ih c)
theorem awake6 (k : Nat) (hk : 20 ≤ k) : glacislaw06_awake.f k = some true := up6 glacislaw06_awake.mono awake6_20 k hk
end Go.Proofs.YtjdbiicjfpgjkaaGreatDoor.Pl
/- Chapter 6: blanks, prefixes, as both readers spell them. -/
namespace Go.Proofs.YtjdbiicjfpgjkaaGreatDoor.Pl
open Go.RowKit Go.Proofs.YtjdbiicjfpgjkaaGreatDoor.Q Go.Proofs.YtjdbiicjfpgjkaaGreatDoor.Sf Go.Proofs.YtjdbiicjfpgjkaaGreatDoorW.PrintWords Go.Proofs.YtjdbiicjfpgjkaaGreatDoorW.PrintLast
set_option linter.unusedVariables false
set_option linter.unusedSimpArgs false
def wsP (c : Int) : Bool := c == 32 || c == 9
theorem eq_of_all (c : UInt8) : [(32 : UInt8)].contains c = spP c.toNat := by
  have := allU (fun c => decide ([(32 : UInt8)].contains c = spP c.toNat)) (by decide +kernel) c
  exact of_decide_eq_true this
theorem eq_of_all2 (c : UInt8) : [(32 : UInt8), 9].contains c = wsP c.toNat := by
  have := allU (fun c => decide ([(32 : UInt8), 9].contains c = wsP c.toNat)) (by decide +kernel) c
  exact of_decide_eq_true this
theorem trim1 (s : ByteArray) : trimLBA s ⟨#[32]⟩ = drpB spP s := by
  apply L_inj
  rw [L_drp]
  show ((⟨(Lib.trimLeftS (L s) [32]).toArray⟩ : ByteArray)).data.toList = _
  simp only [Lib.trimLeftS]
  congr 1
  funext c
  exact eq_of_all c
theorem trim2 (s : ByteArray) : trimLBA s ⟨#[32, 9]⟩ = drpB wsP s := by
  apply L_inj
  rw [L_drp]
  show ((⟨(Lib.trimLeftS (L s) [32, 9]).toArray⟩ : ByteArray)).data.toList = _
  simp only [Lib.trimLeftS]
  congr 1
  funext c
  exact eq_of_all2 c
theorem trimL1_f (s : ByteArray) (hs : s.size ≤ 281474976710656) : strings_TrimLeft.f s ⟨#[32]⟩ = some (drpB spP s) := by
  unfold strings_TrimLeft.f
  rw [if_pos ⟨.inl rfl, hs⟩, trim1]
theorem trimL2_f (s : ByteArray) (hs : s.size ≤ 281474976710656) : strings_TrimLeft.f s ⟨#[32, 9]⟩ = some (drpB wsP s) := by
  unfold strings_TrimLeft.f
  rw [if_pos ⟨.inr rfl, hs⟩, trim2]
theorem cut_f (s : ByteArray) (n : UInt8) : strings_CutPrefix.f s ⟨#[n]⟩ = some (if atF s n.toNat = true then (tl s, true) else (s, false)) := by
  unfold strings_CutPrefix.f stringslite_CutPrefix.f stringslite_HasPrefix.f
  have h1 : (⟨#[n]⟩ : ByteArray).size = 1 := rfl
  by_cases hz : 0 < s.size
  · obtain ⟨c, r, hc⟩ := cons_of s hz
    have e1 : (s.extract 0 1).toList = [c] := by rw [L_toList, L_ext0, hc]; rfl
    have e2 : (⟨#[n]⟩ : ByteArray).toList = [n] := by rw [L_toList]; rfl
    rw [if_pos (by rw [h1]; omega), if_pos (by rw [h1]; omega), if_pos (by rw [h1]; omega)]
    show ((some ((s.extract 0 1).toList == (⟨#[n]⟩ : ByteArray).toList)).bind _).bind _ = _
    rw [e1, e2, atF_cons hc]
    by_cases h : c = n
    · subst h
      simp only [Option.bind_some, beq_self_eq_true, if_true, decide_true]
      rw [if_pos (by rw [h1]; omega), if_pos (by rw [h1]; omega)]
      rfl
    · have h2 : ¬ ((c.toNat : Int) = (n.toNat : Int)) := fun e => h (u_eq e)
      have h3 : ([c] == [n]) = false := by simp [h]
      simp only [Option.bind_some, h3, h2, decide_false]
      rfl
  · have h0 : s.size = 0 := by omega
    have h2 : atF s n.toNat = false := decide_eq_false (fun h => hz h.1)
    rw [if_neg (by rw [h1]; omega), h2]
    rfl
theorem tabs_nil (k : Nat) (s : ByteArray) (h0 : ¬ 0 < s.size) : glacisref06_tabs.l0 (k + 1) s = some (drpB wsP s) := by
  rw [glacisref06_tabs.l0, if_neg (by omega)]
  congr 1
  apply L_inj
  rw [L_drp, L_zero h0]
  rfl
theorem tabs_stay (k : Nat) (s : ByteArray) (h0 : 0 < s.size) (h : ¬ (bt s 0 = 32 ∨ bt s 0 = 9)) : glacisref06_tabs.l0 (k + 1) s = some (drpB wsP s) := by
  obtain ⟨c, r, hc⟩ := cons_of s h0
  rw [glacisref06_tabs.l0, if_pos (by omega), if_pos (by omega), if_neg (fun e => h (.inl e)), if_neg (fun e => h (.inr e))]
  congr 1
  apply L_inj
  rw [bt0 hc] at h
  rw [L_drp, hc, List.dropWhile_cons_of_neg (by simpa [wsP] using h)]
theorem tabs_go (k : Nat) (s : ByteArray) (h0 : 0 < s.size) (h : bt s 0 = 32 ∨ bt s 0 = 9) : glacisref06_tabs.l0 (k + 1) s = glacisref06_tabs.l0 k (tl s) ∧ drpB wsP s = drpB wsP (tl s) := by
  obtain ⟨c, r, hc⟩ := cons_of s h0
  constructor
  · rw [glacisref06_tabs.l0, if_pos (by omega), if_pos (by omega)]
    by_cases h1 : bt s 0 = 32
    · rw [if_pos h1, if_pos (by omega)]; rfl
    · rw [if_neg h1, if_pos (h.resolve_left h1), if_pos (by omega)]; rfl
  · apply L_inj
    rw [bt0 hc] at h
    rw [L_drp, L_drp, L_tl, hc, List.dropWhile_cons_of_pos (by simpa [wsP] using h)]
    rfl
theorem tabs_l : ∀ (d : Nat) (s : ByteArray) (k : Nat), s.size ≤ d → d < k → glacisref06_tabs.l0 k s = some (drpB wsP s) := by
  intro d
  induction d with
  | zero =>
    intro s k hs hk
    obtain ⟨k, rfl⟩ : ∃ j, k = j + 1 := ⟨k - 1, by omega⟩
    exact tabs_nil k s (by omega)
  | succ d ih =>
    intro s k hs hk
    obtain ⟨k, rfl⟩ : ∃ j, k = j + 1 := ⟨k - 1, by omega⟩
    by_cases h0 : 0 < s.size
    · by_cases h : bt s 0 = 32 ∨ bt s 0 = 9
      · obtain ⟨e1, e2⟩ := tabs_go k s h0 h
        rw [e1, e2]
        exact ih _ _ (by rw [size_tl]; omega) (by omega)
      · exact tabs_stay k s h0 h
    · exact tabs_nil k s h0
theorem tabs_f (s : ByteArray) (k : Nat) (hk : s.size < k) : glacisref06_tabs.f k s = some (drpB wsP s) := tabs_l s.size s k (Nat.le_refl _) hk
theorem drp_size (p : Int → Bool) (s : ByteArray) : (drpB p s).size ≤ s.size := by
  unfold drpB
  rw [ByteArray.size_extract]
  omega
end Go.Proofs.YtjdbiicjfpgjkaaGreatDoor.Pl
/- Chapter 6: a member, as both readers read it. -/
namespace Go.Proofs.YtjdbiicjfpgjkaaGreatDoor.Pl
open Go.RowKit Go.Proofs.YtjdbiicjfpgjkaaGreatDoor.Q Go.Proofs.YtjdbiicjfpgjkaaGreatDoor.Sf Go.Proofs.YtjdbiicjfpgjkaaGreatDoorW.PrintWords Go.Proofs.YtjdbiicjfpgjkaaGreatDoorW.PrintLast
set_option linter.unusedVariables false
set_option linter.unusedSimpArgs false
def itm (v : Int × Int × ByteArray) (l : List S60) : S31 := ⟨v.1, v.2.1, v.2.2, l⟩
def mIn (its : List S31) (l : List S60) : S34 := ⟨⟨#[]⟩, true, ⟨0, 0, ⟨#[]⟩, []⟩, its, l⟩
def mIt (x : S31) : S34 := ⟨⟨#[]⟩, false, x, [], []⟩
def rdInner : Nat → ByteArray → List S31 → Option ((List S31 × List S60) × ByteArray)
  | 0, _, _ => none
  | d + 1, s, its => if atF (drpB spP s) 41 = true then (rdParams (tl (drpB spP s))).bind fun p => some ((its, p.1), p.2)
    else (rdNext (drpB spP s)).bind fun x => if its ≠ [] ∧ drpB spP s = s then none else rdInner d x.2.2 (its ++ [itm x.1 x.2.1])
def rdMember (s : ByteArray) : Option (S34 × ByteArray) :=
  if atF s 40 = true then (rdInner s.size (tl s) []).bind fun x => some (mIn x.1.1 x.1.2, x.2) else (rdNext s).bind fun x => some (mIt (itm x.1 x.2.1), x.2.2)
def rdKeyed (s : ByteArray) : Option (S34 × ByteArray) :=
  (rdKey s).bind fun k => if atF k.2 61 = true then (rdMember (tl k.2)).bind fun x => some ({ x.1 with f0 := k.1 }, x.2)
    else (rdParams k.2).bind fun p => some (⟨k.1, false, ⟨6, 1, ⟨#[]⟩, p.1⟩, [], []⟩, p.2)
theorem next_lt {s : ByteArray} {v : Int × Int × ByteArray} {l : List S60} {t : ByteArray} (h : rdNext s = some (v, l, t)) : t.size < s.size ∧ l.length ≤ s.size := by
  obtain ⟨u, e, hi, _⟩ := next_inv h
  have h1 := hi.pos
  have h2 := it_count hi
  have h3 : s.size = u.length + t.size := by rw [size_L, size_L, e, List.length_append]
  omega
theorem params_le {s : ByteArray} {l : List S60} {t : ByteArray} (h : rdParams s = some (l, t)) : t.size ≤ s.size ∧ l.length ≤ s.size := by
  obtain ⟨u, e, hi, _⟩ := pt_inv _ _ _ _ _ h
  have h2 := pt_count hi
  have h3 : s.size = u.length + t.size := by rw [size_L, size_L, e, List.length_append]
  simp only [List.length_nil] at h2
  omega
theorem key_le {s k t : ByteArray} (h : rdKey s = some (k, t)) : t.size < s.size ∧ k.size ≤ s.size := by
  obtain ⟨e, c, w, hk, _⟩ := key_inv h
  have h3 : s.size = k.size + t.size := by rw [size_L, size_L k, size_L t, e, List.length_append]
  have h4 : 0 < k.size := by rw [size_L, hk]; simp
  omega
theorem drp_same {p : Int → Bool} {s : ByteArray} : (drpB p s).size = s.size ↔ drpB p s = s := by
  constructor
  · intro h
    apply L_inj
    rw [L_drp]
    refine (List.dropWhile_sublist _).eq_of_length ?_
    rw [← L_drp, ← size_L, h, size_L]
  · intro h; rw [h]
theorem atF_pos {s : ByteArray} {c : Int} (h : atF s c = true) : 0 < s.size := (of_decide_eq_true h).1
theorem inner_lt : ∀ (d : Nat) (s : ByteArray) (its : List S31) (q : List S31 × List S60) (r : ByteArray), rdInner d s its = some (q, r) →
    r.size < s.size ∧ q.2.length ≤ s.size ∧ q.1.length ≤ its.length + s.size ∧ ∀ x ∈ q.1, x ∈ its ∨ x.f3.length ≤ s.size
  | 0, _, _, _, _, h => by cases h
  | d + 1, s, its, q, r, h => by
    have hd := drp_size spP s
    rw [rdInner] at h
    split at h
    · rename_i ha
      obtain ⟨⟨l, t⟩, hp, h⟩ := Option.bind_eq_some_iff.1 h
      obtain ⟨rfl, rfl⟩ := Prod.mk.inj (Option.some.inj h)
      have h1 := params_le hp
      have h2 := atF_pos ha
      rw [size_tl] at h1
      dsimp only
      exact ⟨by omega, by omega, by omega, fun x hx => .inl hx⟩
    · obtain ⟨⟨v, l, t⟩, hp, h⟩ := Option.bind_eq_some_iff.1 h
      split at h
      · cases h
      · have h1 := next_lt hp
        obtain ⟨i1, i2, i3, i4⟩ := inner_lt d _ _ _ _ h
        dsimp only at i1 i2 i3 i4
        simp only [List.length_append, List.length_singleton] at i3
        refine ⟨by omega, by omega, by omega, fun x hx => ?_⟩
        rcases i4 x hx with h5 | h5
        · rcases List.mem_append.1 h5 with h6 | h6
          · exact .inl h6
          · rw [List.mem_singleton.1 h6]; exact .inr (by show l.length ≤ _; omega)
        · exact .inr (by omega)
def Fit (n : Nat) (m : S34) : Prop := m.f2.f3.length ≤ n ∧ m.f3.length ≤ n ∧ m.f4.length ≤ n ∧ (∀ i ∈ m.f3, i.f3.length ≤ n) ∧ m.f0.size ≤ n
theorem Fit.mono {n n' : Nat} {m : S34} (h : Fit n m) (hn : n ≤ n') : Fit n' m := ⟨by have := h.1; omega, by have := h.2.1; omega, by have := h.2.2.1; omega, fun i hi => by have := h.2.2.2.1 i hi; omega, by have := h.2.2.2.2; omega⟩
theorem member_lt {s : ByteArray} {m : S34} {r : ByteArray} (h : rdMember s = some (m, r)) : r.size < s.size ∧ Fit s.size m := by
  unfold rdMember at h
  split at h
  · rename_i ha
    obtain ⟨⟨⟨its, l⟩, t⟩, hp, h⟩ := Option.bind_eq_some_iff.1 h
    obtain ⟨rfl, rfl⟩ := Prod.mk.inj (Option.some.inj h)
    obtain ⟨i1, i2, i3, i4⟩ := inner_lt _ _ _ _ _ hp
    have h2 := atF_pos ha
    rw [size_tl] at i1 i2 i3 i4
    dsimp only at i1 i2 i3 i4
    simp only [List.length_nil] at i3
    refine ⟨by dsimp only; omega, by show (0 : Nat) ≤ _; omega, by show its.length ≤ _; omega, by show l.length ≤ _; omega, fun x hx => ?_, Nat.zero_le _⟩
    rcases i4 x hx with h5 | h5
    · cases h5
    · omega
  · obtain ⟨⟨v, l, t⟩, hp, h⟩ := Option.bind_eq_some_iff.1 h
    obtain ⟨rfl, rfl⟩ := Prod.mk.inj (Option.some.inj h)
    have h1 := next_lt hp
    exact ⟨h1.1, by show l.length ≤ _; have := h1.2; omega, Nat.zero_le _, Nat.zero_le _, (fun x hx => by cases hx), Nat.zero_le _⟩
theorem keyed_lt {s : ByteArray} {m : S34} {r : ByteArray} (h : rdKeyed s = some (m, r)) : r.size < s.size ∧ Fit s.size m := by
  unfold rdKeyed at h
  obtain ⟨⟨k, t⟩, hk, h⟩ := Option.bind_eq_some_iff.1 h
  have h1 := key_le hk
  split at h
  · rename_i ha
    obtain ⟨⟨m', r'⟩, hm, h⟩ := Option.bind_eq_some_iff.1 h
    obtain ⟨rfl, rfl⟩ := Prod.mk.inj (Option.some.inj h)
    have h2 := member_lt hm
    have h3 := atF_pos ha
    rw [size_tl] at h2
    dsimp only at h1 h2
    have h4 := h2.2.mono (n' := s.size) (by omega)
    exact ⟨by dsimp only; omega, h4.1, h4.2.1, h4.2.2.1, h4.2.2.2.1, h1.2⟩
  · obtain ⟨⟨l, t'⟩, hp, h⟩ := Option.bind_eq_some_iff.1 h
    obtain ⟨rfl, rfl⟩ := Prod.mk.inj (Option.some.inj h)
    have h2 := params_le hp
    dsimp only at h1 h2
    exact ⟨by dsimp only; omega, by show l.length ≤ _; omega, Nat.zero_le _, Nat.zero_le _, (fun x hx => by cases hx), h1.2⟩
end Go.Proofs.YtjdbiicjfpgjkaaGreatDoor.Pl
/- Chapter 6: the program's reader and the document's, of one member. -/
namespace Go.Proofs.YtjdbiicjfpgjkaaGreatDoor.Pl
open Go.RowKit Go.Proofs.YtjdbiicjfpgjkaaGreatDoor.Q Go.Proofs.YtjdbiicjfpgjkaaGreatDoor.Sf Go.Proofs.YtjdbiicjfpgjkaaGreatDoorW.PrintWords Go.Proofs.YtjdbiicjfpgjkaaGreatDoorW.PrintLast
set_option linter.unusedVariables false
set_option linter.unusedSimpArgs false
def encM (m : S34) (r : ByteArray) : Ten := (m.f0, m.f1, m.f2.f0, m.f2.f1, m.f2.f2, m.f2.f3, m.f3, m.f4, r, 0)
def encB (m : S34) (r : ByteArray) : TenB := (m.f0, m.f1, m.f2.f0, m.f2.f1, m.f2.f2, m.f2.f3, m.f3, m.f4, r, true)
def Told (n : Nat) (x : Ten) (o : Option (S34 × ByteArray)) : Prop := match o with
  | some (m, r) => x = encM m r
  | none => errOf x = 50 ∧ restOf x = ⟨#[]⟩ ∧ x.1.size ≤ n
def ToldB (x : TenB) (o : Option (S34 × ByteArray)) : Prop := match o with
  | some (m, r) => x = encB m r
  | none => x.2.2.2.2.2.2.2.2.2 = false
theorem sp_size (s : ByteArray) : (drpB spP s).size ≤ s.size := drp_size spP s
theorem next_s (s : ByteArray) (hs : s.size ≤ 2199023255552) : sfitem_Next.f s = some (refN (rdNext s)) := by
  unfold sfitem_Next.f
  rw [if_pos hs]
  cases rdNext s with
  | none => rfl
  | some x => rfl
theorem params_s (s : ByteArray) (hs : s.size ≤ 2199023255552) : sfitem_Params.f s = some (refP (rdParams s)) := by
  unfold sfitem_Params.f
  rw [if_pos hs]
  cases rdParams s with
  | none => rfl
  | some x => rfl
theorem inner_s : ∀ (d : Nat) (s : ByteArray) (its : List S31) (k : Nat), s.size < d → s.size ≤ 20000 → its.length + s.size ≤ 20000 → d ≤ k →
    ∃ x, sfield_inner.l0 k s ⟨#[]⟩ true 0 0 ⟨#[]⟩ its = some x ∧ Told 0 x ((rdInner d s its).bind fun q => some (mIn q.1.1 q.1.2, q.2))
  | 0, _, _, _, h, _, _, _ => absurd h (by omega)
  | d + 1, s, its, k, hd, hs, hl, hk => by
    obtain ⟨k, rfl⟩ : ∃ k', k = k' + 1 := ⟨k - 1, by omega⟩
    have hz := sp_size s
    rw [sfield_inner.l0, trimL1_f s (by omega), Option.bind_some, cut_f, Option.bind_some, rdInner]
    by_cases ha : atF (drpB spP s) 41 = true
    · have ha2 : atF (drpB spP s) ((41 : UInt8).toNat : Int) = true := ha
      rw [if_pos ha2, if_pos ha]
      dsimp only
      rw [if_pos rfl, params_s _ (by rw [size_tl]; omega), Option.bind_some]
      cases rdParams (tl (drpB spP s)) with
      | none => exact ⟨_, rfl, rfl, rfl, Nat.le_refl _⟩
      | some p => exact ⟨_, rfl, rfl⟩
    · have ha2 : ¬ atF (drpB spP s) ((41 : UInt8).toNat : Int) = true := ha
      rw [if_neg ha2, if_neg ha]
      dsimp only
      rw [if_neg (by decide), next_s _ (by omega), Option.bind_some]
      cases hn : rdNext (drpB spP s) with
      | none => exact ⟨_, by rw [refN]; dsimp only; rw [if_neg (by decide)], rfl, rfl, Nat.le_refl _⟩
      | some x =>
        obtain ⟨v, l, t⟩ := x
        have h1 := next_lt hn
        simp only [refN, Option.bind_some]
        rw [if_pos trivial]
        by_cases hi : its ≠ []
        · have h2 : (its.length : Int) > 0 := by
            have : 0 < its.length := List.length_pos_iff.2 hi
            omega
          rw [if_pos h2]
          by_cases he : drpB spP s = s
          · rw [if_pos (by rw [he]), if_pos ⟨hi, he⟩]
            exact ⟨_, rfl, rfl, rfl, Nat.le_refl _⟩
          · rw [if_neg (fun e => he (toList_inj.1 e)), if_pos (by omega), if_neg (fun e => he e.2)]
            exact inner_s d t _ k (by omega) (by omega) (by rw [List.length_append, List.length_singleton]; omega) (by omega)
        · have h2 : ¬ (its.length : Int) > 0 := by
            have : its = [] := Classical.not_not.1 hi
            rw [this]; decide
          rw [if_neg h2, if_pos (by omega), if_neg (fun e => hi e.1)]
          exact inner_s d t _ k (by omega) (by omega) (by rw [List.length_append, List.length_singleton]; omega) (by omega)
theorem size_same (s : ByteArray) : (((drpB spP s).size : Int) == (s.size : Int)) = decide (drpB spP s = s) := by
  have h := @drp_same spP s
  by_cases he : drpB spP s = s
  · rw [he]; simp
  · have h2 : ¬ (drpB spP s).size = s.size := fun e => he (h.1 e)
    simp [he]; omega
theorem inner_r : ∀ (d : Nat) (s : ByteArray) (its : List S31) (k : Nat), s.size < d → s.size ≤ 20000 → its.length + s.size ≤ 20000 → 3 * s.size + 60000 + 2 * d < k →
    ∃ x, glacisref06_inner.l0 k s ⟨#[]⟩ true 0 0 ⟨#[]⟩ its = some x ∧ ToldB x ((rdInner d s its).bind fun q => some (mIn q.1.1 q.1.2, q.2))
  | 0, _, _, _, h, _, _, _ => absurd h (by omega)
  | d + 1, s, its, k, hd, hs, hl, hk => by
    obtain ⟨k, rfl⟩ : ∃ k', k = k' + 1 + 1 := ⟨k - 2, by omega⟩
    have hz := sp_size s
    rw [glacisref06_inner.l0, blank_f s (by omega) _ (by omega), Option.bind_some, rdInner]
    by_cases h0 : 0 < (drpB spP s).size
    · rw [if_neg (by rw [L_toList]; intro e; exact size_nil e h0), if_pos (by omega)]
      by_cases ha : atF (drpB spP s) 41 = true
      · have hb : bt (drpB spP s) 0 = 41 := (of_decide_eq_true ha).2
        rw [if_pos hb, if_pos (by omega), if_pos ha]
        have e1 : (drpB spP s).extract 1 (drpB spP s).size = tl (drpB spP s) := rfl
        rw [e1, params_f _ (by rw [size_tl]; omega) _ (by rw [size_tl]; omega), Option.bind_some]
        cases rdParams (tl (drpB spP s)) with
        | none => exact ⟨_, rfl, rfl⟩
        | some p => exact ⟨_, rfl, rfl⟩
      · have hb : ¬ bt (drpB spP s) 0 = 41 := fun e => ha (decide_eq_true ⟨h0, e⟩)
        rw [if_neg hb, if_neg ha]
        have key : ∀ b : Bool, (b = true → its ≠ [] ∧ drpB spP s = s) → (b = false → ¬ (its ≠ [] ∧ drpB spP s = s)) → ∃ x, glacisref06_inner.j1 (k + 1) (drpB spP s) b ⟨#[]⟩ true 0 0 ⟨#[]⟩ its = some x ∧ ToldB x (((rdNext (drpB spP s)).bind fun x => if its ≠ [] ∧ drpB spP s = s then none else rdInner d x.2.2 (its ++ [itm x.1 x.2.1])).bind fun q => some (mIn q.1.1 q.1.2, q.2)) := by
          intro b hb1 hb2
          rw [glacisref06_inner.j1]
          cases b with
          | true =>
            rw [if_pos rfl]
            refine ⟨_, rfl, ?_⟩
            cases rdNext (drpB spP s) with
            | none => rfl
            | some x => rw [Option.bind_some, if_pos (hb1 rfl)]; rfl
          | false =>
            rw [if_neg (by decide), next_f _ (by omega) _ (by omega), Option.bind_some]
            cases hn : rdNext (drpB spP s) with
            | none =>
              refine ⟨_, by rw [refN]; dsimp only; rw [if_neg (by decide)], ?_⟩
              rfl
            | some x =>
              obtain ⟨v, l, t⟩ := x
              have h1 := next_lt hn
              simp only [refN, Option.bind_some]
              rw [if_pos trivial, if_pos (by omega), if_neg (hb2 rfl)]
              exact inner_r d t _ k (by omega) (by omega) (by rw [List.length_append, List.length_singleton]; omega) (by omega)
        by_cases hi : its ≠ []
        · have h2 : (its.length : Int) > 0 := by
            have : 0 < its.length := List.length_pos_iff.2 hi
            omega
          rw [if_pos h2, size_same]
          exact key _ (fun e => ⟨hi, of_decide_eq_true e⟩) (fun e h => (of_decide_eq_false e) h.2)
        · have h2 : ¬ (its.length : Int) > 0 := by
            have : its = [] := Classical.not_not.1 hi
            rw [this]; decide
          rw [if_neg h2]
          exact key false (fun e => by cases e) (fun _ h => hi h.1)
    · rw [if_pos (by rw [L_toList]; exact L_zero h0)]
      refine ⟨_, rfl, ?_⟩
      have ha : ¬ atF (drpB spP s) 41 = true := fun e => h0 (atF_pos e)
      rw [if_neg ha]
      cases hn : rdNext (drpB spP s) with
      | none => rfl
      | some x => have := (next_lt (v := x.1) (l := x.2.1) (t := x.2.2) hn).1; omega
theorem member_s (s : ByteArray) (hs : s.size ≤ 20000) (k : Nat) (hk : s.size + 1 ≤ k) : ∃ x, sfield_member.f k s = some x ∧ Told 0 x (rdMember s) := by
  unfold sfield_member.f rdMember
  rw [cut_f, Option.bind_some]
  by_cases ha : atF s 40 = true
  · have ha2 : atF s ((40 : UInt8).toNat : Int) = true := ha
    have h0 := atF_pos ha
    rw [if_pos ha2, if_pos ha]
    dsimp only
    rw [if_pos rfl]
    unfold sfield_inner.f
    obtain ⟨x, hx, ht⟩ := inner_s s.size (tl s) [] k (by rw [size_tl]; omega) (by rw [size_tl]; omega) (by rw [size_tl]; simp; omega) (by omega)
    rw [hx, Option.bind_some]
    exact ⟨_, rfl, ht⟩
  · have ha2 : ¬ atF s ((40 : UInt8).toNat : Int) = true := ha
    rw [if_neg ha2, if_neg ha]
    dsimp only
    rw [if_neg (by decide), next_s s (by omega), Option.bind_some]
    cases rdNext s with
    | none => exact ⟨_, rfl, rfl, rfl, Nat.le_refl _⟩
    | some x => exact ⟨_, rfl, rfl⟩
theorem member_r (s : ByteArray) (hs : s.size ≤ 20000) (k : Nat) (hk : 200000 < k) : ∃ x, glacisref06_member.f k s = some x ∧ ToldB x (rdMember s) := by
  obtain ⟨k, rfl⟩ : ∃ k', k = k' + 1 := ⟨k - 1, by omega⟩
  unfold glacisref06_member.f rdMember
  have next : ∃ x, (glacisref05_Next.f k s).bind (fun bt344 => (some ((⟨#[]⟩ : ByteArray), false, bt344.1, bt344.2.1, bt344.2.2.1, bt344.2.2.2.1, ([] : List S31), ([] : List S60), bt344.2.2.2.2.1, (bt344.2.2.2.2.2 == 0)) : Option TenB)) = some x ∧ ToldB x ((rdNext s).bind fun x => some (mIt (itm x.1 x.2.1), x.2.2)) := by
    rw [next_f s hs k (by omega), Option.bind_some]
    cases rdNext s with
    | none => exact ⟨_, rfl, rfl⟩
    | some x => exact ⟨_, rfl, rfl⟩
  by_cases h0 : 0 < s.size
  · rw [if_pos (by omega), if_pos (by omega)]
    by_cases ha : bt s 0 = 40
    · have ha1 : atF s 40 = true := decide_eq_true ⟨h0, ha⟩
      rw [ha, glacisref06_member.j0, if_pos (by decide), if_pos (by omega), if_pos ha1]
      unfold glacisref06_inner.f
      obtain ⟨x, hx, ht⟩ := inner_r s.size (tl s) [] k (by rw [size_tl]; omega) (by rw [size_tl]; omega) (by rw [size_tl]; simp; omega) (by rw [size_tl]; omega)
      have e1 : s.extract 1 s.size = tl s := rfl
      rw [e1, hx, Option.bind_some]
      exact ⟨_, rfl, ht⟩
    · have ha1 : ¬ atF s 40 = true := fun e => ha (of_decide_eq_true e).2
      have ha2 : (bt s 0 == 40) = false := by simpa using ha
      rw [ha2, glacisref06_member.j0, if_neg (by decide), if_neg ha1]
      exact next
  · have ha1 : ¬ atF s 40 = true := fun e => h0 (atF_pos e)
    rw [if_neg (by omega), glacisref06_member.j0, if_neg (by decide), if_neg ha1]
    exact next
theorem keyed_s (s : ByteArray) (hs : s.size ≤ 20000) (k : Nat) (hk : s.size + 1 ≤ k) : ∃ x, sfield_keyed.f k s = some x ∧ Told s.size x (rdKeyed s) := by
  unfold sfield_keyed.f rdKeyed sfitem_Key.f
  rw [if_pos (by omega), Option.bind_some]
  unfold keyF
  cases hr : rdKey s with
  | none => exact ⟨_, by dsimp only; rw [if_neg (by decide)], rfl, rfl, Nat.zero_le _⟩
  | some x =>
    obtain ⟨ky, t⟩ := x
    have h1 := key_le hr
    dsimp only
    rw [if_pos rfl, cut_f, Option.bind_some, Option.bind_some]
    dsimp only
    by_cases ha : atF t 61 = true
    · have ha2 : atF t ((61 : UInt8).toNat : Int) = true := ha
      have h0 := atF_pos ha
      rw [if_pos ha2, if_pos ha]
      dsimp only
      rw [if_pos rfl]
      obtain ⟨x, hx, ht⟩ := member_s (tl t) (by rw [size_tl]; omega) k (by rw [size_tl]; omega)
      rw [hx, Option.bind_some]
      refine ⟨_, rfl, ?_⟩
      cases hm : rdMember (tl t) with
      | none =>
        rw [hm] at ht
        exact ⟨ht.1, ht.2.1, h1.2⟩
      | some y =>
        rw [hm] at ht
        have ht2 : x = encM y.1 y.2 := ht
        rw [ht2]
        rfl
    · have ha2 : ¬ atF t ((61 : UInt8).toNat : Int) = true := ha
      rw [if_neg ha2, if_neg ha]
      dsimp only
      rw [if_neg (by decide), params_s t (by omega), Option.bind_some]
      refine ⟨_, rfl, ?_⟩
      cases rdParams t with
      | none => exact ⟨rfl, rfl, h1.2⟩
      | some p => rfl
theorem keyed_r (s : ByteArray) (hs : s.size ≤ 20000) (k : Nat) (hk : 200100 < k) : ∃ x, glacisref06_keyed.f k s = some x ∧ ToldB x (rdKeyed s) := by
  obtain ⟨k, rfl⟩ : ∃ k', k = k' + 1 := ⟨k - 1, by omega⟩
  unfold glacisref06_keyed.f rdKeyed
  rw [key_f s (by omega) _ (by omega), Option.bind_some]
  cases hr : rdKey s with
  | none =>
    refine ⟨_, by rw [refK]; dsimp only; rw [if_neg (by decide)], ?_⟩
    rfl
  | some x =>
    obtain ⟨ky, t⟩ := x
    have h1 := key_le hr
    rw [show refK (some (ky, t)) = (ky, t, 0) from rfl, Option.bind_some]
    dsimp only
    rw [if_pos rfl]
    have params : ∃ x, (glacisref05_Params.f k t).bind (fun bt374 => (some (ky, false, 6, 1, (⟨#[]⟩ : ByteArray), bt374.1, ([] : List S31), ([] : List S60), bt374.2.1, (bt374.2.2 == 0)) : Option TenB)) = some x ∧ ToldB x ((rdParams t).bind fun p => some (⟨ky, false, ⟨6, 1, ⟨#[]⟩, p.1⟩, [], []⟩, p.2)) := by
      rw [params_f t (by omega) k (by omega), Option.bind_some]
      cases rdParams t with
      | none => exact ⟨_, rfl, rfl⟩
      | some x => exact ⟨_, rfl, rfl⟩
    by_cases h0 : 0 < t.size
    · rw [if_pos (by omega), if_pos (by omega)]
      by_cases ha : bt t 0 = 61
      · have ha1 : atF t 61 = true := decide_eq_true ⟨h0, ha⟩
        rw [ha, glacisref06_keyed.j0, if_pos (by decide), if_pos (by omega), if_pos ha1]
        have e1 : t.extract 1 t.size = tl t := rfl
        obtain ⟨x, hx, ht⟩ := member_r (tl t) (by rw [size_tl]; omega) k (by omega)
        rw [e1, hx, Option.bind_some]
        refine ⟨_, rfl, ?_⟩
        cases hm : rdMember (tl t) with
        | none => rw [hm] at ht; exact ht
        | some y =>
          rw [hm] at ht
          have ht2 : x = encB y.1 y.2 := ht
          rw [ht2]
          rfl
      · have ha1 : ¬ atF t 61 = true := fun e => ha (of_decide_eq_true e).2
        have ha2 : (bt t 0 == 61) = false := by simpa using ha
        rw [ha2, glacisref06_keyed.j0, if_neg (by decide), if_neg ha1]
        exact params
    · have ha1 : ¬ atF t 61 = true := fun e => h0 (atF_pos e)
      rw [if_neg (by omega), glacisref06_keyed.j0, if_neg (by decide), if_neg ha1]
      exact params
end Go.Proofs.YtjdbiicjfpgjkaaGreatDoor.Pl
/- Chapter 6: lists and dictionaries, as both readers read them. -/
namespace Go.Proofs.YtjdbiicjfpgjkaaGreatDoor.Pl
open Go.RowKit Go.Proofs.YtjdbiicjfpgjkaaGreatDoor.Q Go.Proofs.YtjdbiicjfpgjkaaGreatDoor.Sf Go.Proofs.YtjdbiicjfpgjkaaGreatDoorW.PrintWords Go.Proofs.YtjdbiicjfpgjkaaGreatDoorW.PrintLast
set_option linter.unusedVariables false
set_option linter.unusedSimpArgs false
def aftR (r : ByteArray) : ByteArray := drpB wsP r
def nxtR (r : ByteArray) : ByteArray := drpB wsP (tl (drpB wsP r))
def rdAll (rd : ByteArray → Option (S34 × ByteArray)) : Nat → ByteArray → Option (List S34)
  | 0, _ => none
  | d + 1, s => if s.toList = [] then some [] else (rd s).bind fun x =>
    if (aftR x.2).toList = [] then some [x.1] else if atF (aftR x.2) 44 = true ∧ (nxtR x.2).toList ≠ [] then (rdAll rd d (nxtR x.2)).bind fun l => some (x.1 :: l) else none
def Less (rd : ByteArray → Option (S34 × ByteArray)) : Prop := ∀ s m r, rd s = some (m, r) → r.size < s.size ∧ Fit s.size m
theorem less_m : Less rdMember := fun _ _ _ h => member_lt h
theorem less_k : Less rdKeyed := fun _ _ _ h => keyed_lt h
theorem aft_size (r : ByteArray) : (aftR r).size ≤ r.size := drp_size _ _
theorem nxt_size (r : ByteArray) : (nxtR r).size ≤ r.size - 1 := by
  have h1 := drp_size wsP (tl (drpB wsP r))
  have h2 := drp_size wsP r
  rw [size_tl] at h1
  show (drpB wsP (tl (drpB wsP r))).size ≤ _
  omega
theorem all_fit {rd : ByteArray → Option (S34 × ByteArray)} (hl : Less rd) : ∀ (d : Nat) (s : ByteArray) (l : List S34), rdAll rd d s = some l → l.length ≤ s.size ∧ ∀ m ∈ l, Fit s.size m
  | 0, _, _, h => by cases h
  | d + 1, s, l, h => by
    rw [rdAll] at h
    split at h
    · obtain rfl := Option.some.inj h
      exact ⟨Nat.zero_le _, fun m hm => by cases hm⟩
    · obtain ⟨⟨m, r⟩, hx, h⟩ := Option.bind_eq_some_iff.1 h
      obtain ⟨h1, h2⟩ := hl _ _ _ hx
      split at h
      · obtain rfl := Option.some.inj h
        exact ⟨by simp; omega, fun q hq => by rw [List.mem_singleton.1 hq]; exact h2⟩
      · split at h
        · obtain ⟨l', hl', h⟩ := Option.bind_eq_some_iff.1 h
          obtain rfl := Option.some.inj h
          obtain ⟨i1, i2⟩ := all_fit hl d _ _ hl'
          have h3 := nxt_size r
          refine ⟨by simp only [List.length_cons]; dsimp only at i1; omega, fun q hq => ?_⟩
          rcases List.mem_cons.1 hq with rfl | hq
          · exact h2
          · exact (i2 q hq).mono (by dsimp only; omega)
        · cases h
def cutR (r : ByteArray) : ByteArray × Bool := if atF (aftR r) 44 = true then (tl (aftR r), true) else (aftR r, false)
theorem mem1_eq {nx : ByteArray → Option Ten} {s : ByteArray} {x : Ten} (hx : nx s = some x) (hr : (restOf x).size ≤ 100000) :
    mem1 nx s = some ((memOf x, if errOf x = 0 ∧ (aftR (restOf x)).toList ≠ [] ∧ ((cutR (restOf x)).2 = false ∨ (drpB wsP (cutR (restOf x)).1).toList = []) then 50 else errOf x), drpB wsP (cutR (restOf x)).1, decide ((aftR (restOf x)).toList = [])) := by
  have h1 := aft_size (restOf x)
  have h2 : (cutR (restOf x)).1.size ≤ (restOf x).size := by
    unfold cutR
    split
    · show (tl (aftR (restOf x))).size ≤ _; rw [size_tl]; omega
    · exact h1
  unfold mem1
  rw [hx, Option.bind_some, trimL2_f _ (by omega), Option.bind_some]
  have e1 : strings_CutPrefix.f (drpB wsP (restOf x)) ⟨#[44]⟩ = some (cutR (restOf x)) := cut_f _ 44
  rw [e1, Option.bind_some, trimL2_f _ (by omega), Option.bind_some]
  rfl
def GoodY (ys : List (S34 × Int)) (o : Option (List S34)) : Prop := match o with
  | some l => ys = l.map (fun m => (m, 0))
  | none => ∃ p m, ys = p ++ [(m, 50)] ∧ ∀ y ∈ p, y.2 = (0 : Int)
theorem mems_l {nx : ByteArray → Option Ten} {rd : ByteArray → Option (S34 × ByteArray)} (hl : Less rd) (hR : ∀ s, s.size ≤ 5000 → ∃ x, nx s = some x ∧ Told 5000 x (rd s)) :
    ∀ (d : Nat) (s : ByteArray), s.size < d → s.size ≤ 5000 → ∃ ys, memsL nx d s = some ys ∧ ys.length ≤ s.size + 1 ∧ (∀ y ∈ ys, y.1.f0.size ≤ 5000) ∧ GoodY ys (rdAll rd d s)
  | 0, _, h, _ => absurd h (by omega)
  | d + 1, s, hd, hs => by
    rw [memsL, rdAll]
    by_cases h0 : s.toList = []
    · rw [if_pos h0, if_pos h0]
      exact ⟨_, rfl, Nat.zero_le _, (fun y hy => by cases hy), rfl⟩
    · rw [if_neg h0, if_neg h0]
      obtain ⟨x, hx, ht⟩ := hR s hs
      cases hr : rd s with
      | none =>
        rw [hr] at ht
        obtain ⟨t1, t2, t3⟩ := ht
        rw [mem1_eq hx (by rw [t2]; decide), Option.bind_some]
        dsimp only
        have e1 : (aftR (restOf x)).toList = [] := by rw [t2, L_toList]; unfold aftR; rw [L_drp]; rfl
        rw [if_pos (.inr (by simp [e1])), t1, if_neg (by omega)]
        exact ⟨_, rfl, by simp, fun y hy => by rw [List.mem_singleton.1 hy]; exact t3, [], memOf x, rfl, fun y hy => by cases hy⟩
      | some y =>
        obtain ⟨m, r⟩ := y
        obtain ⟨h1, h2⟩ := hl _ _ _ hr
        rw [hr] at ht
        obtain rfl : x = encM m r := ht
        have hm : (memOf (encM m r)).f0.size ≤ 5000 := Nat.le_trans h2.2.2.2.2 hs
        rw [mem1_eq hx (by show r.size ≤ _; omega), Option.bind_some, Option.bind_some]
        dsimp only
        have e1 : restOf (encM m r) = r := rfl
        have e2 : memOf (encM m r) = m := rfl
        have e3 : errOf (encM m r) = 0 := rfl
        rw [e1, e3]
        rw [e2] at hm ⊢
        by_cases ha : (aftR r).toList = []
        · have hE : (if (0 : Int) = 0 ∧ (aftR r).toList ≠ [] ∧ ((cutR r).2 = false ∨ (drpB wsP (cutR r).1).toList = []) then (50 : Int) else 0) = 0 := if_neg (fun e => e.2.1 ha)
          rw [hE, if_pos (.inr (by simp [ha])), if_pos ha]
          exact ⟨_, rfl, by simp, fun y hy => by rw [List.mem_singleton.1 hy]; exact hm, rfl⟩
        · by_cases hc : atF (aftR r) 44 = true ∧ (nxtR r).toList ≠ []
          · have e4 : cutR r = (tl (aftR r), true) := if_pos hc.1
            have e5 : drpB wsP (cutR r).1 = nxtR r := by rw [e4]; rfl
            have e6 : (cutR r).2 = true := by rw [e4]
            have h3 := nxt_size r
            have hE : (if (0 : Int) = 0 ∧ (aftR r).toList ≠ [] ∧ ((cutR r).2 = false ∨ (drpB wsP (cutR r).1).toList = []) then (50 : Int) else 0) = 0 := if_neg (fun e => e.2.2.elim (fun h => by rw [e6] at h; cases h) (fun h => hc.2 (by rw [← e5]; exact h)))
            rw [hE, e5, if_neg (by simp [ha]), if_pos (by omega), if_neg ha, if_pos hc]
            obtain ⟨ys, i1, i2, i3, i4⟩ := mems_l hl hR d (nxtR r) (by omega) (by omega)
            rw [i1, Option.bind_some]
            refine ⟨_, rfl, by simp only [List.length_cons]; omega, fun y hy => ?_, ?_⟩
            · rcases List.mem_cons.1 hy with rfl | hy
              · exact hm
              · exact i3 y hy
            · cases hq : rdAll rd d (nxtR r) with
              | none =>
                rw [hq] at i4
                obtain ⟨p, m', j1, j2⟩ := i4
                refine ⟨(m, 0) :: p, m', by rw [j1]; rfl, fun y hy => ?_⟩
                rcases List.mem_cons.1 hy with rfl | hy
                · rfl
                · exact j2 y hy
              | some l =>
                rw [hq] at i4
                have i5 : ys = l.map (fun m => (m, 0)) := i4
                rw [i5]
                rfl
          · have e7 : (cutR r).2 = false ∨ (drpB wsP (cutR r).1).toList = [] := by
              unfold cutR
              by_cases hb : atF (aftR r) 44 = true
              · rw [if_pos hb]
                exact .inr (Classical.byContradiction fun e => hc ⟨hb, e⟩)
              · rw [if_neg hb]; exact .inl rfl
            have hE : (if (0 : Int) = 0 ∧ (aftR r).toList ≠ [] ∧ ((cutR r).2 = false ∨ (drpB wsP (cutR r).1).toList = []) then (50 : Int) else 0) = 50 := if_pos ⟨rfl, ha, e7⟩
            rw [hE, if_pos (.inl (by decide)), if_neg ha, if_neg hc]
            exact ⟨_, rfl, by simp, fun y hy => by rw [List.mem_singleton.1 hy]; exact hm, [], m, rfl, fun y hy => by cases hy⟩
theorem find_bad (p : List (S34 × Int)) (m : S34) (h : ∀ y ∈ p, y.2 = (0 : Int)) : (p ++ [(m, 50)]).find? (fun y => y.2 != 0) = some (m, 50) := by
  rw [List.find?_append]
  have e : p.find? (fun y => y.2 != 0) = none := by
    rw [List.find?_eq_none]
    intro y hy
    simp [h y hy]
  rw [e]
  rfl
theorem find_good (l : List S34) : (l.map (fun m => (m, (0 : Int)))).find? (fun y => y.2 != 0) = none := by
  rw [List.find?_eq_none]
  intro y hy
  obtain ⟨m, _, rfl⟩ := List.mem_map.1 hy
  simp
def outL (o : Option (List S34)) : (List S34) × Int := match o with | some l => (l, 0) | none => ([], 50)
theorem gather_l {ys : List (S34 × Int)} {o : Option (List S34)} (h : GoodY ys o) : gatherL ys = outL o := by
  unfold gatherL
  cases o with
  | none => obtain ⟨p, m, rfl, hp⟩ := h; rw [find_bad p m hp]; rfl
  | some l =>
    obtain rfl : ys = l.map (fun m => (m, 0)) := h
    rw [find_good]
    simp [outL, Function.comp_def]
theorem gather_d {ys : List (S34 × Int)} {o : Option (List S34)} (h : GoodY ys o) : gatherD ys = outL (o.map dictOf) := by
  unfold gatherD
  cases o with
  | none => obtain ⟨p, m, rfl, hp⟩ := h; rw [find_bad p m hp]; rfl
  | some l =>
    obtain rfl : ys = l.map (fun m => (m, 0)) := h
    rw [find_good]
    simp [outL, Function.comp_def]
def rdTop (rd : ByteArray → Option (S34 × ByteArray)) (k : Nat) (s : ByteArray) : Option (List S34) := if (s.size : Int) > 4000 then none else rdAll rd k (trimSp s)
theorem trim_size (s : ByteArray) : (trimSp s).size ≤ s.size := by
  have := trim_len (L s)
  rw [size_L, size_L]
  show (L ⟨(Lib.trimB (L s) 32).toArray⟩).length ≤ _
  simpa [L] using this
theorem top_l {nx : ByteArray → Option Ten} {rd : ByteArray → Option (S34 × ByteArray)} (hl : Less rd) (hR : ∀ s, s.size ≤ 5000 → ∃ x, nx s = some x ∧ Told 5000 x (rd s)) (k : Nat) (hk : 5000 < k) (s : ByteArray) (hs : s.size ≤ 5000) :
    ∃ ys, membersF nx k s = some ys ∧ ys.length ≤ 1000000 ∧ (∀ y ∈ ys, y.1.f0.size ≤ 281474976710656) ∧ GoodY ys (rdTop rd k s) := by
  unfold membersF rdTop
  split
  · exact ⟨_, rfl, by simp, fun y hy => by rw [List.mem_singleton.1 hy]; exact Nat.zero_le _, [], _, rfl, fun y hy => by cases hy⟩
  · have h1 := trim_size s
    obtain ⟨ys, i1, i2, i3, i4⟩ := mems_l hl hR k (trimSp s) (by omega) (by omega)
    exact ⟨ys, i1, by omega, fun y hy => Nat.le_trans (i3 y hy) (by decide), i4⟩
theorem list_f (s : ByteArray) (hs : s.size ≤ 5000) (k : Nat) (hk : 6000 < k) : sfield_List.f k s = some (outL (rdTop rdMember k s)) := by
  obtain ⟨ys, h1, h2, _, h4⟩ := top_l (nx := sfield_member.f k) less_m (fun s hs => by
    obtain ⟨x, hx, ht⟩ := member_s s (by omega) k (by omega)
    refine ⟨x, hx, ?_⟩
    cases hm : rdMember s with
    | none => rw [hm] at ht; exact ⟨ht.1, ht.2.1, Nat.le_trans ht.2.2 (Nat.zero_le _)⟩
    | some y => rw [hm] at ht; exact ht) k (by omega) s hs
  unfold sfield_List.f
  rw [h1, Option.bind_some, if_pos h2, gather_l h4]
theorem dict_f (s : ByteArray) (hs : s.size ≤ 5000) (k : Nat) (hk : 6000 < k) : sfield_Dict.f k s = some (outL ((rdTop rdKeyed k s).map dictOf)) := by
  obtain ⟨ys, h1, h2, h3, h4⟩ := top_l (nx := sfield_keyed.f k) less_k (fun s hs => by
    obtain ⟨x, hx, ht⟩ := keyed_s s (by omega) k (by omega)
    refine ⟨x, hx, ?_⟩
    cases hm : rdKeyed s with
    | none => rw [hm] at ht; exact ⟨ht.1, ht.2.1, Nat.le_trans ht.2.2 hs⟩
    | some y => rw [hm] at ht; exact ht) k (by omega) s hs
  unfold sfield_Dict.f
  rw [h1, Option.bind_some, if_pos ⟨h2, h3⟩, gather_d h4]
end Go.Proofs.YtjdbiicjfpgjkaaGreatDoor.Pl
/- Chapter 6: the document's reader of lists and dictionaries. -/
namespace Go.Proofs.YtjdbiicjfpgjkaaGreatDoor.Pl
open Go.RowKit Go.Proofs.YtjdbiicjfpgjkaaGreatDoor.Q Go.Proofs.YtjdbiicjfpgjkaaGreatDoor.Sf Go.Proofs.YtjdbiicjfpgjkaaGreatDoorW.PrintWords Go.Proofs.YtjdbiicjfpgjkaaGreatDoorW.PrintLast
set_option linter.unusedVariables false
set_option linter.unusedSimpArgs false
def rdOf (dict : Bool) : ByteArray → Option (S34 × ByteArray) := if dict = true then rdKeyed else rdMember
theorem less_of (dict : Bool) : Less (rdOf dict) := by
  cases dict with
  | true => exact less_k
  | false => exact less_m
theorem either_f (s : ByteArray) (hs : s.size ≤ 20000) (dict : Bool) (k : Nat) (hk : 200100 < k) : ∃ x, glacisref06_either.f k s dict = some x ∧ ToldB x (rdOf dict s) := by
  unfold glacisref06_either.f rdOf
  cases dict with
  | true =>
    obtain ⟨x, hx, ht⟩ := keyed_r s hs k hk
    rw [if_pos rfl, if_pos rfl, hx, Option.bind_some]
    exact ⟨_, rfl, ht⟩
  | false =>
    obtain ⟨x, hx, ht⟩ := member_r s hs k (by omega)
    rw [if_neg (by decide), if_neg (by decide), hx, Option.bind_some]
    exact ⟨_, rfl, ht⟩
def oneM (dict : Bool) (out : List S34) (m : S34) : List S34 := if dict = true then withM out m else out ++ [m]
theorem one_len (dict : Bool) (out : List S34) (m : S34) : (oneM dict out m).length ≤ out.length + 1 := by
  unfold oneM withM mapK
  split
  · split <;> simp
  · simp
theorem read_l (dict : Bool) (k : Nat) (hk : 200100 < k) : ∀ (d : Nat) (s : ByteArray) (out : List S34), s.size < d → s.size ≤ 5000 → out.length + s.size ≤ 6000 →
    readL k dict d s out = some (outL ((rdAll (rdOf dict) d s).map (fun l => l.foldl (oneM dict) out)))
  | 0, _, _, h, _, _ => absurd h (by omega)
  | d + 1, s, out, hd, hs, ho => by
    rw [readL, rdAll]
    by_cases h0 : s.toList = []
    · rw [if_pos h0, if_pos h0]; rfl
    · rw [if_neg h0, if_neg h0]
      obtain ⟨x, hx, ht⟩ := either_f s (by omega) dict k hk
      rw [hx, Option.bind_some]
      cases hr : rdOf dict s with
      | none =>
        rw [hr] at ht
        have ht2 : x.2.2.2.2.2.2.2.2.2 = false := ht
        rw [if_pos ht2]
        rfl
      | some y =>
        obtain ⟨m, r⟩ := y
        obtain ⟨h1, h2⟩ := less_of dict _ _ _ hr
        rw [hr] at ht
        obtain rfl : x = encB m r := ht
        have e1 : (encB m r).2.2.2.2.2.2.2.2.2 = true := rfl
        have e2 : (encB m r).2.2.2.2.2.2.2.2.1 = r := rfl
        have e3 : memB (encB m r) = m := rfl
        have hz := aft_size r
        rw [e1, e2, e3, if_neg (by decide), if_neg (by omega), tabs_f r k (by omega), Option.bind_some, Option.bind_some]
        have ea : drpB wsP r = aftR r := rfl
        rw [ea]
        dsimp only
        by_cases ha : (aftR r).toList = []
        · rw [if_pos ha, if_pos ha]; rfl
        · rw [if_neg ha, if_neg ha]
          have hp : 0 < (aftR r).size := by
            rcases Nat.eq_zero_or_pos (aftR r).size with h | h
            · exact absurd (by rw [L_toList]; exact L_zero (by omega)) ha
            · exact h
          by_cases hb : bt (aftR r) 0 = 44
          · have hc : atF (aftR r) 44 = true := decide_eq_true ⟨hp, hb⟩
            have en : (aftR r).extract 1 (aftR r).size = tl (aftR r) := rfl
            have h3 := nxt_size r
            rw [if_neg (fun e => e hb), en, tabs_f _ k (by rw [size_tl]; omega), Option.bind_some]
            have eb : drpB wsP (tl (aftR r)) = nxtR r := rfl
            rw [eb]
            by_cases hn : (nxtR r).toList = []
            · rw [if_pos hn, if_neg (fun e => e.2 hn)]; rfl
            · have h4 := one_len dict out m
              have e5 : (if dict = true then withM out m else out ++ [m]) = oneM dict out m := rfl
              rw [if_neg hn, e5, if_pos (by omega : (nxtR r).size < s.size), if_pos ⟨hc, hn⟩, read_l dict k hk d (nxtR r) (oneM dict out m) (by omega) (by omega) (by omega)]
              cases rdAll (rdOf dict) d (nxtR r) with
              | none => rfl
              | some l => rfl
          · have hc : ¬ atF (aftR r) 44 = true := fun e => hb (of_decide_eq_true e).2
            rw [if_pos hb, if_neg (fun e => hc e.1)]; rfl
theorem read_f (dict : Bool) (s : ByteArray) (hs : s.size ≤ 5000) (k : Nat) (hk : 200100 < k) : glacisref06_read.f k s dict = some (outL ((rdTop (rdOf dict) k s).map (fun l => l.foldl (oneM dict) []))) := by
  unfold glacisref06_read.f rdTop
  split
  · rfl
  · have h1 := trim_size s
    rw [trim_f s (by omega) k (by omega), Option.bind_some]
    exact read_l dict k hk k (trimSp s) [] (by omega) (by omega) (by simp; omega)
def Dist6 (l : List S34) : Prop := (l.map (·.f0)).Nodup
theorem idx_none {l : List S34} {s : ByteArray} (h : idxK l s = none) : ∀ q ∈ l, q.f0 ≠ s := by
  intro q hq e
  unfold idxK at h
  rw [List.findIdx?_eq_none_iff] at h
  have := h q.f0 (List.mem_map.2 ⟨q, hq, rfl⟩)
  simp [e] at this
theorem with_put (l : List S34) (m : S34) (h : Dist6 l) : withM l m = putM l m := by
  unfold withM putM
  cases hi : idxK l m.f0 with
  | none =>
    have hn := idx_none hi
    have e1 : mapK m l = l := by
      unfold mapK
      conv => rhs; rw [← List.map_id l]
      apply List.map_congr_left
      intro q hq
      rw [if_neg (hn q hq)]
      rfl
    have e2 : anyK m l = false := by
      unfold anyK
      rw [List.any_eq_false]
      intro q hq
      simp [hn q hq]
    rw [e1, e2, if_neg (by decide)]
  | some i =>
    obtain ⟨hl, he⟩ := idxK_some hi
    have e2 : anyK m l = true := by
      unfold anyK
      rw [List.any_eq_true]
      exact ⟨l[i], List.getElem_mem hl, by simp [he]⟩
    rw [e2, if_pos rfl]
    show mapK m l = l.set i m
    unfold mapK
    apply List.ext_getElem
    · simp
    · intro j h1 h2
      rw [List.getElem_map, List.getElem_set]
      simp only [List.length_map] at h1
      by_cases hj : i = j
      · subst hj; rw [if_pos he, if_pos rfl]
      · rw [if_neg hj, if_neg]
        intro e
        unfold Dist6 at h
        rcases Nat.lt_or_gt_of_ne hj with c | c
        · exact List.pairwise_iff_getElem.1 h i j (by simpa using hl) (by simpa using h1) c (by simp [he, e])
        · exact List.pairwise_iff_getElem.1 h j i (by simpa using h1) (by simpa using hl) c (by simp [he, e])
theorem dist_put (l : List S34) (m : S34) (h : Dist6 l) : Dist6 (putM l m) := by
  unfold putM
  cases hi : idxK l m.f0 with
  | none =>
    have hn := idx_none hi
    unfold Dist6
    rw [List.map_append, List.nodup_append]
    refine ⟨h, by simp, ?_⟩
    intro a ha b hb
    obtain ⟨q, hq, rfl⟩ := List.mem_map.1 ha
    simp only [List.map_cons, List.map_nil, List.mem_singleton] at hb
    rw [hb]
    exact hn q hq
  | some i =>
    obtain ⟨hl, he⟩ := idxK_some hi
    unfold Dist6 at h ⊢
    have : (l.set i m).map (·.f0) = l.map (·.f0) := by
      rw [List.map_set, ← he]
      apply List.ext_getElem
      · simp
      · intro j h1 h2
        rw [List.getElem_set]
        split
        · rename_i h3; subst h3; simp
        · rfl
    show ((l.set i m).map (·.f0)).Nodup
    rw [this]
    exact h
theorem fold_put : ∀ (l out : List S34), Dist6 out → l.foldl (oneM true) out = l.foldl putM out
  | [], _, _ => rfl
  | m :: l, out, h => by
    rw [List.foldl_cons, List.foldl_cons]
    have e : oneM true out m = putM out m := (if_pos rfl).trans (with_put out m h)
    rw [e]
    exact fold_put l _ (dist_put out m h)
theorem fold_app : ∀ (l out : List S34), l.foldl (oneM false) out = out ++ l
  | [], out => by simp
  | m :: l, out => by
    rw [List.foldl_cons, fold_app l]
    show (if false = true then _ else out ++ [m]) ++ l = _
    rw [if_neg (by decide)]
    simp
theorem ref_list (s : ByteArray) (hs : s.size ≤ 5000) (k : Nat) (hk : 200100 < k) : glacisref06_List.f k s = sfield_List.f k s := by
  unfold glacisref06_List.f
  rw [read_f false s hs k hk, list_f s hs k (by omega), Option.bind_some]
  have e : rdOf false = rdMember := if_neg (by decide)
  rw [e]
  cases rdTop rdMember k s with
  | none => rfl
  | some l =>
    show some (_, _) = some (l, (0 : Int))
    rw [show (outL (Option.map (fun l => List.foldl (oneM false) [] l) (some l))) = (l, 0) by show (List.foldl (oneM false) [] l, (0 : Int)) = _; rw [fold_app, List.nil_append]]
theorem ref_dict (s : ByteArray) (hs : s.size ≤ 5000) (k : Nat) (hk : 200100 < k) : glacisref06_Dict.f k s = sfield_Dict.f k s := by
  unfold glacisref06_Dict.f
  rw [read_f true s hs k hk, dict_f s hs k (by omega), Option.bind_some]
  have e : rdOf true = rdKeyed := if_pos rfl
  rw [e]
  cases rdTop rdKeyed k s with
  | none => rfl
  | some l =>
    show some (_, _) = some (dictOf l, (0 : Int))
    rw [show (outL (Option.map (fun l => List.foldl (oneM true) [] l) (some l))) = (dictOf l, 0) by show (List.foldl (oneM true) [] l, (0 : Int)) = _; rw [fold_put l [] List.nodup_nil]; rfl]
end Go.Proofs.YtjdbiicjfpgjkaaGreatDoor.Pl
/- Chapter 6: members are the same as themselves. -/
namespace Go.Proofs.YtjdbiicjfpgjkaaGreatDoor.Pl
open Go.RowKit Go.Proofs.YtjdbiicjfpgjkaaGreatDoor.Q Go.Proofs.YtjdbiicjfpgjkaaGreatDoor.Sf Go.Proofs.YtjdbiicjfpgjkaaGreatDoorW.PrintWords Go.Proofs.YtjdbiicjfpgjkaaGreatDoorW.PrintLast
set_option linter.unusedVariables false
set_option linter.unusedSimpArgs false
theorem rd_item (l : List S31) (j : Nat) (h : j < l.length) : rd_T31 l (j : Int) = l[j] := by simp [rd_T31, List.getD_eq_getElem?_getD, h]
theorem rd_memb (l : List S34) (j : Nat) (h : j < l.length) : rd_T34 l (j : Int) = l[j] := by simp [rd_T34, List.getD_eq_getElem?_getD, h]
theorem params_refl (l : List S60) (hl : l.length ≤ 100000) (k : Nat) (hk : l.length < k) : glacisref05_SameParams.f k l l = some true := by
  unfold glacisref05_SameParams.f
  rw [if_pos rfl]
  exact same_loop l hl l.length 0 k (by omega) hk
theorem items_loop (l : List S31) (hl : l.length ≤ 20000) (hf : ∀ i ∈ l, i.f3.length ≤ 20000) : ∀ (m j k : Nat), j + m = l.length → m + 20001 < k → glacisref06_items.l0 k l l (j : Int) = some true
  | 0, j, k, hm, hk => by
    obtain ⟨k, rfl⟩ : ∃ k', k = k' + 1 := ⟨k - 1, by omega⟩
    rw [glacisref06_items.l0, if_neg (by omega)]
  | m + 1, j, k, hm, hk => by
    obtain ⟨k, rfl⟩ : ∃ k', k = k' + 1 := ⟨k - 1, by omega⟩
    have hj : j < l.length := by omega
    have h1 := hf _ (List.getElem_mem hj)
    rw [glacisref06_items.l0, if_pos (by omega), if_pos (by omega), if_pos (by omega), rd_item l j hj, same_refl _ (by omega) _ _ _ k (by omega), Option.bind_some, if_pos rfl, wrap_next j (by omega)]
    exact items_loop l hl hf m (j + 1) k (by omega) (by omega)
theorem items_refl (l : List S31) (hl : l.length ≤ 20000) (hf : ∀ i ∈ l, i.f3.length ≤ 20000) (k : Nat) (hk : 50000 < k) : glacisref06_items.f k l l = some true := by
  unfold glacisref06_items.f
  rw [if_pos rfl]
  exact items_loop l hl hf l.length 0 k (by omega) (by omega)
theorem membs_refl (l : List S34) (hl : l.length ≤ 20000) (hf : ∀ m ∈ l, Fit 20000 m) (k : Nat) (hk : 80000 < k) : glacisref06_Same.f k l l = some true := by
  unfold glacisref06_Same.f
  refine if_pos ⟨rfl, by omega, fun j hj => ?_⟩
  obtain ⟨h1, h2, h3, h4, h5⟩ := hf _ (List.getElem_mem hj)
  rw [rd_memb l j hj]
  unfold okM
  rw [same_refl _ (by omega) _ _ _ k (by omega), items_refl _ h2 h4 k (by omega), params_refl _ (by omega) k (by omega)]
  simp
theorem mem_put {l : List S34} {m q : S34} (h : q ∈ putM l m) : q = m ∨ q ∈ l := by
  unfold putM at h
  split at h
  · exact (List.mem_or_eq_of_mem_set h).symm
  · rcases List.mem_append.1 h with h | h
    · exact .inr h
    · exact .inl (List.mem_singleton.1 h)
theorem mem_dict : ∀ (l out : List S34) (q : S34), q ∈ l.foldl putM out → q ∈ l ∨ q ∈ out
  | [], _, _, h => .inr h
  | m :: l, out, q, h => by
    rw [List.foldl_cons] at h
    rcases mem_dict l _ q h with h | h
    · exact .inl (List.mem_cons_of_mem _ h)
    · rcases mem_put h with rfl | h
      · exact .inl List.mem_cons_self
      · exact .inr h
theorem top_same {rd : ByteArray → Option (S34 × ByteArray)} (hl : Less rd) (k : Nat) (s : ByteArray) (l : List S34) (h : rdTop rd k s = some l) : l.length ≤ 4000 ∧ ∀ m ∈ l, Fit 4000 m := by
  unfold rdTop at h
  split at h
  · cases h
  · have h1 := trim_size s
    obtain ⟨h2, h3⟩ := all_fit hl _ _ _ h
    exact ⟨by omega, fun m hm => (h3 m hm).mono (by omega)⟩
theorem list_same (s : ByteArray) (hs : s.size ≤ 5000) (k : Nat) (hk : 80000 < k) : ∃ l e, sfield_List.f k s = some (l, e) ∧ glacisref06_Same.f k l l = some true := by
  refine ⟨_, _, list_f s hs k (by omega), ?_⟩
  cases hr : rdTop rdMember k s with
  | none => exact membs_refl [] (by simp) (fun m hm => by cases hm) k hk
  | some l =>
    obtain ⟨h1, h2⟩ := top_same less_m k s l hr
    exact membs_refl l (by omega) (fun m hm => (h2 m hm).mono (by omega)) k hk
theorem dict_same (s : ByteArray) (hs : s.size ≤ 5000) (k : Nat) (hk : 80000 < k) : ∃ l e, sfield_Dict.f k s = some (l, e) ∧ glacisref06_Same.f k l l = some true := by
  refine ⟨_, _, dict_f s hs k (by omega), ?_⟩
  cases hr : rdTop rdKeyed k s with
  | none => exact membs_refl [] (by simp) (fun m hm => by cases hm) k hk
  | some l =>
    obtain ⟨h1, h2⟩ := top_same less_k k s l hr
    have h3 := dictOf_len l
    refine membs_refl (dictOf l) (by omega) (fun m hm => ?_) k hk
    rcases mem_dict l [] m hm with h | h
    · exact (h2 m h).mono (by omega)
    · cases h
end Go.Proofs.YtjdbiicjfpgjkaaGreatDoor.Pl
/- The list, and the dictionary, that any field is, or its error, are what the document says: over the printed functions. -/
namespace Go.Proofs.YtjdbiicjfpgjkaaGreatDoor.Pure
open Go.RowKit Go.Proofs.YtjdbiicjfpgjkaaGreatDoor.Q Go.Proofs.YtjdbiicjfpgjkaaGreatDoor.Sf Go.Proofs.YtjdbiicjfpgjkaaGreatDoor.Pl Go.Proofs.YtjdbiicjfpgjkaaGreatDoorW.PrintWords Go.Proofs.YtjdbiicjfpgjkaaGreatDoorW.PrintLast
set_option linter.unusedVariables false
theorem SfieldReads : ∀ (a0 : ByteArray), a0.size ≤ 140737488351232 → ∃ k, glacislaw06_SfieldReads.f k a0 = some true := by
  intro s _
  refine ⟨300000, ?_⟩
  unfold glacislaw06_SfieldReads.f
  rw [awake6 300000 (by omega), Option.bind_some]
  by_cases hs : (s.size : Int) > 5000
  · rw [if_pos hs]
  obtain ⟨l, e, h1, h2⟩ := list_same s (by omega) 300000 (by omega)
  obtain ⟨d, f, h3, h4⟩ := dict_same s (by omega) 300000 (by omega)
  rw [if_neg hs, ref_list s (by omega) 300000 (by omega), ref_dict s (by omega) 300000 (by omega), h1, Option.bind_some, Option.bind_some, h3, Option.bind_some, Option.bind_some]
  dsimp only
  rw [h2, Option.bind_some, h4, Option.bind_some, if_pos rfl, if_pos rfl, if_pos rfl, if_pos rfl]
  simp
end Go.Proofs.YtjdbiicjfpgjkaaGreatDoor.Pure
/- The law glacis/glacislaw06.SfieldReads, for every input: its call returns true and leaves its arguments as they were; the row, and its card. Its conditions: the row's own. -/
namespace Go.Proofs.YtjdbiicjfpgjkaaGreatDoor.sfieldReads
open Go.ChangeShapes Go.WideShapes Go.ChangeAt Go.RowKit
open Go.Proofs.YtjdbiicjfpgjkaaGreatDoor Go.Proofs.YtjdbiicjfpgjkaaGreatDoorW.PrintWords
open Go.ChangeMaps (open_string shut_string)
open Go.Proofs.YtjdbiicjfpgjkaaGreatDoor.rc
set_option linter.unusedVariables false
theorem walk (W : World) (hT : Aside0 (Q.TabW W)) (a0 : ByteArray) (h0 : a0.size ≤ 140737488351232) :
    Calls Tryz.prog 3 #[.string a0] W fun e w' => e = .returned (.bool true) ∧ Below W.heap.size W w' := by
  obtain ⟨k, h⟩ := YtjdbiicjfpgjkaaGreatDoor.Pure.SfieldReads a0 h0
  refine (YtjdbiicjfpgjkaaGreatDoor.Q.glacislaw06_SfieldReads.calls k a0 true W hT h).mono ?_
  rintro e w' ⟨rfl, hd⟩
  first | exact ⟨rfl, hd⟩ | exact ⟨rfl, hd.below⟩
theorem contract (H : Type) (enc : TypeId × Value → H) (W : World) (hT : Aside0 (Q.TabW W)) (base : Nat) (args : Array Value) (ds gs : List (DataW H)) (before : List MemPlace)
    (hval : ∀ (j : Nat) t v, Tryz.f3.params[j]? = some t → args[j]? = some v → Value.okWide Tryz.prog W .any base t v)
    (hW : DataW.Whole enc Tryz.prog Tryz.f3.params.toList Rows.sfieldReadsSpec.vars false W args.toList ds gs before)
    (hsz : (DataW.weightsEach Tryz.prog (Tryz.f3.params.toList ++ Rows.sfieldReadsSpec.plain.varTypes Tryz.prog) (ds ++ gs)).all (· ≤ reachBytes) = true) :
    Calls Tryz.prog 3 args W fun e W' => ∃ v, e = .returned v ∧ Rows.sfieldReadsSpec.post enc Tryz.prog Tryz.f3 false true false false W args v W' := by
  have hW' := hW
  obtain ⟨p, q, hA0, hV, rfl, hfz, hnd⟩ := hW
  have hA : DataW.TrodAll enc Tryz.prog W 0 (fun _ => true) true Tryz.f3.params.toList args.toList ds p := hA0
  rw [Tryz.params3] at hA hval hsz
  obtain ⟨v0, vs0, d0, ds0, p0, q0, hargs, rfl, rfl, h0, r0⟩ := trodAll_cons hA
  obtain ⟨rfl, rfl, rfl⟩ := trodAll_nil r0
  obtain rfl : args = #[v0] := by cases args; simp_all
  obtain ⟨rfl, rfl⟩ := trodVars_none hV
  obtain ⟨a0, rfl, rfl, rfl, y0⟩ := open_string Tryz.underlying9 (hval 0 9 v0 rfl rfl) h0
  have w0 : a0.size ≤ 140737488351232 := by
    have z := sized_string hsz (j := 0) (t := 9) rfl rfl
    rw [Array.length_toList] at z
    exact z
  clear hA0
  refine (walk W hT a0 w0).mono fun e W' ⟨he, bel⟩ => ?_
  subst he
  exact ⟨_, rfl, _, _, _, [], _, [], hW', trodAll_mk1 (shut_bool Tryz.underlying4 _), (trodAll_cons_mk (shut_string Tryz.underlying9 y0) trodAll_mk0), rfl, bel.frame _, fun h => by cases h⟩
theorem laid_met (os : Os) : laidMet Tryz.prog Rows.sfieldReadsRow.laid ((laidWorld os).forCall (fun _ _ => 0) ⟨#[], #[.string ByteArray.empty], []⟩).memory :=
  laidMet_of_run' 8 (by kernel_rfl) (by kernel_rfl)
theorem reads (os : Os) {H : Type} (enc : TypeId × Value → H) : ∃ places, DataW.whole enc Tryz.prog ((laidWorld os).forCall (fun _ _ => 0) ⟨#[], #[.string ByteArray.empty], []⟩).memory Tryz.f3.params.toList Rows.sfieldReadsSpec.vars false (#[.string ByteArray.empty] : Array Value).toList 8 = some ([.lit (.string [])], [], places) :=
  ⟨[], by kernel_rfl⟩
theorem lifted (os : Os) (started : os.Started) (H : Type) (enc : TypeId × Value → H) (F : Stop.Interp) :
    ReturnsInHanded {} Tryz.checked os 3 .any ((OpenSpec.ofChange Rows.sfieldReadsSpec).preRow enc Tryz.prog Tryz.f3 Rows.sfieldReadsRow.domain false Rows.sfieldReadsRow.laid) (((OpenSpec.ofChange Rows.sfieldReadsSpec).at F).post enc Tryz.prog Tryz.f3 false true false false) := by
  obtain ⟨places, hx⟩ := reads os enc
  refine returnsInHanded_of_row (C := Tryz.checked) (s := (OpenSpec.ofChange Rows.sfieldReadsSpec)) own started (by kernel_rfl) Tryz.func3
    (witness_row_at (enc := enc) (C := Tryz.checked) false (laidWorld os) #[.string ByteArray.empty] rfl (by kernel_rfl) (by kernel_rfl) (by kernel_rfl)
      (OpenSpec.preRow_of_cond 8 hx (by kernel_rfl) (fun k hk => by cases hk) (by kernel_rfl) (laid_met os))) ?_
  intro W base args ds gs before hval hW _ hcond hsz hL _ _
  have hL1 := laidMet.tail hL
  have hL2 := laidMet.tail hL1
  have hT : Lib.TabIs Tryz.prog W "internal/strconv.uint64pow10" .u64 Lib.pow10Tab := Lib.tabIs_of_head (g := 3) (by kernel_rfl) (by kernel_rfl) Tryz.underlying149 Tryz.underlying137 (by kernel_rfl) (by kernel_rfl) hL2
  exact contract H enc W (Aside0.mk hT) base args ds gs before hval hW hsz
theorem said : Rows.SfieldReadsSaid :=
  OpenClaim.holds_of_cond 3 Tryz.f3 rfl rfl rfl rfl rfl rfl rfl ⟨rfl, rfl, rfl, rfl, rfl⟩ rfl rfl rfl rfl rfl (by kernel_rfl) Tryz.func3 (by kernel_rfl)
    (of_decide_eq_true (by kernel_rfl)) (by unfold Func.isWrapper; first | (rw [if_pos (by decide +kernel)]; kernel_rfl) | (rw [if_neg (by decide +kernel)]; exact ⟨rfl, rfl⟩))
    (fun os started H enc _ F => by rw [OpenClaim.pre_eq_preRow]; exact lifted os started H enc F)
theorem plain (f : FuncId) (fn : Func) (hf : Tryz.pinned.checked.prog.funcNamed "glacis/glacislaw06.SfieldReads" = some f) (hfn : Tryz.pinned.checked.prog.funcs[f]? = some fn) :
    true = Tryz.pinned.checked.prog.looks [] ∧ ∀ (j : Nat) t, fn.params[j]? = some t → Tryz.pinned.checked.prog.wantsStandIn t = false := by
  obtain rfl : f = 3 := Option.some.inj ((show Tryz.prog.funcNamed "glacis/glacislaw06.SfieldReads" = some 3 by kernel_rfl).symm.trans hf) |>.symm
  obtain rfl : fn = Tryz.f3 := (Option.some.inj (Tryz.func3.symm.trans hfn)).symm
  refine ⟨by kernel_rfl, fun j t ht => ?_⟩
  rw [Tryz.params3] at ht
  have hm : t ∈ [9] := by simpa using Array.mem_of_getElem? ht
  have hall : ([9].all fun u => !Tryz.prog.wantsStandIn u) = true := by kernel_rfl
  exact (show Tryz.prog.wantsStandIn t = false by simpa using List.all_eq_true.1 hall t hm)
theorem card : Rows.SfieldReadsCardSaid :=
  Claim7.holds_tied_plain_at .later [] _ _ _ _ said (fun _ h => by cases h) (by kernel_rfl) (fun _ h => by cases h) sfieldReads_row_tie rfl ⟨rfl, rfl⟩ (by kernel_rfl) rfl plain (by kernel_rfl)
#print axioms card
end Go.Proofs.YtjdbiicjfpgjkaaGreatDoor.sfieldReads
