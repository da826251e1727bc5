/- The law SfieldKeys: contracts, words and plain lemmas that its proof reaches, part 4. Its conditions: the row's own. -/
import Derived.Test.YtjdbiicjfpgjkaaGreatDoorZk3
namespace Go.Proofs.YtjdbiicjfpgjkaaGreatDoor.Q
open Go.RowKit Go.Proofs.YtjdbiicjfpgjkaaGreatDoorW.PrintWords Go.Proofs.YtjdbiicjfpgjkaaGreatDoorW.PrintLast Go.Proofs.YtjdbiicjfpgjkaaGreatDoorW.PrintMore
set_option linter.unusedVariables false
set_option linter.unusedSimpArgs false
mutual
def glacislaw06_SfieldKeys.l0 : Nat → ByteArray → Int → Bool → List (S34) → Int → Int → Option (Bool)
 | 0, _, _, _, _, _, _ => none
 | k + 1, x0, x1, x5, x6, x7, x8 => if x8 < (x6.length : Int) then (glacislaw06_SfieldKeys.l1 k x0 x1 x5 x6 x7 x8 0) else (if x7 = 0 then (glacislaw06_SfieldKeys.j2 k x0 x1 x5 x6 ((x6.length : Int) == 0)) else (glacislaw06_SfieldKeys.j2 k x0 x1 x5 x6 true))
def glacislaw06_SfieldKeys.l1 : Nat → ByteArray → Int → Bool → List (S34) → Int → Int → Int → Option (Bool)
 | 0, _, _, _, _, _, _, _ => none
 | k + 1, x0, x1, x5, x6, x7, x8, x9 => if x9 < x8 then (if 0 ≤ x8 then (if x8 < (x6.length : Int) then (if 0 ≤ x9 then (if x9 < (x6.length : Int) then (if ((rd_T34 x6 x8).f0).toList = ((rd_T34 x6 x9).f0).toList then (none) else (glacislaw06_SfieldKeys.l1 k x0 x1 x5 x6 x7 x8 (wrap64 (x9 + 1)))) else (none)) else (none)) else (none)) else (none)) else (glacislaw06_SfieldKeys.l0 k x0 x1 x5 x6 x7 (wrap64 (x8 + 1)))
def glacislaw06_SfieldKeys.j2 : Nat → ByteArray → Int → Bool → List (S34) → Bool → Option (Bool)
 | 0, _, _, _, _, _ => none
 | k + 1, x0, x1, x5, x6, x52 => if x52 = true then (if x5 = true then (some ((x6.length : Int) == 0)) else (none)) else (if x1 < 0 then (if (x6.length : Int) = 0 then (none) else (if x0.size + 1 ≤ 9223372036854775807 then (if 0 ≤ (Int.tmod (wrap64 (-(wrap64 (x1 + 1)))) (x6.length : Int)) then (if (Int.tmod (wrap64 (-(wrap64 (x1 + 1)))) (x6.length : Int)) < (x6.length : Int) then (if (x0 ++ (⟨#[44]⟩ : ByteArray)).size + ((rd_T34 x6 (Int.tmod (wrap64 (-(wrap64 (x1 + 1)))) (x6.length : Int))).f0).size ≤ 9223372036854775807 then (if ((x0 ++ (⟨#[44]⟩ : ByteArray)) ++ ((rd_T34 x6 (Int.tmod (wrap64 (-(wrap64 (x1 + 1)))) (x6.length : Int))).f0)).size + 3 ≤ 9223372036854775807 then ((sfield_Dict.f k (((x0 ++ (⟨#[44]⟩ : ByteArray)) ++ ((rd_T34 x6 (Int.tmod (wrap64 (-(wrap64 (x1 + 1)))) (x6.length : Int))).f0)) ++ (⟨#[61, 55, 55]⟩ : ByteArray))).bind fun bt441 => ((some (([] : List (S34)) : List (S34))).bind fun y445 => (if y445.length + x6.length < 1099511627776 then ((some (y445 ++ x6 : List (S34))).bind fun y448 => (if (Int.tmod (wrap64 (-(wrap64 (x1 + 1)))) (x6.length : Int)) < (y448.length : Int) then ((glacisref06_Same.f k bt441.1 (y448.set ((Int.tmod (wrap64 (-(wrap64 (x1 + 1)))) (x6.length : Int)) : Int).toNat (⟨(rd_T34 x6 (Int.tmod (wrap64 (-(wrap64 (x1 + 1)))) (x6.length : Int))).f0, false, (⟨1, 77, (⟨#[]⟩ : ByteArray), ([] : List (S60))⟩ : S31), ([] : List (S31)), ([] : List (S60))⟩ : S34))).bind fun t453 => (if x5 = true then (if t453 = true then (some (bt441.2 == 0)) else (none)) else (none))) else (none))) else (none)))) else (none)) else (none)) else (none)) else (none)) else (none))) else (if (x6.length : Int) = 0 then (none) else (if x0.size + 1 ≤ 9223372036854775807 then (if 0 ≤ (Int.tmod x1 (x6.length : Int)) then (if (Int.tmod x1 (x6.length : Int)) < (x6.length : Int) then (if (x0 ++ (⟨#[44]⟩ : ByteArray)).size + ((rd_T34 x6 (Int.tmod x1 (x6.length : Int))).f0).size ≤ 9223372036854775807 then (if ((x0 ++ (⟨#[44]⟩ : ByteArray)) ++ ((rd_T34 x6 (Int.tmod x1 (x6.length : Int))).f0)).size + 3 ≤ 9223372036854775807 then ((sfield_Dict.f k (((x0 ++ (⟨#[44]⟩ : ByteArray)) ++ ((rd_T34 x6 (Int.tmod x1 (x6.length : Int))).f0)) ++ (⟨#[61, 55, 55]⟩ : ByteArray))).bind fun bt455 => ((some (([] : List (S34)) : List (S34))).bind fun y459 => (if y459.length + x6.length < 1099511627776 then ((some (y459 ++ x6 : List (S34))).bind fun y462 => (if (Int.tmod x1 (x6.length : Int)) < (y462.length : Int) then ((glacisref06_Same.f k bt455.1 (y462.set ((Int.tmod x1 (x6.length : Int)) : Int).toNat (⟨(rd_T34 x6 (Int.tmod x1 (x6.length : Int))).f0, false, (⟨1, 77, (⟨#[]⟩ : ByteArray), ([] : List (S60))⟩ : S31), ([] : List (S31)), ([] : List (S60))⟩ : S34))).bind fun t467 => (if x5 = true then (if t467 = true then (some (bt455.2 == 0)) else (none)) else (none))) else (none))) else (none)))) else (none)) else (none)) else (none)) else (none)) else (none))))
end
def glacislaw06_SfieldKeys.f (k : Nat) (a0 : ByteArray) (a1 : Int) : Option (Bool) := (glacislaw06_awake.f k).bind fun t433 => (if (a0.size : Int) > 1000 then (some t433) else ((sfield_Dict.f k a0).bind fun bt434 => (glacislaw06_SfieldKeys.l0 k a0 a1 t433 bt434.1 bt434.2 0)))
set_option maxHeartbeats 8000000 in
set_option maxRecDepth 100000 in
theorem glacislaw06_SfieldKeys.calls (k : Nat) (a0 : ByteArray) (a1 : Int) (r : Bool) (w : World) (hT_ : Aside0 (TabW w)) (h : glacislaw06_SfieldKeys.f k a0 a1 = some r) :
  Calls Tryz.prog 4 #[.string a0, .int .i64 a1] w fun e w' => e = .returned (.bool r) ∧ Below w.heap.size w w' := by
 have hu31 := Tryz.underlying31
 have hu34 := Tryz.underlying34
 have HB := Aside0.mk (Below.refl w.heap.size w)
 have H : ((glacislaw06_awake.f k).bind fun t433 => (if (a0.size : Int) > 1000 then (some t433) else ((sfield_Dict.f k a0).bind fun bt434 => (glacislaw06_SfieldKeys.l0 k a0 a1 t433 bt434.1 bt434.2 0)))) = some r := h
 clear h
 replace H := Option.bind_eq_some_iff.mp H
 obtain ⟨t433, A30, H⟩ := H
 (try dsimp only at H)
 have A3 := Aside0.mk A30
 clear A30
 by_cases c4 : (a0.size : Int) > 1000
 ·rw [if_pos c4] at H
  have c4b0 : decide (1000 < (a0.size : Int)) = true := decide_eq_true c4
  have c4b1 : decide (1000 < a0.size) = true := decide_eq_true (by omega)
  clear c4
  obtain rfl := Option.some.inj H
  go_enter Tryz.func4, Tryz.ntmps4
  go_wp2_with (first | (go_at_call 9; (with_reducible refine (glacislaw06_awake.calls k  t433 _ (tab_ hT_ ?hTab) A3.out).mono ?_); (case hTab => exact (bl_ HB.out)); rintro e w5 ⟨rfl, hb⟩; replace HB := Aside0.mk (below_step (bl_ HB.out) hb); (try clear hb); (try clear hb2); (try clear hk); (try clear hi)))
  repeat (go_quiet (first | (go_at_call 9; (with_reducible refine (glacislaw06_awake.calls k  t433 _ (tab_ hT_ ?hTab) A3.out).mono ?_); (case hTab => exact (bl_ HB.out)); rintro e w5 ⟨rfl, hb⟩; replace HB := Aside0.mk (below_step (bl_ HB.out) hb); (try clear hb); (try clear hb2); (try clear hk); (try clear hi))); try go_wp2_with (first | (go_at_call 9; (with_reducible refine (glacislaw06_awake.calls k  t433 _ (tab_ hT_ ?hTab) A3.out).mono ?_); (case hTab => exact (bl_ HB.out)); rintro e w5 ⟨rfl, hb⟩; replace HB := Aside0.mk (below_step (bl_ HB.out) hb); (try clear hb); (try clear hb2); (try clear hk); (try clear hi))))
  go_ret
  exact ⟨by first | rfl | (simp [errW_none, errW_some] <;> rfl) | (simp [*, errW_none, errW_some] <;> rfl) | (simp [q_ne_nil]; done), bl_ HB.out⟩
 ·rw [if_neg c4] at H
  have c4b0 : decide (1000 < (a0.size : Int)) = false := decide_eq_false c4
  have c4b1 : decide (1000 < a0.size) = false := decide_eq_false (by omega)
  clear c4
  replace H := Option.bind_eq_some_iff.mp H
  obtain ⟨⟨t434, t435⟩, A60, H⟩ := H
  (try dsimp only at H)
  have A6 := Aside0.mk A60
  clear A60
  have H' := Aside0.mk H
  clear H
  go_enter Tryz.func4, Tryz.ntmps4
  go_wp2_with (first | (go_at_call 9; (with_reducible refine (glacislaw06_awake.calls k  t433 _ (tab_ hT_ ?hTab) A3.out).mono ?_); (case hTab => exact (bl_ HB.out)); rintro e w7 ⟨rfl, hb⟩; replace HB := Aside0.mk (below_step (bl_ HB.out) hb); (try clear hb); (try clear hb2); (try clear hk); (try clear hi)) | (go_at_call 12; (with_reducible refine (sfield_Dict.calls k a0 t434 t435 _ A6.out).mono ?_); rintro e w8 ⟨v436, rfl, ho0, hb⟩; have n0_ := Aside0.mk (Kd.N_lower (Kd.N_mono (ok' := fun k_ => True) (Kd.R_N (Kd.R_bound ho0)) (fun k_ hk_ => trivial)) (below_size (bl_ HB.out))); have n1_ := Aside0.mk (below_step (bl_ HB.out) hb); clear HB; have HO437 := n0_; have HB := n1_; clear n0_ n1_; (try clear hb); (try clear hb2); (try clear hk); (try clear hi); (try clear ho0)))
  repeat (go_quiet (first | (go_at_call 9; (with_reducible refine (glacislaw06_awake.calls k  t433 _ (tab_ hT_ ?hTab) A3.out).mono ?_); (case hTab => exact (bl_ HB.out)); rintro e w7 ⟨rfl, hb⟩; replace HB := Aside0.mk (below_step (bl_ HB.out) hb); (try clear hb); (try clear hb2); (try clear hk); (try clear hi)) | (go_at_call 12; (with_reducible refine (sfield_Dict.calls k a0 t434 t435 _ A6.out).mono ?_); rintro e w8 ⟨v436, rfl, ho0, hb⟩; have n0_ := Aside0.mk (Kd.N_lower (Kd.N_mono (ok' := fun k_ => True) (Kd.R_N (Kd.R_bound ho0)) (fun k_ hk_ => trivial)) (below_size (bl_ HB.out))); have n1_ := Aside0.mk (below_step (bl_ HB.out) hb); clear HB; have HO437 := n0_; have HB := n1_; clear n0_ n1_; (try clear hb); (try clear hb2); (try clear hk); (try clear hi); (try clear ho0))); try go_wp2_with (first | (go_at_call 9; (with_reducible refine (glacislaw06_awake.calls k  t433 _ (tab_ hT_ ?hTab) A3.out).mono ?_); (case hTab => exact (bl_ HB.out)); rintro e w7 ⟨rfl, hb⟩; replace HB := Aside0.mk (below_step (bl_ HB.out) hb); (try clear hb); (try clear hb2); (try clear hk); (try clear hi)) | (go_at_call 12; (with_reducible refine (sfield_Dict.calls k a0 t434 t435 _ A6.out).mono ?_); rintro e w8 ⟨v436, rfl, ho0, hb⟩; have n0_ := Aside0.mk (Kd.N_lower (Kd.N_mono (ok' := fun k_ => True) (Kd.R_N (Kd.R_bound ho0)) (fun k_ hk_ => trivial)) (below_size (bl_ HB.out))); have n1_ := Aside0.mk (below_step (bl_ HB.out) hb); clear HB; have HO437 := n0_; have HB := n1_; clear n0_ n1_; (try clear hb); (try clear hb2); (try clear hk); (try clear hi); (try clear ho0))))
  go_loopg [8] k (fun kq v8 w' => ∃ (x8_1 : Int), v8 = .int .i64 x8_1 ∧ Aside0 (glacislaw06_SfieldKeys.l0 kq a0 a1 t433 t434 t435 x8_1 = some r) ∧ Aside0 (kq ≤ k) ∧ Aside0 (Kd.N k34 34 w' w.heap.size (fun _ => True) v436 t434) ∧ Aside0 (Below w.heap.size w w'))
  case atStart => exact ⟨(0), (by first | rfl | simp [*]), H', ⟨Nat.le_refl _⟩, ⟨by (with_reducible repeat (first | apply Kd.N_alloc | apply Kd.N_drewN | apply Kd.N_drew)); exact HO437.out⟩, ⟨bl_ HB.out⟩⟩
  case round =>
   clear H'
   try clear p2
   try clear c4
   try clear c4b0
   try clear c4b1
   obtain ⟨x8_1, rfl, HA, HK1, HO_6, HB⟩ := hrel
   cases gk with
   | zero => exact absurd HA.out (by simp [glacislaw06_SfieldKeys.l0])
   | succ k1 =>
    have H := HA.out
    clear HA
    simp only [glacislaw06_SfieldKeys.l0] at H
    by_cases c9 : x8_1 < (t434.length : Int)
    ·rw [if_pos c9] at H
     have c9b0 : decide (x8_1 < (t434.length : Int)) = true := decide_eq_true c9
     clear c9
     have H' := Aside0.mk H
     clear H
     obtain ⟨Ao10, co10, eo10⟩ := Kd.N_slice HO_6.out
     subst eo10
     go_wp2
     repeat (go_quiet (fail); try go_wp2)
     go_loopg [9] k1 (fun kq v9 w' => ∃ (x9_2 : Int), v9 = .int .i64 x9_2 ∧ Aside0 (glacislaw06_SfieldKeys.l1 kq a0 a1 t433 t434 t435 x8_1 x9_2 = some r) ∧ Aside0 (kq ≤ k1) ∧ Aside0 (Kd.N k34 34 w' w.heap.size (fun _ => True) (.slice Ao10 t434.length co10) t434) ∧ Aside0 (Below w.heap.size w w'))
     case atStart => exact ⟨(0), (by first | rfl | simp [*]), H', ⟨Nat.le_refl _⟩, ⟨by (with_reducible repeat (first | apply Kd.N_alloc | apply Kd.N_drewN | apply Kd.N_drew)); exact HO_6.out⟩, ⟨bl_ HB.out⟩⟩
     case round =>
      clear H'
      try clear p2
      try clear c4
      try clear c4b0
      try clear c4b1
      try clear c9
      try clear c9b0
      try clear p2
      obtain ⟨x9_2, rfl, HA, HK2, HO_6, HB⟩ := hrel
      cases gk with
      | zero => exact absurd HA.out (by simp [glacislaw06_SfieldKeys.l1])
      | succ k2 =>
       have H := HA.out
       clear HA
       simp only [glacislaw06_SfieldKeys.l1] at H
       by_cases c11 : x9_2 < x8_1
       ·rw [if_pos c11] at H
        have c11b0 : decide (x9_2 < x8_1) = true := decide_eq_true c11
        clear c11
        by_cases c12 : 0 ≤ x8_1
        ·rw [if_pos c12] at H
         have c12b0 : decide (0 ≤ x8_1) = true := decide_eq_true c12
         clear c12
         by_cases c13 : x8_1 < (t434.length : Int)
         ·rw [if_pos c13] at H
          have c13b0 : decide (x8_1 < (t434.length : Int)) = true := decide_eq_true c13
          clear c13
          by_cases c14 : 0 ≤ x9_2
          ·rw [if_pos c14] at H
           have c14b0 : decide (0 ≤ x9_2) = true := decide_eq_true c14
           clear c14
           by_cases c15 : x9_2 < (t434.length : Int)
           ·rw [if_pos c15] at H
            have c15b0 : decide (x9_2 < (t434.length : Int)) = true := decide_eq_true c15
            clear c15
            by_cases c16 : ((rd_T34 t434 x8_1).f0).toList = ((rd_T34 t434 x9_2).f0).toList
            ·rw [if_pos c16] at H
             obtain ⟨c16b0, c16b1⟩ := eT_ c16
             clear c16
             exact absurd H (by simp)
            ·rw [if_neg c16] at H
             obtain ⟨c16b0, c16b1⟩ := eF_ c16
             have H' := Aside0.mk H
             clear H
             have p438 : 0 ≤ (x8_1 : Int) := of_decide_eq_true (by assumption)
             have q438 : x8_1 < (t434.length : Int) := of_decide_eq_true (by assumption)
             obtain ⟨ad438, A438_5, c438_5, A438_6, c438_6, A438_7, c438_7, e438, hx438_0, hx438_1, hx438_2, hx438_3, hx438_4, hx438_5, hx438_6, hx438_7, hl438_5, hi438_5, hl438_6, hi438_6, hl438_7, hi438_7⟩ := at_T34 (Kd.N_reads' HO_6.out).2.2 x8_1 p438 q438
             cases e438
             obtain ⟨ce438, hce438, hMe438, hcc438⟩ := Kd.N_get HO_6.out z34 x8_1 p438 (by first | exact q438 | exact of_decide_eq_true (by assumption) | (have e_ := (Kd.N_reads' HO_6.out).1; omega))
             obtain ⟨ua438_5, uc438_5, ua438_6, uc438_6, ua438_7, uc438_7, rfl, ul438_5, ge438_5, ul438_6, ge438_6, ul438_7, ge438_7⟩ := k34_openF hMe438
             have hv438_5 := hcc438 5 _ rfl
             rw [add_field _ _ 5 (by omega)] at hv438_5
             replace hv438_5 := Option.some.inj (hv438_5.symm.trans hx438_5)
             injection hv438_5 with hva_ hvn_ hvc_
             rw [hva_] at ge438_5
             rw [hvc_] at ul438_5
             have HL438_5 := Aside0.mk (show Kd.V k60 60 _ w.heap.size _ _ ((rd_T34 t434 x8_1).f2.f3) from Kd.V_mk ul438_5 ge438_5)
             clear hva_ hvn_ hvc_ ge438_5 ul438_5
             have hv438_6 := hcc438 6 _ rfl
             rw [add_field _ _ 6 (by omega)] at hv438_6
             replace hv438_6 := Option.some.inj (hv438_6.symm.trans hx438_6)
             injection hv438_6 with hva_ hvn_ hvc_
             rw [hva_] at ge438_6
             rw [hvc_] at ul438_6
             have HL438_6 := Aside0.mk (show Kd.V k31 31 _ w.heap.size _ _ ((rd_T34 t434 x8_1).f3) from Kd.V_mk ul438_6 ge438_6)
             clear hva_ hvn_ hvc_ ge438_6 ul438_6
             have hv438_7 := hcc438 7 _ rfl
             rw [add_field _ _ 7 (by omega)] at hv438_7
             replace hv438_7 := Option.some.inj (hv438_7.symm.trans hx438_7)
             injection hv438_7 with hva_ hvn_ hvc_
             rw [hva_] at ge438_7
             rw [hvc_] at ul438_7
             have HL438_7 := Aside0.mk (show Kd.V k60 60 _ w.heap.size _ _ ((rd_T34 t434 x8_1).f4) from Kd.V_mk ul438_7 ge438_7)
             clear hva_ hvn_ hvc_ ge438_7 ul438_7
             clear hcc438 hce438
             have HR438_5 := Aside0.mk hi438_5
             have HC438_5 := Aside0.mk hl438_5
             clear hi438_5 hl438_5
             have HR438_6 := Aside0.mk hi438_6
             have HC438_6 := Aside0.mk hl438_6
             clear hi438_6 hl438_6
             have HR438_7 := Aside0.mk hi438_7
             have HC438_7 := Aside0.mk hl438_7
             clear hi438_7 hl438_7
             replace p438 := eq_true p438
             replace q438 := eq_true q438
             have p439 : 0 ≤ (x9_2 : Int) := of_decide_eq_true (by assumption)
             have q439 : x9_2 < (t434.length : Int) := of_decide_eq_true (by assumption)
             obtain ⟨ad439, A439_5, c439_5, A439_6, c439_6, A439_7, c439_7, e439, hx439_0, hx439_1, hx439_2, hx439_3, hx439_4, hx439_5, hx439_6, hx439_7, hl439_5, hi439_5, hl439_6, hi439_6, hl439_7, hi439_7⟩ := at_T34 (Kd.N_reads' HO_6.out).2.2 x9_2 p439 q439
             obtain rfl : ad438 = ad439 := (by injection e439)
             obtain ⟨ce439, hce439, hMe439, hcc439⟩ := Kd.N_get HO_6.out z34 x9_2 p439 (by first | exact q439 | exact of_decide_eq_true (by assumption) | (have e_ := (Kd.N_reads' HO_6.out).1; omega))
             obtain ⟨ua439_5, uc439_5, ua439_6, uc439_6, ua439_7, uc439_7, rfl, ul439_5, ge439_5, ul439_6, ge439_6, ul439_7, ge439_7⟩ := k34_openF hMe439
             have hv439_5 := hcc439 5 _ rfl
             rw [add_field _ _ 5 (by omega)] at hv439_5
             replace hv439_5 := Option.some.inj (hv439_5.symm.trans hx439_5)
             injection hv439_5 with hva_ hvn_ hvc_
             rw [hva_] at ge439_5
             rw [hvc_] at ul439_5
             have HL439_5 := Aside0.mk (show Kd.V k60 60 _ w.heap.size _ _ ((rd_T34 t434 x9_2).f2.f3) from Kd.V_mk ul439_5 ge439_5)
             clear hva_ hvn_ hvc_ ge439_5 ul439_5
             have hv439_6 := hcc439 6 _ rfl
             rw [add_field _ _ 6 (by omega)] at hv439_6
             replace hv439_6 := Option.some.inj (hv439_6.symm.trans hx439_6)
             injection hv439_6 with hva_ hvn_ hvc_
             rw [hva_] at ge439_6
             rw [hvc_] at ul439_6
             have HL439_6 := Aside0.mk (show Kd.V k31 31 _ w.heap.size _ _ ((rd_T34 t434 x9_2).f3) from Kd.V_mk ul439_6 ge439_6)
             clear hva_ hvn_ hvc_ ge439_6 ul439_6
             have hv439_7 := hcc439 7 _ rfl
             rw [add_field _ _ 7 (by omega)] at hv439_7
             replace hv439_7 := Option.some.inj (hv439_7.symm.trans hx439_7)
             injection hv439_7 with hva_ hvn_ hvc_
             rw [hva_] at ge439_7
             rw [hvc_] at ul439_7
             have HL439_7 := Aside0.mk (show Kd.V k60 60 _ w.heap.size _ _ ((rd_T34 t434 x9_2).f4) from Kd.V_mk ul439_7 ge439_7)
             clear hva_ hvn_ hvc_ ge439_7 ul439_7
             clear hcc439 hce439
             have HR439_5 := Aside0.mk hi439_5
             have HC439_5 := Aside0.mk hl439_5
             clear hi439_5 hl439_5
             have HR439_6 := Aside0.mk hi439_6
             have HC439_6 := Aside0.mk hl439_6
             clear hi439_6 hl439_6
             have HR439_7 := Aside0.mk hi439_7
             have HC439_7 := Aside0.mk hl439_7
             clear hi439_7 hl439_7
             replace p439 := eq_true p439
             replace q439 := eq_true q439
             go_wp2
             repeat (go_quiet (fail); try go_wp2)
             go_roundg k2
             case measure => have := HK1.out; have := HK2.out; omega
             case rel => exact ⟨(wrap64 (x9_2 + 1)), (by first | rfl | simp [*]), H', ⟨by have := HK1.out; have := HK2.out; omega⟩, ⟨by (with_reducible repeat (first | apply Kd.N_alloc | apply Kd.N_drewN | apply Kd.N_drew)); exact HO_6.out⟩, ⟨bl_ HB.out⟩⟩
           ·rw [if_neg c15] at H
            exact absurd H (by simp)
          ·rw [if_neg c14] at H
           exact absurd H (by simp)
         ·rw [if_neg c13] at H
          exact absurd H (by simp)
        ·rw [if_neg c12] at H
         exact absurd H (by simp)
       ·rw [if_neg c11] at H
        have c11b0 : decide (x9_2 < x8_1) = false := decide_eq_false c11
        clear c11
        have H' := Aside0.mk H
        clear H
        go_wp2
        repeat (go_quiet (fail); try go_wp2)
        go_roundg k2
        case measure => have := HK1.out; have := HK2.out; omega
        case rel => exact ⟨(wrap64 (x8_1 + 1)), (by first | rfl | simp [*]), H', ⟨by have := HK1.out; have := HK2.out; omega⟩, ⟨by (with_reducible repeat (first | apply Kd.N_alloc | apply Kd.N_drewN | apply Kd.N_drew)); exact HO_6.out⟩, ⟨bl_ HB.out⟩⟩
    ·rw [if_neg c9] at H
     have c9b0 : decide (x8_1 < (t434.length : Int)) = false := decide_eq_false c9
     clear c9
     have HC17 := Aside0.mk H
     clear H
     obtain ⟨Ao18, co18, eo18⟩ := Kd.N_slice HO_6.out
     subst eo18
     go_upto_region 13 with (fail)
     repeat (go_quiet (fail); go_upto_region 13 with (fail))
     go_cut [52] (fun v52 wc => ∃ (kq : Nat) (x52_16 : Bool), v52 = .bool x52_16 ∧ Aside0 (glacislaw06_SfieldKeys.j2 kq a0 a1 t433 t434 x52_16 = some r) ∧ Aside0 (kq ≤ k1) ∧ Aside0 (Kd.N k34 34 wc w.heap.size (fun _ => True) (.slice Ao18 t434.length co18) t434) ∧ Aside0 (Below w.heap.size w wc))
     case first =>
      have H := HC17.out
      clear HC17
      by_cases c19 : t435 = 0
      ·rw [if_pos c19] at H
       obtain ⟨c19b0, c19b1⟩ := eT_ c19
       clear c19
       (first | rw [c19b0] | (simp only [i64_w, i32_w]; rw [c19b0]) | skip)
       have H' := Aside0.mk H
       clear H
       go_wp2
       repeat (go_quiet (fail); try go_wp2)
       go_meet
       case rel => exact ⟨_, (((t434.length : Int) == 0)), (by first | rfl | simp [*]), H', ⟨by have := HK1.out; first | omega | exact Nat.le_refl _⟩, ⟨by (with_reducible repeat (first | apply Kd.N_alloc | apply Kd.N_drewN | apply Kd.N_drew)); exact HO_6.out⟩, ⟨bl_ HB.out⟩⟩
      ·rw [if_neg c19] at H
       obtain ⟨c19b0, c19b1⟩ := eF_ c19
       (first | rw [c19b0] | (simp only [i64_w, i32_w]; rw [c19b0]) | skip)
       have H' := Aside0.mk H
       clear H
       go_wp2
       repeat (go_quiet (fail); try go_wp2)
       go_meet
       case rel => exact ⟨_, (true), (by first | rfl | simp [*]), H', ⟨by have := HK1.out; first | omega | exact Nat.le_refl _⟩, ⟨by (with_reducible repeat (first | apply Kd.N_alloc | apply Kd.N_drewN | apply Kd.N_drew)); exact HO_6.out⟩, ⟨bl_ HB.out⟩⟩
     case rest =>
      clear HC17
      try clear c1
      try clear p2
      try clear c4
      try clear c4b0
      try clear c4b1
      try clear p4
      try clear q4
      try clear hx4
      try clear p6
      try clear c9
      try clear c9b0
      try clear c11
      try clear c11b0
      try clear c12
      try clear c12b0
      try clear c13
      try clear c13b0
      try clear c14
      try clear c14b0
      try clear c15
      try clear c15b0
      try clear c16
      try clear c16b0
      try clear c16b1
      try clear c19
      try clear c19b0
      try clear c19b1
      try clear hx438_0
      try clear hx438_1
      try clear hx438_2
      try clear hx438_3
      try clear hx438_4
      try clear hx438_5
      try clear hx438_6
      try clear hx438_7
      try clear hx439_0
      try clear hx439_1
      try clear hx439_2
      try clear hx439_3
      try clear hx439_4
      try clear hx439_5
      try clear hx439_6
      try clear hx439_7
      try clear p2
      try clear p438
      try clear p439
      try clear q438
      try clear q439
      obtain ⟨kq, x52_16, rfl, HA, HJ16, HO_6, HB⟩ := hcut
      cases kq with
      | zero => exact absurd HA.out (by simp [glacislaw06_SfieldKeys.j2])
      | succ kj16 =>
       have H := HA.out
       clear HA
       simp only [glacislaw06_SfieldKeys.j2] at H
       by_cases c20 : x52_16 = true
       ·subst c20
        rw [if_pos rfl] at H
        by_cases c21 : t433 = true
        ·subst c21
         rw [if_pos rfl] at H
         obtain rfl := Option.some.inj H
         go_wp2
         repeat (go_quiet (fail); try go_wp2)
         go_ret
         exact ⟨by first | rfl | (simp [errW_none, errW_some] <;> rfl) | (simp [*, errW_none, errW_some] <;> rfl) | (simp [q_ne_nil]; done), bl_ HB.out⟩
        ·exact absurd H (by rw [if_neg c21]; simp)
       ·replace c20 := Bool.eq_false_iff.mpr c20
        subst c20
        rw [if_neg (show ¬ (false = true) by decide)] at H
        by_cases c22 : a1 < 0
        ·rw [if_pos c22] at H
         have c22b0 : decide (a1 < 0) = true := decide_eq_true c22
         clear c22
         by_cases c23 : (t434.length : Int) = 0
         ·exact absurd H (by rw [if_pos c23]; simp)
         ·rw [if_neg c23] at H
          obtain ⟨c23b0, c23b1⟩ := eF_ c23
          have c23b2 : ¬ (t434 = []) := fun h_ => c23 (by rw [h_]; rfl)
          by_cases c24 : a0.size + 1 ≤ 9223372036854775807
          ·rw [if_pos c24] at H
           have c24b0 := eq_true c24
           have c24b1 : decide (a0.size + 1 ≤ 9223372036854775807) = true := decide_eq_true c24
           try have c24b2 : (9223372036854775807 < a0.size + 1) = False := eq_false (Nat.not_lt.2 c24)
           obtain ⟨ji25, hji25⟩ : ∃ j_ : Int, (Int.tmod (wrap64 (-(wrap64 (a1 + 1)))) (t434.length : Int)) = j_ := ⟨_, rfl⟩
           replace H : (if 0 ≤ (ji25) then (if (ji25) < (t434.length : Int) then (if (a0 ++ (⟨#[44]⟩ : ByteArray)).size + ((rd_T34 t434 (ji25)).f0).size ≤ 9223372036854775807 then (if ((a0 ++ (⟨#[44]⟩ : ByteArray)) ++ ((rd_T34 t434 (ji25)).f0)).size + 3 ≤ 9223372036854775807 then ((sfield_Dict.f kj16 (((a0 ++ (⟨#[44]⟩ : ByteArray)) ++ ((rd_T34 t434 (ji25)).f0)) ++ (⟨#[61, 55, 55]⟩ : ByteArray))).bind fun bt441 => ((some (([] : List (S34)) : List (S34))).bind fun y445 => (if y445.length + t434.length < 1099511627776 then ((some (y445 ++ t434 : List (S34))).bind fun y448 => (if (ji25) < (y448.length : Int) then ((glacisref06_Same.f kj16 bt441.1 (y448.set ((ji25) : Int).toNat (⟨(rd_T34 t434 (ji25)).f0, false, (⟨1, 77, (⟨#[]⟩ : ByteArray), ([] : List (S60))⟩ : S31), ([] : List (S31)), ([] : List (S60))⟩ : S34))).bind fun t453 => (if t433 = true then (if t453 = true then (some (bt441.2 == 0)) else (none)) else (none))) else (none))) else (none)))) else (none)) else (none)) else (none)) else (none)) = some r := by first | (rw [hji25] at H; exact H) | (simp only [hji25] at H ⊢; exact H)
           by_cases c26 : 0 ≤ (ji25)
           ·rw [if_pos c26] at H
            have c26b0 : decide (0 ≤ (ji25)) = true := decide_eq_true c26
            clear c26
            by_cases c27 : (ji25) < (t434.length : Int)
            ·rw [if_pos c27] at H
             have c27b0 : decide ((ji25) < (t434.length : Int)) = true := decide_eq_true c27
             clear c27
             by_cases c28 : (a0 ++ (⟨#[44]⟩ : ByteArray)).size + ((rd_T34 t434 (ji25)).f0).size ≤ 9223372036854775807
             ·rw [if_pos c28] at H
              have c28b0 := eq_true c28
              have c28b1 : decide ((a0 ++ (⟨#[44]⟩ : ByteArray)).size + ((rd_T34 t434 (ji25)).f0).size ≤ 9223372036854775807) = true := decide_eq_true c28
              try have c28b2 : (9223372036854775807 < (a0 ++ (⟨#[44]⟩ : ByteArray)).size + ((rd_T34 t434 (ji25)).f0).size) = False := eq_false (Nat.not_lt.2 c28)
              by_cases c29 : ((a0 ++ (⟨#[44]⟩ : ByteArray)) ++ ((rd_T34 t434 (ji25)).f0)).size + 3 ≤ 9223372036854775807
              ·rw [if_pos c29] at H
               have c29b0 := eq_true c29
               have c29b1 : decide (((a0 ++ (⟨#[44]⟩ : ByteArray)) ++ ((rd_T34 t434 (ji25)).f0)).size + 3 ≤ 9223372036854775807) = true := decide_eq_true c29
               try have c29b2 : (9223372036854775807 < ((a0 ++ (⟨#[44]⟩ : ByteArray)) ++ ((rd_T34 t434 (ji25)).f0)).size + 3) = False := eq_false (Nat.not_lt.2 c29)
               try (have c29d : (9223372036854775807 < a0.size + 1 + ((rd_T34 t434 (ji25)).f0).size + 3) = False := eq_false (by have h_ := c29; simp only [ByteArray.size_append] at h_; exact Nat.not_lt.2 h_))
               replace H := Option.bind_eq_some_iff.mp H
               obtain ⟨⟨t441, t442⟩, A300, H⟩ := H
               (try dsimp only at H)
               have A30 := Aside0.mk A300
               clear A300
               obtain ⟨y445, hy445⟩ : ∃ y_ : List (S34), y_ = (([] : List (S34))) := ⟨_, rfl⟩
               replace H : (if y445.length + t434.length < 1099511627776 then ((some (y445 ++ t434 : List (S34))).bind fun y448 => (if (ji25) < (y448.length : Int) then ((glacisref06_Same.f kj16 t441 (y448.set ((ji25) : Int).toNat (⟨(rd_T34 t434 (ji25)).f0, false, (⟨1, 77, (⟨#[]⟩ : ByteArray), ([] : List (S60))⟩ : S31), ([] : List (S31)), ([] : List (S60))⟩ : S34))).bind fun t453 => (if t433 = true then (if t453 = true then (some (t442 == 0)) else (none)) else (none))) else (none))) else (none)) = some r := by first | (rw [hy445]; with_reducible exact H) | (have H2_ := (Option.bind_some _ _).symm.trans H; rw [hy445]; with_reducible exact H2_) | (have H2_ := (Option.bind_some _ _).symm.trans H; with_reducible exact H2_) | with_reducible exact H | (rw [hy445]; exact H) | exact H
               have Ny445 := Aside0.mk hy445
               clear hy445
               by_cases c31 : y445.length + t434.length < 1099511627776
               ·rw [if_pos c31] at H
                have LMc31 := Aside0.mk c31
                clear c31
                obtain ⟨y448, hy448⟩ : ∃ y_ : List (S34), y_ = (y445 ++ t434) := ⟨_, rfl⟩
                replace H : (if (ji25) < (y448.length : Int) then ((glacisref06_Same.f kj16 t441 (y448.set ((ji25) : Int).toNat (⟨(rd_T34 t434 (ji25)).f0, false, (⟨1, 77, (⟨#[]⟩ : ByteArray), ([] : List (S60))⟩ : S31), ([] : List (S31)), ([] : List (S60))⟩ : S34))).bind fun t453 => (if t433 = true then (if t453 = true then (some (t442 == 0)) else (none)) else (none))) else (none)) = some r := by first | (rw [hy448]; with_reducible exact H) | (have H2_ := (Option.bind_some _ _).symm.trans H; rw [hy448]; with_reducible exact H2_) | (have H2_ := (Option.bind_some _ _).symm.trans H; with_reducible exact H2_) | with_reducible exact H | (rw [hy448]; exact H) | exact H
                have Ny448 := Aside0.mk hy448
                clear hy448
                by_cases c32 : (ji25) < (y448.length : Int)
                ·rw [if_pos c32] at H
                 have c32b0 : decide ((ji25) < (y448.length : Int)) = true := decide_eq_true c32
                 clear c32
                 obtain ⟨y452, hy452⟩ : ∃ y_ : List (S34), y_ = (y448.set ((ji25) : Int).toNat (⟨(rd_T34 t434 (ji25)).f0, false, (⟨1, 77, (⟨#[]⟩ : ByteArray), ([] : List (S60))⟩ : S31), ([] : List (S31)), ([] : List (S60))⟩ : S34)) := ⟨_, rfl⟩
                 replace H : ((glacisref06_Same.f kj16 t441 y452).bind fun t453 => (if t433 = true then (if t453 = true then (some (t442 == 0)) else (none)) else (none))) = some r := by first | (rw [hy452]; with_reducible exact H) | (have H2_ := (Option.bind_some _ _).symm.trans H; rw [hy452]; with_reducible exact H2_) | (have H2_ := (Option.bind_some _ _).symm.trans H; with_reducible exact H2_) | with_reducible exact H | (rw [hy452]; exact H) | exact H
                 have Ny452 := Aside0.mk hy452
                 clear hy452
                 replace H := Option.bind_eq_some_iff.mp H
                 obtain ⟨t453, A340, H⟩ := H
                 (try dsimp only at H)
                 have A34 := Aside0.mk A340
                 clear A340
                 by_cases c35 : t433 = true
                 ·subst c35
                  rw [if_pos rfl] at H
                  by_cases c36 : t453 = true
                  ·subst c36
                   rw [if_pos rfl] at H
                   obtain rfl := Option.some.inj H
                   have p440 : 0 ≤ ((ji25) : Int) := of_decide_eq_true (by assumption)
                   have q440 : (ji25) < (t434.length : Int) := of_decide_eq_true (by assumption)
                   obtain ⟨ad440, A440_5, c440_5, A440_6, c440_6, A440_7, c440_7, e440, hx440_0, hx440_1, hx440_2, hx440_3, hx440_4, hx440_5, hx440_6, hx440_7, hl440_5, hi440_5, hl440_6, hi440_6, hl440_7, hi440_7⟩ := at_T34 (Kd.N_reads' HO_6.out).2.2 (ji25) p440 q440
                   cases e440
                   obtain ⟨ce440, hce440, hMe440, hcc440⟩ := Kd.N_get HO_6.out z34 (ji25) p440 (by first | exact q440 | exact of_decide_eq_true (by assumption) | (have e_ := (Kd.N_reads' HO_6.out).1; omega))
                   obtain ⟨ua440_5, uc440_5, ua440_6, uc440_6, ua440_7, uc440_7, rfl, ul440_5, ge440_5, ul440_6, ge440_6, ul440_7, ge440_7⟩ := k34_openF hMe440
                   have hv440_5 := hcc440 5 _ rfl
                   rw [add_field _ _ 5 (by omega)] at hv440_5
                   replace hv440_5 := Option.some.inj (hv440_5.symm.trans hx440_5)
                   injection hv440_5 with hva_ hvn_ hvc_
                   rw [hva_] at ge440_5
                   rw [hvc_] at ul440_5
                   have HL440_5 := Aside0.mk (show Kd.V k60 60 _ w.heap.size _ _ ((rd_T34 t434 (ji25)).f2.f3) from Kd.V_mk ul440_5 ge440_5)
                   clear hva_ hvn_ hvc_ ge440_5 ul440_5
                   have hv440_6 := hcc440 6 _ rfl
                   rw [add_field _ _ 6 (by omega)] at hv440_6
                   replace hv440_6 := Option.some.inj (hv440_6.symm.trans hx440_6)
                   injection hv440_6 with hva_ hvn_ hvc_
                   rw [hva_] at ge440_6
                   rw [hvc_] at ul440_6
                   have HL440_6 := Aside0.mk (show Kd.V k31 31 _ w.heap.size _ _ ((rd_T34 t434 (ji25)).f3) from Kd.V_mk ul440_6 ge440_6)
                   clear hva_ hvn_ hvc_ ge440_6 ul440_6
                   have hv440_7 := hcc440 7 _ rfl
                   rw [add_field _ _ 7 (by omega)] at hv440_7
                   replace hv440_7 := Option.some.inj (hv440_7.symm.trans hx440_7)
                   injection hv440_7 with hva_ hvn_ hvc_
                   rw [hva_] at ge440_7
                   rw [hvc_] at ul440_7
                   have HL440_7 := Aside0.mk (show Kd.V k60 60 _ w.heap.size _ _ ((rd_T34 t434 (ji25)).f4) from Kd.V_mk ul440_7 ge440_7)
                   clear hva_ hvn_ hvc_ ge440_7 ul440_7
                   clear hcc440 hce440
                   have HR440_5 := Aside0.mk hi440_5
                   have HC440_5 := Aside0.mk hl440_5
                   clear hi440_5 hl440_5
                   have HR440_6 := Aside0.mk hi440_6
                   have HC440_6 := Aside0.mk hl440_6
                   clear hi440_6 hl440_6
                   have HR440_7 := Aside0.mk hi440_7
                   have HC440_7 := Aside0.mk hl440_7
                   clear hi440_7 hl440_7
                   replace p440 := eq_true p440
                   replace q440 := eq_true q440
                   go_wp2_with (first | (go_at_call 12; (with_reducible refine (sfield_Dict.calls kj16 (((a0 ++ (⟨#[44]⟩ : ByteArray)) ++ ((rd_T34 t434 (ji25)).f0)) ++ (⟨#[61, 55, 55]⟩ : ByteArray)) t441 t442 _ A30.out).mono ?_); rintro e w37 ⟨v443, rfl, ho0, hb⟩; have n0_ := Aside0.mk (Kd.N_elder' (by (with_reducible repeat (first | apply Kd.N_alloc | apply Kd.N_drewN | apply Kd.N_drew)); exact HO_6.out) (Kd.N_base (Kd.R_N ho0)) hb); have n1_ := Aside0.mk (Kd.V_elder' (by (with_reducible repeat (first | apply Kd.V_alloc | apply Kd.V_drewN | apply Kd.V_drew)); exact HL440_5.out) (Kd.N_base (Kd.R_N ho0)) hb); have n2_ := Aside0.mk (Kd.V_elder' (by (with_reducible repeat (first | apply Kd.V_alloc | apply Kd.V_drewN | apply Kd.V_drew)); exact HL440_6.out) (Kd.N_base (Kd.R_N ho0)) hb); have n3_ := Aside0.mk (Kd.V_elder' (by (with_reducible repeat (first | apply Kd.V_alloc | apply Kd.V_drewN | apply Kd.V_drew)); exact HL440_7.out) (Kd.N_base (Kd.R_N ho0)) hb); have n4_ := Aside0.mk (Kd.N_lower (Kd.N_mono (ok' := fun k_ => some k_ ≠ (.slice (some ad440) t434.length co18 : Value).ownBlock) (Kd.R_N (Kd.R_bound ho0)) (fun k_ hk_ => (Kd.fresh' (Kd.N_lt (by (with_reducible repeat (first | apply Kd.N_alloc | apply Kd.N_drewN | apply Kd.N_drew)); exact HO_6.out)) k_ hk_.2.1))) (below_size (bl_ HB.out))); have n5_ := Aside0.mk (Kd.C_below (by repeat (first | (with_reducible exact HR440_5.out) | (with_reducible refine Kd.C_alloc ?_ _) | (with_reducible refine Kd.C_drewN ?_ _) | (with_reducible refine Kd.C_drew ?_) | exact HR440_5.out)) hb); have n6_ := Aside0.mk (Kd.C_below (by repeat (first | (with_reducible exact HR440_6.out) | (with_reducible refine Kd.C_alloc ?_ _) | (with_reducible refine Kd.C_drewN ?_ _) | (with_reducible refine Kd.C_drew ?_) | exact HR440_6.out)) hb); have n7_ := Aside0.mk (Kd.C_below (by repeat (first | (with_reducible exact HR440_7.out) | (with_reducible refine Kd.C_alloc ?_ _) | (with_reducible refine Kd.C_drewN ?_ _) | (with_reducible refine Kd.C_drew ?_) | exact HR440_7.out)) hb); have n8_ := Aside0.mk (below_step (bl_ HB.out) hb); clear HO_6; clear HL440_5; clear HL440_6; clear HL440_7; clear HR440_5; clear HR440_6; clear HR440_7; clear HB; have HO_6 := n0_; have HL440_5 := n1_; have HL440_6 := n2_; have HL440_7 := n3_; have HO444 := n4_; have HR440_5 := n5_; have HR440_6 := n6_; have HR440_7 := n7_; have HB := n8_; clear n0_ n1_ n2_ n3_ n4_ n5_ n6_ n7_ n8_; (try clear hb); (try clear hb2); (try clear hk); (try clear hi); (try clear ho0)) | ((with_reducible refine gate_dst (N := 81) rfl ?_); (try (refine gate_guard (by rfl) ?_; dsimp only)); refine Kd.N_lit k34 _ 34 ?hg (N' := 81) ?hd (xs := ([] : List (S34))) (inner := []) (ok := (fun k_ => some k_ ≠ (.slice (some ad440) t434.length co18 : Value).ownBlock ∧ some k_ ≠ (v443 : Value).ownBlock)) (okp := (fun k_ => some k_ ≠ (.slice (some ad440) t434.length co18 : Value).ownBlock ∧ some k_ ≠ (v443 : Value).ownBlock)) ?hr ?hp (fun _ hk => hk) ((show ∀ k_, w37.heap.size ≤ k_ → (fun k_ => some k_ ≠ (.slice (some ad440) t434.length co18 : Value).ownBlock ∧ some k_ ≠ (v443 : Value).ownBlock) k_ from fun k_ hk => ⟨Kd.fresh' (Kd.N_lt (by (with_reducible repeat (first | apply Kd.N_alloc | apply Kd.N_drewN | apply Kd.N_drew)); exact HO_6.out)) k_ hk, Kd.fresh' (Kd.N_lt (by (with_reducible repeat (first | apply Kd.N_alloc | apply Kd.N_drewN | apply Kd.N_drew)); exact HO444.out)) k_ hk⟩) _ (Nat.le_refl _)) (Below.refl _ _) (Nat.le_refl _) (by simp) ?_; (case hd => rfl); (case hg => rfl); (case hr => first | (go_simp; done) | (go_simp; rfl)); (case hp => exact (Reps.none _ _)); intro v446 w38 ho39 hb hg_ hnew_; clear hg_ hnew_; (first | rw [← Ny445.out] at ho39 | (simp only [Int.reduceToNat] at ho39; rw [← Ny445.out] at ho39)); have n0_ := Aside0.mk (Kd.N_elder' (by (with_reducible repeat (first | apply Kd.N_alloc | apply Kd.N_drewN | apply Kd.N_drew)); exact HO_6.out) (Kd.N_base ho39) hb); have n1_ := Aside0.mk (Kd.V_elder' (by (with_reducible repeat (first | apply Kd.V_alloc | apply Kd.V_drewN | apply Kd.V_drew)); exact HL440_5.out) (Kd.N_base ho39) hb); have n2_ := Aside0.mk (Kd.V_elder' (by (with_reducible repeat (first | apply Kd.V_alloc | apply Kd.V_drewN | apply Kd.V_drew)); exact HL440_6.out) (Kd.N_base ho39) hb); have n3_ := Aside0.mk (Kd.V_elder' (by (with_reducible repeat (first | apply Kd.V_alloc | apply Kd.V_drewN | apply Kd.V_drew)); exact HL440_7.out) (Kd.N_base ho39) hb); have n4_ := Aside0.mk (Kd.N_elder' (by (with_reducible repeat (first | apply Kd.N_alloc | apply Kd.N_drewN | apply Kd.N_drew)); exact HO444.out) (Kd.N_base ho39) hb); have n5_ := Aside0.mk (Kd.N_lower ho39 (below_size (bl_ HB.out))); have n6_ := Aside0.mk (Kd.C_below (by repeat (first | (with_reducible exact HR440_5.out) | (with_reducible refine Kd.C_alloc ?_ _) | (with_reducible refine Kd.C_drewN ?_ _) | (with_reducible refine Kd.C_drew ?_) | exact HR440_5.out)) hb); have n7_ := Aside0.mk (Kd.C_below (by repeat (first | (with_reducible exact HR440_6.out) | (with_reducible refine Kd.C_alloc ?_ _) | (with_reducible refine Kd.C_drewN ?_ _) | (with_reducible refine Kd.C_drew ?_) | exact HR440_6.out)) hb); have n8_ := Aside0.mk (Kd.C_below (by repeat (first | (with_reducible exact HR440_7.out) | (with_reducible refine Kd.C_alloc ?_ _) | (with_reducible refine Kd.C_drewN ?_ _) | (with_reducible refine Kd.C_drew ?_) | exact HR440_7.out)) hb); have n9_ := Aside0.mk (below_step (bl_ HB.out) hb); clear HO_6; clear HL440_5; clear HL440_6; clear HL440_7; clear HO444; clear HR440_5; clear HR440_6; clear HR440_7; clear HB; have HO_6 := n0_; have HL440_5 := n1_; have HL440_6 := n2_; have HL440_7 := n3_; have HO444 := n4_; have HO447 := n5_; have HR440_5 := n6_; have HR440_6 := n7_; have HR440_7 := n8_; have HB := n9_; clear n0_ n1_ n2_ n3_ n4_ n5_ n6_ n7_ n8_ n9_; clear hb ho39) | ((with_reducible refine gate_builtin (b := .append) (xs := #[.tmp 81, .tmp 82]) rfl ?_); (try (refine gate_guard (by rfl) ?_; dsimp only)); at_builtin; refine Kd.N_append_rows k34 (w0 := w) w.heap.size rfl (.tmp 81) (.tmp 82) 23 34 (.agg #[(.string ⟨#[]⟩), (.bool false), (.int .i64 0), (.int .i64 0), (.string ⟨#[]⟩), (.slice none 0 0), (.slice none 0 0), (.slice none 0 0)]) 128 rfl Tryz.underlying23 info34 rfl (by decide) (by omega) v446 y445 t434 _ _ _ (fun k_ => some k_ ≠ (v443 : Value).ownBlock) (fun k_ => ((fun k_ => some k_ ≠ (v443 : Value).ownBlock)) k_ ∧ some k_ ≠ (v446 : Value).ownBlock) rfl rfl ?aO ?aR (fun _ hk => hk) ?aF ?aB ?aS ?aL ?_; (case aR => exact (by skip; exact Kd.N_F (Kd.N_mono (ok' := (fun k_ => ((fun k_ => some k_ ≠ (v443 : Value).ownBlock)) k_ ∧ some k_ ≠ (v446 : Value).ownBlock)) (HO_6.out) (fun k_ hk => ⟨hk.1.2, hk.2⟩)))); (case aB => exact (bl_ HB.out)); (case aF => exact (fun k_ hk => Kd.fresh' (Kd.N_lt (by (with_reducible repeat (first | apply Kd.N_alloc | apply Kd.N_drewN | apply Kd.N_drew)); exact HO444.out)) k_ hk)); (case aO => exact (by (with_reducible repeat (first | apply Kd.N_alloc | apply Kd.N_drewN | apply Kd.N_drew)); exact Kd.N_mono HO447.out (fun _ hk => hk.2))); (case aS => exact (below_size (bl_ HB.out))); (case aL => have := LMc31.out; omega); intro v449 w40 ho hb hg hat; rw [← Ny448.out] at ho; have n0_ := Aside0.mk (Kd.N_afterv (ok := (fun k_ => some k_ ≠ (v443 : Value).ownBlock)) (by (with_reducible repeat (first | apply Kd.N_alloc | apply Kd.N_drewN | apply Kd.N_drew)); exact Kd.N_mono HO_6.out (fun _ hk => ⟨hk.1.2, hk.2⟩)) hg hat); have n1_ := Aside0.mk (Kd.V_afterv (ok := (fun k_ => some k_ ≠ (.slice (some ad440) t434.length co18 : Value).ownBlock ∧ some k_ ≠ (v443 : Value).ownBlock)) (by (with_reducible repeat (first | apply Kd.V_alloc | apply Kd.V_drewN | apply Kd.V_drew)); exact Kd.V_mono HL440_5.out (fun _ hk => ⟨⟨hk.1.1.2, hk.1.2⟩, hk.2⟩)) hg hat); have n2_ := Aside0.mk (Kd.V_afterv (ok := (fun k_ => some k_ ≠ (.slice (some ad440) t434.length co18 : Value).ownBlock ∧ some k_ ≠ (v443 : Value).ownBlock)) (by (with_reducible repeat (first | apply Kd.V_alloc | apply Kd.V_drewN | apply Kd.V_drew)); exact Kd.V_mono HL440_6.out (fun _ hk => ⟨⟨hk.1.1.2, hk.1.2⟩, hk.2⟩)) hg hat); have n3_ := Aside0.mk (Kd.V_afterv (ok := (fun k_ => some k_ ≠ (.slice (some ad440) t434.length co18 : Value).ownBlock ∧ some k_ ≠ (v443 : Value).ownBlock)) (by (with_reducible repeat (first | apply Kd.V_alloc | apply Kd.V_drewN | apply Kd.V_drew)); exact Kd.V_mono HL440_7.out (fun _ hk => ⟨⟨hk.1.1.2, hk.1.2⟩, hk.2⟩)) hg hat); have n4_ := Aside0.mk (Kd.N_afterv (ok := (fun k_ => some k_ ≠ (.slice (some ad440) t434.length co18 : Value).ownBlock)) (by (with_reducible repeat (first | apply Kd.N_alloc | apply Kd.N_drewN | apply Kd.N_drew)); exact HO444.out) hg hat); have n5_ := Aside0.mk (hb); have n6_ := Aside0.mk (ho); clear HO_6; clear HL440_5; clear HL440_6; clear HL440_7; clear HO444; clear HB; clear HO447; have HO_6 := n0_; have HL440_5 := n1_; have HL440_6 := n2_; have HL440_7 := n3_; have HO444 := n4_; have HB := n5_; have HO450 := n6_; clear n0_ n1_ n2_ n3_ n4_ n5_ n6_; clear ho hb hg hat; have p451 : 0 ≤ ((ji25) : Int) := of_decide_eq_true (by assumption); have q451 : (ji25) < (t434.length : Int) := of_decide_eq_true (by assumption); obtain ⟨ad451, A451_5, c451_5, A451_6, c451_6, A451_7, c451_7, e451, hx451_0, hx451_1, hx451_2, hx451_3, hx451_4, hx451_5, hx451_6, hx451_7, hl451_5, hi451_5, hl451_6, hi451_6, hl451_7, hi451_7⟩ := at_T34 (Kd.N_reads' HO_6.out).2.2 (ji25) p451 q451; obtain rfl : ad440 = ad451 := (by injection e451); obtain ⟨ce451, hce451, hMe451, hcc451⟩ := Kd.N_get HO_6.out z34 (ji25) p451 (by first | exact q451 | exact of_decide_eq_true (by assumption) | (have e_ := (Kd.N_reads' HO_6.out).1; omega)); obtain ⟨ua451_5, uc451_5, ua451_6, uc451_6, ua451_7, uc451_7, rfl, ul451_5, ge451_5, ul451_6, ge451_6, ul451_7, ge451_7⟩ := k34_openF hMe451; have hv451_5 := hcc451 5 _ rfl; rw [add_field _ _ 5 (by omega)] at hv451_5; replace hv451_5 := Option.some.inj (hv451_5.symm.trans hx451_5); injection hv451_5 with hva_ hvn_ hvc_; rw [hva_] at ge451_5; rw [hvc_] at ul451_5; have HL451_5 := Aside0.mk (show Kd.V k60 60 _ w.heap.size _ _ ((rd_T34 t434 (ji25)).f2.f3) from Kd.V_mk ul451_5 ge451_5); clear hva_ hvn_ hvc_ ge451_5 ul451_5; have hv451_6 := hcc451 6 _ rfl; rw [add_field _ _ 6 (by omega)] at hv451_6; replace hv451_6 := Option.some.inj (hv451_6.symm.trans hx451_6); injection hv451_6 with hva_ hvn_ hvc_; rw [hva_] at ge451_6; rw [hvc_] at ul451_6; have HL451_6 := Aside0.mk (show Kd.V k31 31 _ w.heap.size _ _ ((rd_T34 t434 (ji25)).f3) from Kd.V_mk ul451_6 ge451_6); clear hva_ hvn_ hvc_ ge451_6 ul451_6; have hv451_7 := hcc451 7 _ rfl; rw [add_field _ _ 7 (by omega)] at hv451_7; replace hv451_7 := Option.some.inj (hv451_7.symm.trans hx451_7); injection hv451_7 with hva_ hvn_ hvc_; rw [hva_] at ge451_7; rw [hvc_] at ul451_7; have HL451_7 := Aside0.mk (show Kd.V k60 60 _ w.heap.size _ _ ((rd_T34 t434 (ji25)).f4) from Kd.V_mk ul451_7 ge451_7); clear hva_ hvn_ hvc_ ge451_7 ul451_7; clear hcc451 hce451; have HR451_5 := Aside0.mk hi451_5; have HC451_5 := Aside0.mk hl451_5; clear hi451_5 hl451_5; have HR451_6 := Aside0.mk hi451_6; have HC451_6 := Aside0.mk hl451_6; clear hi451_6 hl451_6; have HR451_7 := Aside0.mk hi451_7; have HC451_7 := Aside0.mk hl451_7; clear hi451_7 hl451_7; replace p451 := eq_true p451; replace q451 := eq_true q451; have p33 : 0 ≤ ((ji25) : Int) := of_decide_eq_true (by assumption); have q33 : ((ji25) : Int) < ((y448.length : Int) : Int) := of_decide_eq_true (by assumption); obtain ⟨go33, co33, eo33, gb33, gl33, cl33, HG33⟩ := Kd.N_form HO450.out (by omega); (first | cases eo33 | (injection eo33 with ea_ en_ ec_; (first | subst ea_ | (injection ea_ with ea_; subst ea_)); subst ec_; clear en_)); have GB33 := Aside0.mk gb33; have GG33 := Aside0.mk HG33; clear gb33 gl33 HG33; obtain ⟨ce33, hcl33, hM33, hcc33, hfr33⟩ := Kd.N_elem HO450.out z34 ((ji25) : Int) p33 q33; obtain ⟨ua33_5, uc33_5, ua33_6, uc33_6, ua33_7, uc33_7, rfl, ul33_5, ge33_5, ul33_6, ge33_6, ul33_7, ge33_7⟩ := k34_openF hM33; have hx33_0 : w40.cell? ⟨go33, ((ji25) : Int).toNat * 8, none⟩ = some (.string ((rd_T34 y448 (ji25)).f0)) := hcc33 0 _ rfl; have hx33_1 : w40.cell? ⟨go33, ((ji25) : Int).toNat * 8 + 1, none⟩ = some (.bool ((rd_T34 y448 (ji25)).f1)) := hcc33 1 _ rfl; have hx33_2 : w40.cell? ⟨go33, ((ji25) : Int).toNat * 8 + 2, none⟩ = some (.int .i64 ((rd_T34 y448 (ji25)).f2.f0)) := hcc33 2 _ rfl; have hx33_3 : w40.cell? ⟨go33, ((ji25) : Int).toNat * 8 + 3, none⟩ = some (.int .i64 ((rd_T34 y448 (ji25)).f2.f1)) := hcc33 3 _ rfl; have hx33_4 : w40.cell? ⟨go33, ((ji25) : Int).toNat * 8 + 4, none⟩ = some (.string ((rd_T34 y448 (ji25)).f2.f2)) := hcc33 4 _ rfl; have hx33_5 : w40.cell? ⟨go33, ((ji25) : Int).toNat * 8 + 5, none⟩ = some (.slice ua33_5 ((rd_T34 y448 (ji25)).f2.f3).length uc33_5) := hcc33 5 _ rfl; have hx33_6 : w40.cell? ⟨go33, ((ji25) : Int).toNat * 8 + 6, none⟩ = some (.slice ua33_6 ((rd_T34 y448 (ji25)).f3).length uc33_6) := hcc33 6 _ rfl; have hx33_7 : w40.cell? ⟨go33, ((ji25) : Int).toNat * 8 + 7, none⟩ = some (.slice ua33_7 ((rd_T34 y448 (ji25)).f4).length uc33_7) := hcc33 7 _ rfl; have hf33_0 : w40.frozen? ⟨go33, ((ji25) : Int).toNat * 8, none⟩ = false := hfr33 0; have hf33_1 : w40.frozen? ⟨go33, ((ji25) : Int).toNat * 8 + 1, none⟩ = false := hfr33 1; have hf33_2 : w40.frozen? ⟨go33, ((ji25) : Int).toNat * 8 + 2, none⟩ = false := hfr33 2; have hf33_3 : w40.frozen? ⟨go33, ((ji25) : Int).toNat * 8 + 3, none⟩ = false := hfr33 3; have hf33_4 : w40.frozen? ⟨go33, ((ji25) : Int).toNat * 8 + 4, none⟩ = false := hfr33 4; have hf33_5 : w40.frozen? ⟨go33, ((ji25) : Int).toNat * 8 + 5, none⟩ = false := hfr33 5; have hf33_6 : w40.frozen? ⟨go33, ((ji25) : Int).toNat * 8 + 6, none⟩ = false := hfr33 6; have hf33_7 : w40.frozen? ⟨go33, ((ji25) : Int).toNat * 8 + 7, none⟩ = false := hfr33 7; clear hcl33 hcc33 hfr33 hM33; replace p33 := eq_true p33; replace q33 := eq_true q33; have HX41 := Aside0.mk (show Kd.N k34 34 w40 w.heap.size (fun k_ => some k_ ≠ (v443 : Value).ownBlock) (.slice (some ⟨go33, 0, none⟩) y448.length co33) y448 from (by (with_reducible repeat (first | apply Kd.N_alloc | apply Kd.N_drewN | apply Kd.N_drew)); exact HO450.out)); obtain ⟨ce41, hcl41, hM41, hcc41, hfr41⟩ := Kd.N_elem HX41.out z34 ((ji25) : Int) (of_decide_eq_true (by assumption)) (by have h_ : ((ji25) : Int) < ((y448.length : Int) : Int) := of_decide_eq_true (by assumption); first | exact h_ | (have e_ := (Kd.N_reads' HO450.out).1; omega) | simpa using h_); obtain ⟨ua41_5, uc41_5, ua41_6, uc41_6, ua41_7, uc41_7, rfl, ul41_5, ge41_5, ul41_6, ge41_6, ul41_7, ge41_7⟩ := k34_openF hM41; have HP41 := Kd.N_seg HX41.out ((ji25) : Int) (of_decide_eq_true (by assumption)) (by have h_ : ((ji25) : Int) < ((y448.length : Int) : Int) := of_decide_eq_true (by assumption); first | exact h_ | (have e_ := (Kd.N_reads' HO450.out).1; omega) | simpa using h_) (seg := [.string ((rd_T34 t434 (ji25)).f0), .bool false, .int .i64 1, .int .i64 77, .string ⟨#[]⟩, .slice none 0 0, .slice none 0 0, .slice none 0 0]) (j := 0) hcl41 hcc41 (show 8 ≤ 8 from by decide) (x' := (⟨(rd_T34 t434 (ji25)).f0, false, (⟨1, 77, (⟨#[]⟩ : ByteArray), ([] : List (S60))⟩ : S31), ([] : List (S31)), ([] : List (S60))⟩ : S34)) (k34_mkF _ _ (⟨(rd_T34 t434 (ji25)).f0, false, (⟨1, 77, (⟨#[]⟩ : ByteArray), ([] : List (S60))⟩ : S31), ([] : List (S31)), ([] : List (S60))⟩ : S34) (Nat.le_refl _) (Kd.F_nil _ _ _) (Nat.le_refl _) (Kd.F_nil _ _ _) (Nat.le_refl _) (Kd.F_nil _ _ _)) (fun _ hk => hk); have hx41_0 := hcc41 0 _ rfl; (try simp only [show (k34).sz = 8 from rfl, Nat.mul_one, Nat.add_zero] at hx41_0); have hf41_0 := hfr41 0; (try simp only [show (k34).sz = 8 from rfl, Nat.mul_one, Nat.add_zero] at hf41_0); have hx41_1 := hcc41 1 _ rfl; (try simp only [show (k34).sz = 8 from rfl, Nat.mul_one, Nat.add_zero] at hx41_1); have hf41_1 := hfr41 1; (try simp only [show (k34).sz = 8 from rfl, Nat.mul_one, Nat.add_zero] at hf41_1); have hx41_2 := hcc41 2 _ rfl; (try simp only [show (k34).sz = 8 from rfl, Nat.mul_one, Nat.add_zero] at hx41_2); have hf41_2 := hfr41 2; (try simp only [show (k34).sz = 8 from rfl, Nat.mul_one, Nat.add_zero] at hf41_2); have hx41_3 := hcc41 3 _ rfl; (try simp only [show (k34).sz = 8 from rfl, Nat.mul_one, Nat.add_zero] at hx41_3); have hf41_3 := hfr41 3; (try simp only [show (k34).sz = 8 from rfl, Nat.mul_one, Nat.add_zero] at hf41_3); have hx41_4 := hcc41 4 _ rfl; (try simp only [show (k34).sz = 8 from rfl, Nat.mul_one, Nat.add_zero] at hx41_4); have hf41_4 := hfr41 4; (try simp only [show (k34).sz = 8 from rfl, Nat.mul_one, Nat.add_zero] at hf41_4); have hx41_5 := hcc41 5 _ rfl; (try simp only [show (k34).sz = 8 from rfl, Nat.mul_one, Nat.add_zero] at hx41_5); have hf41_5 := hfr41 5; (try simp only [show (k34).sz = 8 from rfl, Nat.mul_one, Nat.add_zero] at hf41_5); have hx41_6 := hcc41 6 _ rfl; (try simp only [show (k34).sz = 8 from rfl, Nat.mul_one, Nat.add_zero] at hx41_6); have hf41_6 := hfr41 6; (try simp only [show (k34).sz = 8 from rfl, Nat.mul_one, Nat.add_zero] at hf41_6); have hx41_7 := hcc41 7 _ rfl; (try simp only [show (k34).sz = 8 from rfl, Nat.mul_one, Nat.add_zero] at hx41_7); have hf41_7 := hfr41 7; (try simp only [show (k34).sz = 8 from rfl, Nat.mul_one, Nat.add_zero] at hf41_7); clear hcl41 hcc41 hfr41 hM41) | ((with_reducible refine gate_store (t := 34) (p := 93) rfl ?_); (try (rw [drewN_self w40]; generalize hq_ : World.drewN w40 _ = w40; have n0_ := Aside0.mk (Kd.N_at hq_ HO_6.out); have n1_ := Aside0.mk (Kd.V_at hq_ HL440_5.out); have n2_ := Aside0.mk (Kd.V_at hq_ HL440_6.out); have n3_ := Aside0.mk (Kd.V_at hq_ HL440_7.out); have n4_ := Aside0.mk (Kd.N_at hq_ HO444.out); have n5_ := Aside0.mk (Kd.N_at hq_ HO450.out); have n6_ := Aside0.mk (Kd.V_at hq_ HL451_5.out); have n7_ := Aside0.mk (Kd.V_at hq_ HL451_6.out); have n8_ := Aside0.mk (Kd.V_at hq_ HL451_7.out); have n9_ := Aside0.mk (below_at hq_ HB.out); clear hq_ HO_6 HL440_5 HL440_6 HL440_7 HO444 HO450 HL451_5 HL451_6 HL451_7 HB; have HO_6 := n0_; have HL440_5 := n1_; have HL440_6 := n2_; have HL440_7 := n3_; have HO444 := n4_; have HO450 := n5_; have HL451_5 := n6_; have HL451_6 := n7_; have HL451_7 := n8_; have HB := n9_; clear n0_ n1_ n2_ n3_ n4_ n5_ n6_ n7_ n8_ n9_; (try (have HX41 := Aside0.mk (show Kd.N k34 34 w40 w.heap.size (fun k_ => some k_ ≠ (v443 : Value).ownBlock) (.slice (some ⟨go33, 0, none⟩) y448.length co33) y448 from (by (with_reducible repeat (first | apply Kd.N_alloc | apply Kd.N_drewN | apply Kd.N_drew)); exact HO450.out)))); (try (obtain ⟨ce41, hcl41, hM41, hcc41, hfr41⟩ := Kd.N_elem HX41.out z34 ((ji25) : Int) (of_decide_eq_true (by assumption)) (by have h_ : ((ji25) : Int) < ((y448.length : Int) : Int) := of_decide_eq_true (by assumption); first | exact h_ | (have e_ := (Kd.N_reads' HO450.out).1; omega) | simpa using h_))); (try (obtain ⟨ua41_5, uc41_5, ua41_6, uc41_6, ua41_7, uc41_7, rfl, ul41_5, ge41_5, ul41_6, ge41_6, ul41_7, ge41_7⟩ := k34_openF hM41)); (try (have HP41 := Kd.N_seg HX41.out ((ji25) : Int) (of_decide_eq_true (by assumption)) (by have h_ : ((ji25) : Int) < ((y448.length : Int) : Int) := of_decide_eq_true (by assumption); first | exact h_ | (have e_ := (Kd.N_reads' HO450.out).1; omega) | simpa using h_) (seg := [.string ((rd_T34 t434 (ji25)).f0), .bool false, .int .i64 1, .int .i64 77, .string ⟨#[]⟩, .slice none 0 0, .slice none 0 0, .slice none 0 0]) (j := 0) hcl41 hcc41 (show 8 ≤ 8 from by decide) (x' := (⟨(rd_T34 t434 (ji25)).f0, false, (⟨1, 77, (⟨#[]⟩ : ByteArray), ([] : List (S60))⟩ : S31), ([] : List (S31)), ([] : List (S60))⟩ : S34)) (k34_mkF _ _ (⟨(rd_T34 t434 (ji25)).f0, false, (⟨1, 77, (⟨#[]⟩ : ByteArray), ([] : List (S60))⟩ : S31), ([] : List (S31)), ([] : List (S60))⟩ : S34) (Nat.le_refl _) (Kd.F_nil _ _ _) (Nat.le_refl _) (Kd.F_nil _ _ _) (Nat.le_refl _) (Kd.F_nil _ _ _)) (fun _ hk => hk))); (try (have hx41_0 := hcc41 0 _ rfl)); (try (try simp only [show (k34).sz = 8 from rfl, Nat.mul_one, Nat.add_zero] at hx41_0)); (try (have hf41_0 := hfr41 0)); (try (try simp only [show (k34).sz = 8 from rfl, Nat.mul_one, Nat.add_zero] at hf41_0)); (try (have hx41_1 := hcc41 1 _ rfl)); (try (try simp only [show (k34).sz = 8 from rfl, Nat.mul_one, Nat.add_zero] at hx41_1)); (try (have hf41_1 := hfr41 1)); (try (try simp only [show (k34).sz = 8 from rfl, Nat.mul_one, Nat.add_zero] at hf41_1)); (try (have hx41_2 := hcc41 2 _ rfl)); (try (try simp only [show (k34).sz = 8 from rfl, Nat.mul_one, Nat.add_zero] at hx41_2)); (try (have hf41_2 := hfr41 2)); (try (try simp only [show (k34).sz = 8 from rfl, Nat.mul_one, Nat.add_zero] at hf41_2)); (try (have hx41_3 := hcc41 3 _ rfl)); (try (try simp only [show (k34).sz = 8 from rfl, Nat.mul_one, Nat.add_zero] at hx41_3)); (try (have hf41_3 := hfr41 3)); (try (try simp only [show (k34).sz = 8 from rfl, Nat.mul_one, Nat.add_zero] at hf41_3)); (try (have hx41_4 := hcc41 4 _ rfl)); (try (try simp only [show (k34).sz = 8 from rfl, Nat.mul_one, Nat.add_zero] at hx41_4)); (try (have hf41_4 := hfr41 4)); (try (try simp only [show (k34).sz = 8 from rfl, Nat.mul_one, Nat.add_zero] at hf41_4)); (try (have hx41_5 := hcc41 5 _ rfl)); (try (try simp only [show (k34).sz = 8 from rfl, Nat.mul_one, Nat.add_zero] at hx41_5)); (try (have hf41_5 := hfr41 5)); (try (try simp only [show (k34).sz = 8 from rfl, Nat.mul_one, Nat.add_zero] at hf41_5)); (try (have hx41_6 := hcc41 6 _ rfl)); (try (try simp only [show (k34).sz = 8 from rfl, Nat.mul_one, Nat.add_zero] at hx41_6)); (try (have hf41_6 := hfr41 6)); (try (try simp only [show (k34).sz = 8 from rfl, Nat.mul_one, Nat.add_zero] at hf41_6)); (try (have hx41_7 := hcc41 7 _ rfl)); (try (try simp only [show (k34).sz = 8 from rfl, Nat.mul_one, Nat.add_zero] at hx41_7)); (try (have hf41_7 := hfr41 7)); (try (try simp only [show (k34).sz = 8 from rfl, Nat.mul_one, Nat.add_zero] at hf41_7)); (try (clear hcl41 hcc41 hfr41 hM41)))); refine store_event (t := 34) (p := 93) (v := ?vo_w42) (w1 := ((((((((w40.setCell ⟨go33, ((ji25) : Int).toNat * 8, none⟩ (.string ((rd_T34 t434 (ji25)).f0))).setCell ⟨go33, ((ji25) : Int).toNat * 8 + 1, none⟩ (.bool false)).setCell ⟨go33, ((ji25) : Int).toNat * 8 + 2, none⟩ (.int .i64 1)).setCell ⟨go33, ((ji25) : Int).toNat * 8 + 3, none⟩ (.int .i64 77)).setCell ⟨go33, ((ji25) : Int).toNat * 8 + 4, none⟩ (.string ⟨#[]⟩)).setCell ⟨go33, ((ji25) : Int).toNat * 8 + 5, none⟩ (.slice none 0 0)).setCell ⟨go33, ((ji25) : Int).toNat * 8 + 6, none⟩ (.slice none 0 0)).setCell ⟨go33, ((ji25) : Int).toNat * 8 + 7, none⟩ (.slice none 0 0))) ?hg ?ho ?hn ?hr ?_; (case ho => rfl); (case hg => rfl); (case hn => rfl); (case hr => first | (go_simp; done) | (go_simp; rfl)); intro w42 hw; have hg : w40.grownBy w42 (some go33) := (by rw [hw]; exact HP41.2); have hp_ : Kd.N k34 34 w42 w.heap.size (fun k_ => some k_ ≠ (v443 : Value).ownBlock) (.slice (some ⟨go33, 0, none⟩) y448.length co33) y452 := (by rw [hw, Ny452.out]; exact HP41.1); clear HP41; have n0_ := Aside0.mk (Kd.N_afterv (v := (.slice (some ⟨go33, 0, none⟩) y448.length co33)) (v1 := (.slice (some ⟨go33, 0, none⟩) y448.length co33)) (ok := (fun k_ => some k_ ≠ (v443 : Value).ownBlock)) (by (with_reducible repeat (first | apply Kd.N_alloc | apply Kd.N_drewN | apply Kd.N_drew)); exact HO_6.out) hg (.inl rfl)); have n1_ := Aside0.mk (Kd.V_afterv (v := (.slice (some ⟨go33, 0, none⟩) y448.length co33)) (v1 := (.slice (some ⟨go33, 0, none⟩) y448.length co33)) (ok := (fun k_ => some k_ ≠ (.slice (some ad440) t434.length co18 : Value).ownBlock ∧ some k_ ≠ (v443 : Value).ownBlock)) (by (with_reducible repeat (first | apply Kd.V_alloc | apply Kd.V_drewN | apply Kd.V_drew)); exact HL440_5.out) hg (.inl rfl)); have n2_ := Aside0.mk (Kd.V_afterv (v := (.slice (some ⟨go33, 0, none⟩) y448.length co33)) (v1 := (.slice (some ⟨go33, 0, none⟩) y448.length co33)) (ok := (fun k_ => some k_ ≠ (.slice (some ad440) t434.length co18 : Value).ownBlock ∧ some k_ ≠ (v443 : Value).ownBlock)) (by (with_reducible repeat (first | apply Kd.V_alloc | apply Kd.V_drewN | apply Kd.V_drew)); exact HL440_6.out) hg (.inl rfl)); have n3_ := Aside0.mk (Kd.V_afterv (v := (.slice (some ⟨go33, 0, none⟩) y448.length co33)) (v1 := (.slice (some ⟨go33, 0, none⟩) y448.length co33)) (ok := (fun k_ => some k_ ≠ (.slice (some ad440) t434.length co18 : Value).ownBlock ∧ some k_ ≠ (v443 : Value).ownBlock)) (by (with_reducible repeat (first | apply Kd.V_alloc | apply Kd.V_drewN | apply Kd.V_drew)); exact HL440_7.out) hg (.inl rfl)); have n4_ := Aside0.mk (Kd.N_afterv (v := (.slice (some ⟨go33, 0, none⟩) y448.length co33)) (v1 := (.slice (some ⟨go33, 0, none⟩) y448.length co33)) (ok := (fun k_ => some k_ ≠ (.slice (some ad440) t434.length co18 : Value).ownBlock)) (by (with_reducible repeat (first | apply Kd.N_alloc | apply Kd.N_drewN | apply Kd.N_drew)); exact HO444.out) hg (.inl rfl)); have n5_ := Aside0.mk (hp_); have n6_ := Aside0.mk (Kd.V_afterv (v := (.slice (some ⟨go33, 0, none⟩) y448.length co33)) (v1 := (.slice (some ⟨go33, 0, none⟩) y448.length co33)) (ok := (fun k_ => some k_ ≠ (.slice (some ad440) t434.length co18 : Value).ownBlock ∧ some k_ ≠ (v443 : Value).ownBlock)) (by (with_reducible repeat (first | apply Kd.V_alloc | apply Kd.V_drewN | apply Kd.V_drew)); exact Kd.V_mono HL451_5.out (fun _ hk => ⟨⟨hk.2, hk.1.1⟩, hk.1.2⟩)) hg (.inl rfl)); have n7_ := Aside0.mk (Kd.V_afterv (v := (.slice (some ⟨go33, 0, none⟩) y448.length co33)) (v1 := (.slice (some ⟨go33, 0, none⟩) y448.length co33)) (ok := (fun k_ => some k_ ≠ (.slice (some ad440) t434.length co18 : Value).ownBlock ∧ some k_ ≠ (v443 : Value).ownBlock)) (by (with_reducible repeat (first | apply Kd.V_alloc | apply Kd.V_drewN | apply Kd.V_drew)); exact Kd.V_mono HL451_6.out (fun _ hk => ⟨⟨hk.2, hk.1.1⟩, hk.1.2⟩)) hg (.inl rfl)); have n8_ := Aside0.mk (Kd.V_afterv (v := (.slice (some ⟨go33, 0, none⟩) y448.length co33)) (v1 := (.slice (some ⟨go33, 0, none⟩) y448.length co33)) (ok := (fun k_ => some k_ ≠ (.slice (some ad440) t434.length co18 : Value).ownBlock ∧ some k_ ≠ (v443 : Value).ownBlock)) (by (with_reducible repeat (first | apply Kd.V_alloc | apply Kd.V_drewN | apply Kd.V_drew)); exact Kd.V_mono HL451_7.out (fun _ hk => ⟨⟨hk.2, hk.1.1⟩, hk.1.2⟩)) hg (.inl rfl)); have n9_ := Aside0.mk ((by rw [hw]; exact below_set (below_set (below_set (below_set (below_set (below_set (below_set (below_set (HB.out) GB33.out) GB33.out) GB33.out) GB33.out) GB33.out) GB33.out) GB33.out) GB33.out : Below w.heap.size w w42)); clear HO_6; clear HL440_5; clear HL440_6; clear HL440_7; clear HO444; clear HO450; clear HL451_5; clear HL451_6; clear HL451_7; clear HB; have HO_6 := n0_; have HL440_5 := n1_; have HL440_6 := n2_; have HL440_7 := n3_; have HO444 := n4_; have HO450 := n5_; have HL451_5 := n6_; have HL451_6 := n7_; have HL451_7 := n8_; have HB := n9_; clear n0_ n1_ n2_ n3_ n4_ n5_ n6_ n7_ n8_ n9_; clear hg hw hp_; obtain ⟨Ao43, co43, eo43⟩ := Kd.N_slice HO444.out; subst eo43) | (go_at_call 14; refine calls_of_args (args' := #[.slice Ao43 t441.length co43, .slice (some ⟨go33, 0, none⟩) y452.length co33]) (by first | (rw [show y452.length = y448.length from (Kd.N_reads' HO450.out).1.symm] <;> rfl) | rfl) ?_; (with_reducible refine (glacisref06_Same.calls kj16 _ _ t441 _ _ y452 true _ ?side1 ?side2 ?side3 ?side4 A34.out).mono ?_); (case side1 => exact cl_ (Kd.N_reads' HO444.out).2.2); (case side2 => exact (Kd.N_reads' HO444.out).2.1); (case side3 => exact cl_ (Kd.N_reads' HO450.out).2.2); (case side4 => rw [show y452.length = y448.length from (Kd.N_reads' HO450.out).1.symm]; exact (Kd.N_reads' HO450.out).2.1); rintro e w44 ⟨rfl, hb⟩; have n0_ := Aside0.mk (Kd.N_below (by (with_reducible repeat (first | apply Kd.N_alloc | apply Kd.N_drewN | apply Kd.N_drew)); exact HO_6.out) hb); have n1_ := Aside0.mk (Kd.V_below (by (with_reducible repeat (first | apply Kd.V_alloc | apply Kd.V_drewN | apply Kd.V_drew)); exact HL440_5.out) hb); have n2_ := Aside0.mk (Kd.V_below (by (with_reducible repeat (first | apply Kd.V_alloc | apply Kd.V_drewN | apply Kd.V_drew)); exact HL440_6.out) hb); have n3_ := Aside0.mk (Kd.V_below (by (with_reducible repeat (first | apply Kd.V_alloc | apply Kd.V_drewN | apply Kd.V_drew)); exact HL440_7.out) hb); have n4_ := Aside0.mk (Kd.N_below (by (with_reducible repeat (first | apply Kd.N_alloc | apply Kd.N_drewN | apply Kd.N_drew)); exact HO444.out) hb); have n5_ := Aside0.mk (Kd.N_below (by (with_reducible repeat (first | apply Kd.N_alloc | apply Kd.N_drewN | apply Kd.N_drew)); exact HO450.out) hb); have n6_ := Aside0.mk (Kd.V_below (by (with_reducible repeat (first | apply Kd.V_alloc | apply Kd.V_drewN | apply Kd.V_drew)); exact HL451_5.out) hb); have n7_ := Aside0.mk (Kd.V_below (by (with_reducible repeat (first | apply Kd.V_alloc | apply Kd.V_drewN | apply Kd.V_drew)); exact HL451_6.out) hb); have n8_ := Aside0.mk (Kd.V_below (by (with_reducible repeat (first | apply Kd.V_alloc | apply Kd.V_drewN | apply Kd.V_drew)); exact HL451_7.out) hb); have n9_ := Aside0.mk (below_step (bl_ HB.out) hb); clear HO_6; clear HL440_5; clear HL440_6; clear HL440_7; clear HO444; clear HO450; clear HL451_5; clear HL451_6; clear HL451_7; clear HB; have HO_6 := n0_; have HL440_5 := n1_; have HL440_6 := n2_; have HL440_7 := n3_; have HO444 := n4_; have HO450 := n5_; have HL451_5 := n6_; have HL451_6 := n7_; have HL451_7 := n8_; have HB := n9_; clear n0_ n1_ n2_ n3_ n4_ n5_ n6_ n7_ n8_ n9_; (try clear hb); (try clear hb2); (try clear hk); (try clear hi)))
                   repeat (go_quiet (first | (go_at_call 12; (with_reducible refine (sfield_Dict.calls kj16 (((a0 ++ (⟨#[44]⟩ : ByteArray)) ++ ((rd_T34 t434 (ji25)).f0)) ++ (⟨#[61, 55, 55]⟩ : ByteArray)) t441 t442 _ A30.out).mono ?_); rintro e w37 ⟨v443, rfl, ho0, hb⟩; have n0_ := Aside0.mk (Kd.N_elder' (by (with_reducible repeat (first | apply Kd.N_alloc | apply Kd.N_drewN | apply Kd.N_drew)); exact HO_6.out) (Kd.N_base (Kd.R_N ho0)) hb); have n1_ := Aside0.mk (Kd.V_elder' (by (with_reducible repeat (first | apply Kd.V_alloc | apply Kd.V_drewN | apply Kd.V_drew)); exact HL440_5.out) (Kd.N_base (Kd.R_N ho0)) hb); have n2_ := Aside0.mk (Kd.V_elder' (by (with_reducible repeat (first | apply Kd.V_alloc | apply Kd.V_drewN | apply Kd.V_drew)); exact HL440_6.out) (Kd.N_base (Kd.R_N ho0)) hb); have n3_ := Aside0.mk (Kd.V_elder' (by (with_reducible repeat (first | apply Kd.V_alloc | apply Kd.V_drewN | apply Kd.V_drew)); exact HL440_7.out) (Kd.N_base (Kd.R_N ho0)) hb); have n4_ := Aside0.mk (Kd.N_lower (Kd.N_mono (ok' := fun k_ => some k_ ≠ (.slice (some ad440) t434.length co18 : Value).ownBlock) (Kd.R_N (Kd.R_bound ho0)) (fun k_ hk_ => (Kd.fresh' (Kd.N_lt (by (with_reducible repeat (first | apply Kd.N_alloc | apply Kd.N_drewN | apply Kd.N_drew)); exact HO_6.out)) k_ hk_.2.1))) (below_size (bl_ HB.out))); have n5_ := Aside0.mk (Kd.C_below (by repeat (first | (with_reducible exact HR440_5.out) | (with_reducible refine Kd.C_alloc ?_ _) | (with_reducible refine Kd.C_drewN ?_ _) | (with_reducible refine Kd.C_drew ?_) | exact HR440_5.out)) hb); have n6_ := Aside0.mk (Kd.C_below (by repeat (first | (with_reducible exact HR440_6.out) | (with_reducible refine Kd.C_alloc ?_ _) | (with_reducible refine Kd.C_drewN ?_ _) | (with_reducible refine Kd.C_drew ?_) | exact HR440_6.out)) hb); have n7_ := Aside0.mk (Kd.C_below (by repeat (first | (with_reducible exact HR440_7.out) | (with_reducible refine Kd.C_alloc ?_ _) | (with_reducible refine Kd.C_drewN ?_ _) | (with_reducible refine Kd.C_drew ?_) | exact HR440_7.out)) hb); have n8_ := Aside0.mk (below_step (bl_ HB.out) hb); clear HO_6; clear HL440_5; clear HL440_6; clear HL440_7; clear HR440_5; clear HR440_6; clear HR440_7; clear HB; have HO_6 := n0_; have HL440_5 := n1_; have HL440_6 := n2_; have HL440_7 := n3_; have HO444 := n4_; have HR440_5 := n5_; have HR440_6 := n6_; have HR440_7 := n7_; have HB := n8_; clear n0_ n1_ n2_ n3_ n4_ n5_ n6_ n7_ n8_; (try clear hb); (try clear hb2); (try clear hk); (try clear hi); (try clear ho0)) | ((with_reducible refine gate_dst (N := 81) rfl ?_); (try (refine gate_guard (by rfl) ?_; dsimp only)); refine Kd.N_lit k34 _ 34 ?hg (N' := 81) ?hd (xs := ([] : List (S34))) (inner := []) (ok := (fun k_ => some k_ ≠ (.slice (some ad440) t434.length co18 : Value).ownBlock ∧ some k_ ≠ (v443 : Value).ownBlock)) (okp := (fun k_ => some k_ ≠ (.slice (some ad440) t434.length co18 : Value).ownBlock ∧ some k_ ≠ (v443 : Value).ownBlock)) ?hr ?hp (fun _ hk => hk) ((show ∀ k_, w37.heap.size ≤ k_ → (fun k_ => some k_ ≠ (.slice (some ad440) t434.length co18 : Value).ownBlock ∧ some k_ ≠ (v443 : Value).ownBlock) k_ from fun k_ hk => ⟨Kd.fresh' (Kd.N_lt (by (with_reducible repeat (first | apply Kd.N_alloc | apply Kd.N_drewN | apply Kd.N_drew)); exact HO_6.out)) k_ hk, Kd.fresh' (Kd.N_lt (by (with_reducible repeat (first | apply Kd.N_alloc | apply Kd.N_drewN | apply Kd.N_drew)); exact HO444.out)) k_ hk⟩) _ (Nat.le_refl _)) (Below.refl _ _) (Nat.le_refl _) (by simp) ?_; (case hd => rfl); (case hg => rfl); (case hr => first | (go_simp; done) | (go_simp; rfl)); (case hp => exact (Reps.none _ _)); intro v446 w38 ho39 hb hg_ hnew_; clear hg_ hnew_; (first | rw [← Ny445.out] at ho39 | (simp only [Int.reduceToNat] at ho39; rw [← Ny445.out] at ho39)); have n0_ := Aside0.mk (Kd.N_elder' (by (with_reducible repeat (first | apply Kd.N_alloc | apply Kd.N_drewN | apply Kd.N_drew)); exact HO_6.out) (Kd.N_base ho39) hb); have n1_ := Aside0.mk (Kd.V_elder' (by (with_reducible repeat (first | apply Kd.V_alloc | apply Kd.V_drewN | apply Kd.V_drew)); exact HL440_5.out) (Kd.N_base ho39) hb); have n2_ := Aside0.mk (Kd.V_elder' (by (with_reducible repeat (first | apply Kd.V_alloc | apply Kd.V_drewN | apply Kd.V_drew)); exact HL440_6.out) (Kd.N_base ho39) hb); have n3_ := Aside0.mk (Kd.V_elder' (by (with_reducible repeat (first | apply Kd.V_alloc | apply Kd.V_drewN | apply Kd.V_drew)); exact HL440_7.out) (Kd.N_base ho39) hb); have n4_ := Aside0.mk (Kd.N_elder' (by (with_reducible repeat (first | apply Kd.N_alloc | apply Kd.N_drewN | apply Kd.N_drew)); exact HO444.out) (Kd.N_base ho39) hb); have n5_ := Aside0.mk (Kd.N_lower ho39 (below_size (bl_ HB.out))); have n6_ := Aside0.mk (Kd.C_below (by repeat (first | (with_reducible exact HR440_5.out) | (with_reducible refine Kd.C_alloc ?_ _) | (with_reducible refine Kd.C_drewN ?_ _) | (with_reducible refine Kd.C_drew ?_) | exact HR440_5.out)) hb); have n7_ := Aside0.mk (Kd.C_below (by repeat (first | (with_reducible exact HR440_6.out) | (with_reducible refine Kd.C_alloc ?_ _) | (with_reducible refine Kd.C_drewN ?_ _) | (with_reducible refine Kd.C_drew ?_) | exact HR440_6.out)) hb); have n8_ := Aside0.mk (Kd.C_below (by repeat (first | (with_reducible exact HR440_7.out) | (with_reducible refine Kd.C_alloc ?_ _) | (with_reducible refine Kd.C_drewN ?_ _) | (with_reducible refine Kd.C_drew ?_) | exact HR440_7.out)) hb); have n9_ := Aside0.mk (below_step (bl_ HB.out) hb); clear HO_6; clear HL440_5; clear HL440_6; clear HL440_7; clear HO444; clear HR440_5; clear HR440_6; clear HR440_7; clear HB; have HO_6 := n0_; have HL440_5 := n1_; have HL440_6 := n2_; have HL440_7 := n3_; have HO444 := n4_; have HO447 := n5_; have HR440_5 := n6_; have HR440_6 := n7_; have HR440_7 := n8_; have HB := n9_; clear n0_ n1_ n2_ n3_ n4_ n5_ n6_ n7_ n8_ n9_; clear hb ho39) | ((with_reducible refine gate_builtin (b := .append) (xs := #[.tmp 81, .tmp 82]) rfl ?_); (try (refine gate_guard (by rfl) ?_; dsimp only)); at_builtin; refine Kd.N_append_rows k34 (w0 := w) w.heap.size rfl (.tmp 81) (.tmp 82) 23 34 (.agg #[(.string ⟨#[]⟩), (.bool false), (.int .i64 0), (.int .i64 0), (.string ⟨#[]⟩), (.slice none 0 0), (.slice none 0 0), (.slice none 0 0)]) 128 rfl Tryz.underlying23 info34 rfl (by decide) (by omega) v446 y445 t434 _ _ _ (fun k_ => some k_ ≠ (v443 : Value).ownBlock) (fun k_ => ((fun k_ => some k_ ≠ (v443 : Value).ownBlock)) k_ ∧ some k_ ≠ (v446 : Value).ownBlock) rfl rfl ?aO ?aR (fun _ hk => hk) ?aF ?aB ?aS ?aL ?_; (case aR => exact (by skip; exact Kd.N_F (Kd.N_mono (ok' := (fun k_ => ((fun k_ => some k_ ≠ (v443 : Value).ownBlock)) k_ ∧ some k_ ≠ (v446 : Value).ownBlock)) (HO_6.out) (fun k_ hk => ⟨hk.1.2, hk.2⟩)))); (case aB => exact (bl_ HB.out)); (case aF => exact (fun k_ hk => Kd.fresh' (Kd.N_lt (by (with_reducible repeat (first | apply Kd.N_alloc | apply Kd.N_drewN | apply Kd.N_drew)); exact HO444.out)) k_ hk)); (case aO => exact (by (with_reducible repeat (first | apply Kd.N_alloc | apply Kd.N_drewN | apply Kd.N_drew)); exact Kd.N_mono HO447.out (fun _ hk => hk.2))); (case aS => exact (below_size (bl_ HB.out))); (case aL => have := LMc31.out; omega); intro v449 w40 ho hb hg hat; rw [← Ny448.out] at ho; have n0_ := Aside0.mk (Kd.N_afterv (ok := (fun k_ => some k_ ≠ (v443 : Value).ownBlock)) (by (with_reducible repeat (first | apply Kd.N_alloc | apply Kd.N_drewN | apply Kd.N_drew)); exact Kd.N_mono HO_6.out (fun _ hk => ⟨hk.1.2, hk.2⟩)) hg hat); have n1_ := Aside0.mk (Kd.V_afterv (ok := (fun k_ => some k_ ≠ (.slice (some ad440) t434.length co18 : Value).ownBlock ∧ some k_ ≠ (v443 : Value).ownBlock)) (by (with_reducible repeat (first | apply Kd.V_alloc | apply Kd.V_drewN | apply Kd.V_drew)); exact Kd.V_mono HL440_5.out (fun _ hk => ⟨⟨hk.1.1.2, hk.1.2⟩, hk.2⟩)) hg hat); have n2_ := Aside0.mk (Kd.V_afterv (ok := (fun k_ => some k_ ≠ (.slice (some ad440) t434.length co18 : Value).ownBlock ∧ some k_ ≠ (v443 : Value).ownBlock)) (by (with_reducible repeat (first | apply Kd.V_alloc | apply Kd.V_drewN | apply Kd.V_drew)); exact Kd.V_mono HL440_6.out (fun _ hk => ⟨⟨hk.1.1.2, hk.1.2⟩, hk.2⟩)) hg hat); have n3_ := Aside0.mk (Kd.V_afterv (ok := (fun k_ => some k_ ≠ (.slice (some ad440) t434.length co18 : Value).ownBlock ∧ some k_ ≠ (v443 : Value).ownBlock)) (by (with_reducible repeat (first | apply Kd.V_alloc | apply Kd.V_drewN | apply Kd.V_drew)); exact Kd.V_mono HL440_7.out (fun _ hk => ⟨⟨hk.1.1.2, hk.1.2⟩, hk.2⟩)) hg hat); have n4_ := Aside0.mk (Kd.N_afterv (ok := (fun k_ => some k_ ≠ (.slice (some ad440) t434.length co18 : Value).ownBlock)) (by (with_reducible repeat (first | apply Kd.N_alloc | apply Kd.N_drewN | apply Kd.N_drew)); exact HO444.out) hg hat); have n5_ := Aside0.mk (hb); have n6_ := Aside0.mk (ho); clear HO_6; clear HL440_5; clear HL440_6; clear HL440_7; clear HO444; clear HB; clear HO447; have HO_6 := n0_; have HL440_5 := n1_; have HL440_6 := n2_; have HL440_7 := n3_; have HO444 := n4_; have HB := n5_; have HO450 := n6_; clear n0_ n1_ n2_ n3_ n4_ n5_ n6_; clear ho hb hg hat; have p451 : 0 ≤ ((ji25) : Int) := of_decide_eq_true (by assumption); have q451 : (ji25) < (t434.length : Int) := of_decide_eq_true (by assumption); obtain ⟨ad451, A451_5, c451_5, A451_6, c451_6, A451_7, c451_7, e451, hx451_0, hx451_1, hx451_2, hx451_3, hx451_4, hx451_5, hx451_6, hx451_7, hl451_5, hi451_5, hl451_6, hi451_6, hl451_7, hi451_7⟩ := at_T34 (Kd.N_reads' HO_6.out).2.2 (ji25) p451 q451; obtain rfl : ad440 = ad451 := (by injection e451); obtain ⟨ce451, hce451, hMe451, hcc451⟩ := Kd.N_get HO_6.out z34 (ji25) p451 (by first | exact q451 | exact of_decide_eq_true (by assumption) | (have e_ := (Kd.N_reads' HO_6.out).1; omega)); obtain ⟨ua451_5, uc451_5, ua451_6, uc451_6, ua451_7, uc451_7, rfl, ul451_5, ge451_5, ul451_6, ge451_6, ul451_7, ge451_7⟩ := k34_openF hMe451; have hv451_5 := hcc451 5 _ rfl; rw [add_field _ _ 5 (by omega)] at hv451_5; replace hv451_5 := Option.some.inj (hv451_5.symm.trans hx451_5); injection hv451_5 with hva_ hvn_ hvc_; rw [hva_] at ge451_5; rw [hvc_] at ul451_5; have HL451_5 := Aside0.mk (show Kd.V k60 60 _ w.heap.size _ _ ((rd_T34 t434 (ji25)).f2.f3) from Kd.V_mk ul451_5 ge451_5); clear hva_ hvn_ hvc_ ge451_5 ul451_5; have hv451_6 := hcc451 6 _ rfl; rw [add_field _ _ 6 (by omega)] at hv451_6; replace hv451_6 := Option.some.inj (hv451_6.symm.trans hx451_6); injection hv451_6 with hva_ hvn_ hvc_; rw [hva_] at ge451_6; rw [hvc_] at ul451_6; have HL451_6 := Aside0.mk (show Kd.V k31 31 _ w.heap.size _ _ ((rd_T34 t434 (ji25)).f3) from Kd.V_mk ul451_6 ge451_6); clear hva_ hvn_ hvc_ ge451_6 ul451_6; have hv451_7 := hcc451 7 _ rfl; rw [add_field _ _ 7 (by omega)] at hv451_7; replace hv451_7 := Option.some.inj (hv451_7.symm.trans hx451_7); injection hv451_7 with hva_ hvn_ hvc_; rw [hva_] at ge451_7; rw [hvc_] at ul451_7; have HL451_7 := Aside0.mk (show Kd.V k60 60 _ w.heap.size _ _ ((rd_T34 t434 (ji25)).f4) from Kd.V_mk ul451_7 ge451_7); clear hva_ hvn_ hvc_ ge451_7 ul451_7; clear hcc451 hce451; have HR451_5 := Aside0.mk hi451_5; have HC451_5 := Aside0.mk hl451_5; clear hi451_5 hl451_5; have HR451_6 := Aside0.mk hi451_6; have HC451_6 := Aside0.mk hl451_6; clear hi451_6 hl451_6; have HR451_7 := Aside0.mk hi451_7; have HC451_7 := Aside0.mk hl451_7; clear hi451_7 hl451_7; replace p451 := eq_true p451; replace q451 := eq_true q451; have p33 : 0 ≤ ((ji25) : Int) := of_decide_eq_true (by assumption); have q33 : ((ji25) : Int) < ((y448.length : Int) : Int) := of_decide_eq_true (by assumption); obtain ⟨go33, co33, eo33, gb33, gl33, cl33, HG33⟩ := Kd.N_form HO450.out (by omega); (first | cases eo33 | (injection eo33 with ea_ en_ ec_; (first | subst ea_ | (injection ea_ with ea_; subst ea_)); subst ec_; clear en_)); have GB33 := Aside0.mk gb33; have GG33 := Aside0.mk HG33; clear gb33 gl33 HG33; obtain ⟨ce33, hcl33, hM33, hcc33, hfr33⟩ := Kd.N_elem HO450.out z34 ((ji25) : Int) p33 q33; obtain ⟨ua33_5, uc33_5, ua33_6, uc33_6, ua33_7, uc33_7, rfl, ul33_5, ge33_5, ul33_6, ge33_6, ul33_7, ge33_7⟩ := k34_openF hM33; have hx33_0 : w40.cell? ⟨go33, ((ji25) : Int).toNat * 8, none⟩ = some (.string ((rd_T34 y448 (ji25)).f0)) := hcc33 0 _ rfl; have hx33_1 : w40.cell? ⟨go33, ((ji25) : Int).toNat * 8 + 1, none⟩ = some (.bool ((rd_T34 y448 (ji25)).f1)) := hcc33 1 _ rfl; have hx33_2 : w40.cell? ⟨go33, ((ji25) : Int).toNat * 8 + 2, none⟩ = some (.int .i64 ((rd_T34 y448 (ji25)).f2.f0)) := hcc33 2 _ rfl; have hx33_3 : w40.cell? ⟨go33, ((ji25) : Int).toNat * 8 + 3, none⟩ = some (.int .i64 ((rd_T34 y448 (ji25)).f2.f1)) := hcc33 3 _ rfl; have hx33_4 : w40.cell? ⟨go33, ((ji25) : Int).toNat * 8 + 4, none⟩ = some (.string ((rd_T34 y448 (ji25)).f2.f2)) := hcc33 4 _ rfl; have hx33_5 : w40.cell? ⟨go33, ((ji25) : Int).toNat * 8 + 5, none⟩ = some (.slice ua33_5 ((rd_T34 y448 (ji25)).f2.f3).length uc33_5) := hcc33 5 _ rfl; have hx33_6 : w40.cell? ⟨go33, ((ji25) : Int).toNat * 8 + 6, none⟩ = some (.slice ua33_6 ((rd_T34 y448 (ji25)).f3).length uc33_6) := hcc33 6 _ rfl; have hx33_7 : w40.cell? ⟨go33, ((ji25) : Int).toNat * 8 + 7, none⟩ = some (.slice ua33_7 ((rd_T34 y448 (ji25)).f4).length uc33_7) := hcc33 7 _ rfl; have hf33_0 : w40.frozen? ⟨go33, ((ji25) : Int).toNat * 8, none⟩ = false := hfr33 0; have hf33_1 : w40.frozen? ⟨go33, ((ji25) : Int).toNat * 8 + 1, none⟩ = false := hfr33 1; have hf33_2 : w40.frozen? ⟨go33, ((ji25) : Int).toNat * 8 + 2, none⟩ = false := hfr33 2; have hf33_3 : w40.frozen? ⟨go33, ((ji25) : Int).toNat * 8 + 3, none⟩ = false := hfr33 3; have hf33_4 : w40.frozen? ⟨go33, ((ji25) : Int).toNat * 8 + 4, none⟩ = false := hfr33 4; have hf33_5 : w40.frozen? ⟨go33, ((ji25) : Int).toNat * 8 + 5, none⟩ = false := hfr33 5; have hf33_6 : w40.frozen? ⟨go33, ((ji25) : Int).toNat * 8 + 6, none⟩ = false := hfr33 6; have hf33_7 : w40.frozen? ⟨go33, ((ji25) : Int).toNat * 8 + 7, none⟩ = false := hfr33 7; clear hcl33 hcc33 hfr33 hM33; replace p33 := eq_true p33; replace q33 := eq_true q33; have HX41 := Aside0.mk (show Kd.N k34 34 w40 w.heap.size (fun k_ => some k_ ≠ (v443 : Value).ownBlock) (.slice (some ⟨go33, 0, none⟩) y448.length co33) y448 from (by (with_reducible repeat (first | apply Kd.N_alloc | apply Kd.N_drewN | apply Kd.N_drew)); exact HO450.out)); obtain ⟨ce41, hcl41, hM41, hcc41, hfr41⟩ := Kd.N_elem HX41.out z34 ((ji25) : Int) (of_decide_eq_true (by assumption)) (by have h_ : ((ji25) : Int) < ((y448.length : Int) : Int) := of_decide_eq_true (by assumption); first | exact h_ | (have e_ := (Kd.N_reads' HO450.out).1; omega) | simpa using h_); obtain ⟨ua41_5, uc41_5, ua41_6, uc41_6, ua41_7, uc41_7, rfl, ul41_5, ge41_5, ul41_6, ge41_6, ul41_7, ge41_7⟩ := k34_openF hM41; have HP41 := Kd.N_seg HX41.out ((ji25) : Int) (of_decide_eq_true (by assumption)) (by have h_ : ((ji25) : Int) < ((y448.length : Int) : Int) := of_decide_eq_true (by assumption); first | exact h_ | (have e_ := (Kd.N_reads' HO450.out).1; omega) | simpa using h_) (seg := [.string ((rd_T34 t434 (ji25)).f0), .bool false, .int .i64 1, .int .i64 77, .string ⟨#[]⟩, .slice none 0 0, .slice none 0 0, .slice none 0 0]) (j := 0) hcl41 hcc41 (show 8 ≤ 8 from by decide) (x' := (⟨(rd_T34 t434 (ji25)).f0, false, (⟨1, 77, (⟨#[]⟩ : ByteArray), ([] : List (S60))⟩ : S31), ([] : List (S31)), ([] : List (S60))⟩ : S34)) (k34_mkF _ _ (⟨(rd_T34 t434 (ji25)).f0, false, (⟨1, 77, (⟨#[]⟩ : ByteArray), ([] : List (S60))⟩ : S31), ([] : List (S31)), ([] : List (S60))⟩ : S34) (Nat.le_refl _) (Kd.F_nil _ _ _) (Nat.le_refl _) (Kd.F_nil _ _ _) (Nat.le_refl _) (Kd.F_nil _ _ _)) (fun _ hk => hk); have hx41_0 := hcc41 0 _ rfl; (try simp only [show (k34).sz = 8 from rfl, Nat.mul_one, Nat.add_zero] at hx41_0); have hf41_0 := hfr41 0; (try simp only [show (k34).sz = 8 from rfl, Nat.mul_one, Nat.add_zero] at hf41_0); have hx41_1 := hcc41 1 _ rfl; (try simp only [show (k34).sz = 8 from rfl, Nat.mul_one, Nat.add_zero] at hx41_1); have hf41_1 := hfr41 1; (try simp only [show (k34).sz = 8 from rfl, Nat.mul_one, Nat.add_zero] at hf41_1); have hx41_2 := hcc41 2 _ rfl; (try simp only [show (k34).sz = 8 from rfl, Nat.mul_one, Nat.add_zero] at hx41_2); have hf41_2 := hfr41 2; (try simp only [show (k34).sz = 8 from rfl, Nat.mul_one, Nat.add_zero] at hf41_2); have hx41_3 := hcc41 3 _ rfl; (try simp only [show (k34).sz = 8 from rfl, Nat.mul_one, Nat.add_zero] at hx41_3); have hf41_3 := hfr41 3; (try simp only [show (k34).sz = 8 from rfl, Nat.mul_one, Nat.add_zero] at hf41_3); have hx41_4 := hcc41 4 _ rfl; (try simp only [show (k34).sz = 8 from rfl, Nat.mul_one, Nat.add_zero] at hx41_4); have hf41_4 := hfr41 4; (try simp only [show (k34).sz = 8 from rfl, Nat.mul_one, Nat.add_zero] at hf41_4); have hx41_5 := hcc41 5 _ rfl; (try simp only [show (k34).sz = 8 from rfl, Nat.mul_one, Nat.add_zero] at hx41_5); have hf41_5 := hfr41 5; (try simp only [show (k34).sz = 8 from rfl, Nat.mul_one, Nat.add_zero] at hf41_5); have hx41_6 := hcc41 6 _ rfl; (try simp only [show (k34).sz = 8 from rfl, Nat.mul_one, Nat.add_zero] at hx41_6); have hf41_6 := hfr41 6; (try simp only [show (k34).sz = 8 from rfl, Nat.mul_one, Nat.add_zero] at hf41_6); have hx41_7 := hcc41 7 _ rfl; (try simp only [show (k34).sz = 8 from rfl, Nat.mul_one, Nat.add_zero] at hx41_7); have hf41_7 := hfr41 7; (try simp only [show (k34).sz = 8 from rfl, Nat.mul_one, Nat.add_zero] at hf41_7); clear hcl41 hcc41 hfr41 hM41) | ((with_reducible refine gate_store (t := 34) (p := 93) rfl ?_); (try (rw [drewN_self w40]; generalize hq_ : World.drewN w40 _ = w40; have n0_ := Aside0.mk (Kd.N_at hq_ HO_6.out); have n1_ := Aside0.mk (Kd.V_at hq_ HL440_5.out); have n2_ := Aside0.mk (Kd.V_at hq_ HL440_6.out); have n3_ := Aside0.mk (Kd.V_at hq_ HL440_7.out); have n4_ := Aside0.mk (Kd.N_at hq_ HO444.out); have n5_ := Aside0.mk (Kd.N_at hq_ HO450.out); have n6_ := Aside0.mk (Kd.V_at hq_ HL451_5.out); have n7_ := Aside0.mk (Kd.V_at hq_ HL451_6.out); have n8_ := Aside0.mk (Kd.V_at hq_ HL451_7.out); have n9_ := Aside0.mk (below_at hq_ HB.out); clear hq_ HO_6 HL440_5 HL440_6 HL440_7 HO444 HO450 HL451_5 HL451_6 HL451_7 HB; have HO_6 := n0_; have HL440_5 := n1_; have HL440_6 := n2_; have HL440_7 := n3_; have HO444 := n4_; have HO450 := n5_; have HL451_5 := n6_; have HL451_6 := n7_; have HL451_7 := n8_; have HB := n9_; clear n0_ n1_ n2_ n3_ n4_ n5_ n6_ n7_ n8_ n9_; (try (have HX41 := Aside0.mk (show Kd.N k34 34 w40 w.heap.size (fun k_ => some k_ ≠ (v443 : Value).ownBlock) (.slice (some ⟨go33, 0, none⟩) y448.length co33) y448 from (by (with_reducible repeat (first | apply Kd.N_alloc | apply Kd.N_drewN | apply Kd.N_drew)); exact HO450.out)))); (try (obtain ⟨ce41, hcl41, hM41, hcc41, hfr41⟩ := Kd.N_elem HX41.out z34 ((ji25) : Int) (of_decide_eq_true (by assumption)) (by have h_ : ((ji25) : Int) < ((y448.length : Int) : Int) := of_decide_eq_true (by assumption); first | exact h_ | (have e_ := (Kd.N_reads' HO450.out).1; omega) | simpa using h_))); (try (obtain ⟨ua41_5, uc41_5, ua41_6, uc41_6, ua41_7, uc41_7, rfl, ul41_5, ge41_5, ul41_6, ge41_6, ul41_7, ge41_7⟩ := k34_openF hM41)); (try (have HP41 := Kd.N_seg HX41.out ((ji25) : Int) (of_decide_eq_true (by assumption)) (by have h_ : ((ji25) : Int) < ((y448.length : Int) : Int) := of_decide_eq_true (by assumption); first | exact h_ | (have e_ := (Kd.N_reads' HO450.out).1; omega) | simpa using h_) (seg := [.string ((rd_T34 t434 (ji25)).f0), .bool false, .int .i64 1, .int .i64 77, .string ⟨#[]⟩, .slice none 0 0, .slice none 0 0, .slice none 0 0]) (j := 0) hcl41 hcc41 (show 8 ≤ 8 from by decide) (x' := (⟨(rd_T34 t434 (ji25)).f0, false, (⟨1, 77, (⟨#[]⟩ : ByteArray), ([] : List (S60))⟩ : S31), ([] : List (S31)), ([] : List (S60))⟩ : S34)) (k34_mkF _ _ (⟨(rd_T34 t434 (ji25)).f0, false, (⟨1, 77, (⟨#[]⟩ : ByteArray), ([] : List (S60))⟩ : S31), ([] : List (S31)), ([] : List (S60))⟩ : S34) (Nat.le_refl _) (Kd.F_nil _ _ _) (Nat.le_refl _) (Kd.F_nil _ _ _) (Nat.le_refl _) (Kd.F_nil _ _ _)) (fun _ hk => hk))); (try (have hx41_0 := hcc41 0 _ rfl)); (try (try simp only [show (k34).sz = 8 from rfl, Nat.mul_one, Nat.add_zero] at hx41_0)); (try (have hf41_0 := hfr41 0)); (try (try simp only [show (k34).sz = 8 from rfl, Nat.mul_one, Nat.add_zero] at hf41_0)); (try (have hx41_1 := hcc41 1 _ rfl)); (try (try simp only [show (k34).sz = 8 from rfl, Nat.mul_one, Nat.add_zero] at hx41_1)); (try (have hf41_1 := hfr41 1)); (try (try simp only [show (k34).sz = 8 from rfl, Nat.mul_one, Nat.add_zero] at hf41_1)); (try (have hx41_2 := hcc41 2 _ rfl)); (try (try simp only [show (k34).sz = 8 from rfl, Nat.mul_one, Nat.add_zero] at hx41_2)); (try (have hf41_2 := hfr41 2)); (try (try simp only [show (k34).sz = 8 from rfl, Nat.mul_one, Nat.add_zero] at hf41_2)); (try (have hx41_3 := hcc41 3 _ rfl)); (try (try simp only [show (k34).sz = 8 from rfl, Nat.mul_one, Nat.add_zero] at hx41_3)); (try (have hf41_3 := hfr41 3)); (try (try simp only [show (k34).sz = 8 from rfl, Nat.mul_one, Nat.add_zero] at hf41_3)); (try (have hx41_4 := hcc41 4 _ rfl)); (try (try simp only [show (k34).sz = 8 from rfl, Nat.mul_one, Nat.add_zero] at hx41_4)); (try (have hf41_4 := hfr41 4)); (try (try simp only [show (k34).sz = 8 from rfl, Nat.mul_one, Nat.add_zero] at hf41_4)); (try (have hx41_5 := hcc41 5 _ rfl)); (try (try simp only [show (k34).sz = 8 from rfl, Nat.mul_one, Nat.add_zero] at hx41_5)); (try (have hf41_5 := hfr41 5)); (try (try simp only [show (k34).sz = 8 from rfl, Nat.mul_one, Nat.add_zero] at hf41_5)); (try (have hx41_6 := hcc41 6 _ rfl)); (try (try simp only [show (k34).sz = 8 from rfl, Nat.mul_one, Nat.add_zero] at hx41_6)); (try (have hf41_6 := hfr41 6)); (try (try simp only [show (k34).sz = 8 from rfl, Nat.mul_one, Nat.add_zero] at hf41_6)); (try (have hx41_7 := hcc41 7 _ rfl)); (try (try simp only [show (k34).sz = 8 from rfl, Nat.mul_one, Nat.add_zero] at hx41_7)); (try (have hf41_7 := hfr41 7)); (try (try simp only [show (k34).sz = 8 from rfl, Nat.mul_one, Nat.add_zero] at hf41_7)); (try (clear hcl41 hcc41 hfr41 hM41)))); refine store_event (t := 34) (p := 93) (v := ?vo_w42) (w1 := ((((((((w40.setCell ⟨go33, ((ji25) : Int).toNat * 8, none⟩ (.string ((rd_T34 t434 (ji25)).f0))).setCell ⟨go33, ((ji25) : Int).toNat * 8 + 1, none⟩ (.bool false)).setCell ⟨go33, ((ji25) : Int).toNat * 8 + 2, none⟩ (.int .i64 1)).setCell ⟨go33, ((ji25) : Int).toNat * 8 + 3, none⟩ (.int .i64 77)).setCell ⟨go33, ((ji25) : Int).toNat * 8 + 4, none⟩ (.string ⟨#[]⟩)).setCell ⟨go33, ((ji25) : Int).toNat * 8 + 5, none⟩ (.slice none 0 0)).setCell ⟨go33, ((ji25) : Int).toNat * 8 + 6, none⟩ (.slice none 0 0)).setCell ⟨go33, ((ji25) : Int).toNat * 8 + 7, none⟩ (.slice none 0 0))) ?hg ?ho ?hn ?hr ?_; (case ho => rfl); (case hg => rfl); (case hn => rfl); (case hr => first | (go_simp; done) | (go_simp; rfl)); intro w42 hw; have hg : w40.grownBy w42 (some go33) := (by rw [hw]; exact HP41.2); have hp_ : Kd.N k34 34 w42 w.heap.size (fun k_ => some k_ ≠ (v443 : Value).ownBlock) (.slice (some ⟨go33, 0, none⟩) y448.length co33) y452 := (by rw [hw, Ny452.out]; exact HP41.1); clear HP41; have n0_ := Aside0.mk (Kd.N_afterv (v := (.slice (some ⟨go33, 0, none⟩) y448.length co33)) (v1 := (.slice (some ⟨go33, 0, none⟩) y448.length co33)) (ok := (fun k_ => some k_ ≠ (v443 : Value).ownBlock)) (by (with_reducible repeat (first | apply Kd.N_alloc | apply Kd.N_drewN | apply Kd.N_drew)); exact HO_6.out) hg (.inl rfl)); have n1_ := Aside0.mk (Kd.V_afterv (v := (.slice (some ⟨go33, 0, none⟩) y448.length co33)) (v1 := (.slice (some ⟨go33, 0, none⟩) y448.length co33)) (ok := (fun k_ => some k_ ≠ (.slice (some ad440) t434.length co18 : Value).ownBlock ∧ some k_ ≠ (v443 : Value).ownBlock)) (by (with_reducible repeat (first | apply Kd.V_alloc | apply Kd.V_drewN | apply Kd.V_drew)); exact HL440_5.out) hg (.inl rfl)); have n2_ := Aside0.mk (Kd.V_afterv (v := (.slice (some ⟨go33, 0, none⟩) y448.length co33)) (v1 := (.slice (some ⟨go33, 0, none⟩) y448.length co33)) (ok := (fun k_ => some k_ ≠ (.slice (some ad440) t434.length co18 : Value).ownBlock ∧ some k_ ≠ (v443 : Value).ownBlock)) (by (with_reducible repeat (first | apply Kd.V_alloc | apply Kd.V_drewN | apply Kd.V_drew)); exact HL440_6.out) hg (.inl rfl)); have n3_ := Aside0.mk (Kd.V_afterv (v := (.slice (some ⟨go33, 0, none⟩) y448.length co33)) (v1 := (.slice (some ⟨go33, 0, none⟩) y448.length co33)) (ok := (fun k_ => some k_ ≠ (.slice (some ad440) t434.length co18 : Value).ownBlock ∧ some k_ ≠ (v443 : Value).ownBlock)) (by (with_reducible repeat (first | apply Kd.V_alloc | apply Kd.V_drewN | apply Kd.V_drew)); exact HL440_7.out) hg (.inl rfl)); have n4_ := Aside0.mk (Kd.N_afterv (v := (.slice (some ⟨go33, 0, none⟩) y448.length co33)) (v1 := (.slice (some ⟨go33, 0, none⟩) y448.length co33)) (ok := (fun k_ => some k_ ≠ (.slice (some ad440) t434.length co18 : Value).ownBlock)) (by (with_reducible repeat (first | apply Kd.N_alloc | apply Kd.N_drewN | apply Kd.N_drew)); exact HO444.out) hg (.inl rfl)); have n5_ := Aside0.mk (hp_); have n6_ := Aside0.mk (Kd.V_afterv (v := (.slice (some ⟨go33, 0, none⟩) y448.length co33)) (v1 := (.slice (some ⟨go33, 0, none⟩) y448.length co33)) (ok := (fun k_ => some k_ ≠ (.slice (some ad440) t434.length co18 : Value).ownBlock ∧ some k_ ≠ (v443 : Value).ownBlock)) (by (with_reducible repeat (first | apply Kd.V_alloc | apply Kd.V_drewN | apply Kd.V_drew)); exact Kd.V_mono HL451_5.out (fun _ hk => ⟨⟨hk.2, hk.1.1⟩, hk.1.2⟩)) hg (.inl rfl)); have n7_ := Aside0.mk (Kd.V_afterv (v := (.slice (some ⟨go33, 0, none⟩) y448.length co33)) (v1 := (.slice (some ⟨go33, 0, none⟩) y448.length co33)) (ok := (fun k_ => some k_ ≠ (.slice (some ad440) t434.length co18 : Value).ownBlock ∧ some k_ ≠ (v443 : Value).ownBlock)) (by (with_reducible repeat (first | apply Kd.V_alloc | apply Kd.V_drewN | apply Kd.V_drew)); exact Kd.V_mono HL451_6.out (fun _ hk => ⟨⟨hk.2, hk.1.1⟩, hk.1.2⟩)) hg (.inl rfl)); have n8_ := Aside0.mk (Kd.V_afterv (v := (.slice (some ⟨go33, 0, none⟩) y448.length co33)) (v1 := (.slice (some ⟨go33, 0, none⟩) y448.length co33)) (ok := (fun k_ => some k_ ≠ (.slice (some ad440) t434.length co18 : Value).ownBlock ∧ some k_ ≠ (v443 : Value).ownBlock)) (by (with_reducible repeat (first | apply Kd.V_alloc | apply Kd.V_drewN | apply Kd.V_drew)); exact Kd.V_mono HL451_7.out (fun _ hk => ⟨⟨hk.2, hk.1.1⟩, hk.1.2⟩)) hg (.inl rfl)); have n9_ := Aside0.mk ((by rw [hw]; exact below_set (below_set (below_set (below_set (below_set (below_set (below_set (below_set (HB.out) GB33.out) GB33.out) GB33.out) GB33.out) GB33.out) GB33.out) GB33.out) GB33.out : Below w.heap.size w w42)); clear HO_6; clear HL440_5; clear HL440_6; clear HL440_7; clear HO444; clear HO450; clear HL451_5; clear HL451_6; clear HL451_7; clear HB; have HO_6 := n0_; have HL440_5 := n1_; have HL440_6 := n2_; have HL440_7 := n3_; have HO444 := n4_; have HO450 := n5_; have HL451_5 := n6_; have HL451_6 := n7_; have HL451_7 := n8_; have HB := n9_; clear n0_ n1_ n2_ n3_ n4_ n5_ n6_ n7_ n8_ n9_; clear hg hw hp_; obtain ⟨Ao43, co43, eo43⟩ := Kd.N_slice HO444.out; subst eo43) | (go_at_call 14; refine calls_of_args (args' := #[.slice Ao43 t441.length co43, .slice (some ⟨go33, 0, none⟩) y452.length co33]) (by first | (rw [show y452.length = y448.length from (Kd.N_reads' HO450.out).1.symm] <;> rfl) | rfl) ?_; (with_reducible refine (glacisref06_Same.calls kj16 _ _ t441 _ _ y452 true _ ?side1 ?side2 ?side3 ?side4 A34.out).mono ?_); (case side1 => exact cl_ (Kd.N_reads' HO444.out).2.2); (case side2 => exact (Kd.N_reads' HO444.out).2.1); (case side3 => exact cl_ (Kd.N_reads' HO450.out).2.2); (case side4 => rw [show y452.length = y448.length from (Kd.N_reads' HO450.out).1.symm]; exact (Kd.N_reads' HO450.out).2.1); rintro e w44 ⟨rfl, hb⟩; have n0_ := Aside0.mk (Kd.N_below (by (with_reducible repeat (first | apply Kd.N_alloc | apply Kd.N_drewN | apply Kd.N_drew)); exact HO_6.out) hb); have n1_ := Aside0.mk (Kd.V_below (by (with_reducible repeat (first | apply Kd.V_alloc | apply Kd.V_drewN | apply Kd.V_drew)); exact HL440_5.out) hb); have n2_ := Aside0.mk (Kd.V_below (by (with_reducible repeat (first | apply Kd.V_alloc | apply Kd.V_drewN | apply Kd.V_drew)); exact HL440_6.out) hb); have n3_ := Aside0.mk (Kd.V_below (by (with_reducible repeat (first | apply Kd.V_alloc | apply Kd.V_drewN | apply Kd.V_drew)); exact HL440_7.out) hb); have n4_ := Aside0.mk (Kd.N_below (by (with_reducible repeat (first | apply Kd.N_alloc | apply Kd.N_drewN | apply Kd.N_drew)); exact HO444.out) hb); have n5_ := Aside0.mk (Kd.N_below (by (with_reducible repeat (first | apply Kd.N_alloc | apply Kd.N_drewN | apply Kd.N_drew)); exact HO450.out) hb); have n6_ := Aside0.mk (Kd.V_below (by (with_reducible repeat (first | apply Kd.V_alloc | apply Kd.V_drewN | apply Kd.V_drew)); exact HL451_5.out) hb); have n7_ := Aside0.mk (Kd.V_below (by (with_reducible repeat (first | apply Kd.V_alloc | apply Kd.V_drewN | apply Kd.V_drew)); exact HL451_6.out) hb); have n8_ := Aside0.mk (Kd.V_below (by (with_reducible repeat (first | apply Kd.V_alloc | apply Kd.V_drewN | apply Kd.V_drew)); exact HL451_7.out) hb); have n9_ := Aside0.mk (below_step (bl_ HB.out) hb); clear HO_6; clear HL440_5; clear HL440_6; clear HL440_7; clear HO444; clear HO450; clear HL451_5; clear HL451_6; clear HL451_7; clear HB; have HO_6 := n0_; have HL440_5 := n1_; have HL440_6 := n2_; have HL440_7 := n3_; have HO444 := n4_; have HO450 := n5_; have HL451_5 := n6_; have HL451_6 := n7_; have HL451_7 := n8_; have HB := n9_; clear n0_ n1_ n2_ n3_ n4_ n5_ n6_ n7_ n8_ n9_; (try clear hb); (try clear hb2); (try clear hk); (try clear hi))); try go_wp2_with (first | (go_at_call 12; (with_reducible refine (sfield_Dict.calls kj16 (((a0 ++ (⟨#[44]⟩ : ByteArray)) ++ ((rd_T34 t434 (ji25)).f0)) ++ (⟨#[61, 55, 55]⟩ : ByteArray)) t441 t442 _ A30.out).mono ?_); rintro e w37 ⟨v443, rfl, ho0, hb⟩; have n0_ := Aside0.mk (Kd.N_elder' (by (with_reducible repeat (first | apply Kd.N_alloc | apply Kd.N_drewN | apply Kd.N_drew)); exact HO_6.out) (Kd.N_base (Kd.R_N ho0)) hb); have n1_ := Aside0.mk (Kd.V_elder' (by (with_reducible repeat (first | apply Kd.V_alloc | apply Kd.V_drewN | apply Kd.V_drew)); exact HL440_5.out) (Kd.N_base (Kd.R_N ho0)) hb); have n2_ := Aside0.mk (Kd.V_elder' (by (with_reducible repeat (first | apply Kd.V_alloc | apply Kd.V_drewN | apply Kd.V_drew)); exact HL440_6.out) (Kd.N_base (Kd.R_N ho0)) hb); have n3_ := Aside0.mk (Kd.V_elder' (by (with_reducible repeat (first | apply Kd.V_alloc | apply Kd.V_drewN | apply Kd.V_drew)); exact HL440_7.out) (Kd.N_base (Kd.R_N ho0)) hb); have n4_ := Aside0.mk (Kd.N_lower (Kd.N_mono (ok' := fun k_ => some k_ ≠ (.slice (some ad440) t434.length co18 : Value).ownBlock) (Kd.R_N (Kd.R_bound ho0)) (fun k_ hk_ => (Kd.fresh' (Kd.N_lt (by (with_reducible repeat (first | apply Kd.N_alloc | apply Kd.N_drewN | apply Kd.N_drew)); exact HO_6.out)) k_ hk_.2.1))) (below_size (bl_ HB.out))); have n5_ := Aside0.mk (Kd.C_below (by repeat (first | (with_reducible exact HR440_5.out) | (with_reducible refine Kd.C_alloc ?_ _) | (with_reducible refine Kd.C_drewN ?_ _) | (with_reducible refine Kd.C_drew ?_) | exact HR440_5.out)) hb); have n6_ := Aside0.mk (Kd.C_below (by repeat (first | (with_reducible exact HR440_6.out) | (with_reducible refine Kd.C_alloc ?_ _) | (with_reducible refine Kd.C_drewN ?_ _) | (with_reducible refine Kd.C_drew ?_) | exact HR440_6.out)) hb); have n7_ := Aside0.mk (Kd.C_below (by repeat (first | (with_reducible exact HR440_7.out) | (with_reducible refine Kd.C_alloc ?_ _) | (with_reducible refine Kd.C_drewN ?_ _) | (with_reducible refine Kd.C_drew ?_) | exact HR440_7.out)) hb); have n8_ := Aside0.mk (below_step (bl_ HB.out) hb); clear HO_6; clear HL440_5; clear HL440_6; clear HL440_7; clear HR440_5; clear HR440_6; clear HR440_7; clear HB; have HO_6 := n0_; have HL440_5 := n1_; have HL440_6 := n2_; have HL440_7 := n3_; have HO444 := n4_; have HR440_5 := n5_; have HR440_6 := n6_; have HR440_7 := n7_; have HB := n8_; clear n0_ n1_ n2_ n3_ n4_ n5_ n6_ n7_ n8_; (try clear hb); (try clear hb2); (try clear hk); (try clear hi); (try clear ho0)) | ((with_reducible refine gate_dst (N := 81) rfl ?_); (try (refine gate_guard (by rfl) ?_; dsimp only)); refine Kd.N_lit k34 _ 34 ?hg (N' := 81) ?hd (xs := ([] : List (S34))) (inner := []) (ok := (fun k_ => some k_ ≠ (.slice (some ad440) t434.length co18 : Value).ownBlock ∧ some k_ ≠ (v443 : Value).ownBlock)) (okp := (fun k_ => some k_ ≠ (.slice (some ad440) t434.length co18 : Value).ownBlock ∧ some k_ ≠ (v443 : Value).ownBlock)) ?hr ?hp (fun _ hk => hk) ((show ∀ k_, w37.heap.size ≤ k_ → (fun k_ => some k_ ≠ (.slice (some ad440) t434.length co18 : Value).ownBlock ∧ some k_ ≠ (v443 : Value).ownBlock) k_ from fun k_ hk => ⟨Kd.fresh' (Kd.N_lt (by (with_reducible repeat (first | apply Kd.N_alloc | apply Kd.N_drewN | apply Kd.N_drew)); exact HO_6.out)) k_ hk, Kd.fresh' (Kd.N_lt (by (with_reducible repeat (first | apply Kd.N_alloc | apply Kd.N_drewN | apply Kd.N_drew)); exact HO444.out)) k_ hk⟩) _ (Nat.le_refl _)) (Below.refl _ _) (Nat.le_refl _) (by simp) ?_; (case hd => rfl); (case hg => rfl); (case hr => first | (go_simp; done) | (go_simp; rfl)); (case hp => exact (Reps.none _ _)); intro v446 w38 ho39 hb hg_ hnew_; clear hg_ hnew_; (first | rw [← Ny445.out] at ho39 | (simp only [Int.reduceToNat] at ho39; rw [← Ny445.out] at ho39)); have n0_ := Aside0.mk (Kd.N_elder' (by (with_reducible repeat (first | apply Kd.N_alloc | apply Kd.N_drewN | apply Kd.N_drew)); exact HO_6.out) (Kd.N_base ho39) hb); have n1_ := Aside0.mk (Kd.V_elder' (by (with_reducible repeat (first | apply Kd.V_alloc | apply Kd.V_drewN | apply Kd.V_drew)); exact HL440_5.out) (Kd.N_base ho39) hb); have n2_ := Aside0.mk (Kd.V_elder' (by (with_reducible repeat (first | apply Kd.V_alloc | apply Kd.V_drewN | apply Kd.V_drew)); exact HL440_6.out) (Kd.N_base ho39) hb); have n3_ := Aside0.mk (Kd.V_elder' (by (with_reducible repeat (first | apply Kd.V_alloc | apply Kd.V_drewN | apply Kd.V_drew)); exact HL440_7.out) (Kd.N_base ho39) hb); have n4_ := Aside0.mk (Kd.N_elder' (by (with_reducible repeat (first | apply Kd.N_alloc | apply Kd.N_drewN | apply Kd.N_drew)); exact HO444.out) (Kd.N_base ho39) hb); have n5_ := Aside0.mk (Kd.N_lower ho39 (below_size (bl_ HB.out))); have n6_ := Aside0.mk (Kd.C_below (by repeat (first | (with_reducible exact HR440_5.out) | (with_reducible refine Kd.C_alloc ?_ _) | (with_reducible refine Kd.C_drewN ?_ _) | (with_reducible refine Kd.C_drew ?_) | exact HR440_5.out)) hb); have n7_ := Aside0.mk (Kd.C_below (by repeat (first | (with_reducible exact HR440_6.out) | (with_reducible refine Kd.C_alloc ?_ _) | (with_reducible refine Kd.C_drewN ?_ _) | (with_reducible refine Kd.C_drew ?_) | exact HR440_6.out)) hb); have n8_ := Aside0.mk (Kd.C_below (by repeat (first | (with_reducible exact HR440_7.out) | (with_reducible refine Kd.C_alloc ?_ _) | (with_reducible refine Kd.C_drewN ?_ _) | (with_reducible refine Kd.C_drew ?_) | exact HR440_7.out)) hb); have n9_ := Aside0.mk (below_step (bl_ HB.out) hb); clear HO_6; clear HL440_5; clear HL440_6; clear HL440_7; clear HO444; clear HR440_5; clear HR440_6; clear HR440_7; clear HB; have HO_6 := n0_; have HL440_5 := n1_; have HL440_6 := n2_; have HL440_7 := n3_; have HO444 := n4_; have HO447 := n5_; have HR440_5 := n6_; have HR440_6 := n7_; have HR440_7 := n8_; have HB := n9_; clear n0_ n1_ n2_ n3_ n4_ n5_ n6_ n7_ n8_ n9_; clear hb ho39) | ((with_reducible refine gate_builtin (b := .append) (xs := #[.tmp 81, .tmp 82]) rfl ?_); (try (refine gate_guard (by rfl) ?_; dsimp only)); at_builtin; refine Kd.N_append_rows k34 (w0 := w) w.heap.size rfl (.tmp 81) (.tmp 82) 23 34 (.agg #[(.string ⟨#[]⟩), (.bool false), (.int .i64 0), (.int .i64 0), (.string ⟨#[]⟩), (.slice none 0 0), (.slice none 0 0), (.slice none 0 0)]) 128 rfl Tryz.underlying23 info34 rfl (by decide) (by omega) v446 y445 t434 _ _ _ (fun k_ => some k_ ≠ (v443 : Value).ownBlock) (fun k_ => ((fun k_ => some k_ ≠ (v443 : Value).ownBlock)) k_ ∧ some k_ ≠ (v446 : Value).ownBlock) rfl rfl ?aO ?aR (fun _ hk => hk) ?aF ?aB ?aS ?aL ?_; (case aR => exact (by skip; exact Kd.N_F (Kd.N_mono (ok' := (fun k_ => ((fun k_ => some k_ ≠ (v443 : Value).ownBlock)) k_ ∧ some k_ ≠ (v446 : Value).ownBlock)) (HO_6.out) (fun k_ hk => ⟨hk.1.2, hk.2⟩)))); (case aB => exact (bl_ HB.out)); (case aF => exact (fun k_ hk => Kd.fresh' (Kd.N_lt (by (with_reducible repeat (first | apply Kd.N_alloc | apply Kd.N_drewN | apply Kd.N_drew)); exact HO444.out)) k_ hk)); (case aO => exact (by (with_reducible repeat (first | apply Kd.N_alloc | apply Kd.N_drewN | apply Kd.N_drew)); exact Kd.N_mono HO447.out (fun _ hk => hk.2))); (case aS => exact (below_size (bl_ HB.out))); (case aL => have := LMc31.out; omega); intro v449 w40 ho hb hg hat; rw [← Ny448.out] at ho; have n0_ := Aside0.mk (Kd.N_afterv (ok := (fun k_ => some k_ ≠ (v443 : Value).ownBlock)) (by (with_reducible repeat (first | apply Kd.N_alloc | apply Kd.N_drewN | apply Kd.N_drew)); exact Kd.N_mono HO_6.out (fun _ hk => ⟨hk.1.2, hk.2⟩)) hg hat); have n1_ := Aside0.mk (Kd.V_afterv (ok := (fun k_ => some k_ ≠ (.slice (some ad440) t434.length co18 : Value).ownBlock ∧ some k_ ≠ (v443 : Value).ownBlock)) (by (with_reducible repeat (first | apply Kd.V_alloc | apply Kd.V_drewN | apply Kd.V_drew)); exact Kd.V_mono HL440_5.out (fun _ hk => ⟨⟨hk.1.1.2, hk.1.2⟩, hk.2⟩)) hg hat); have n2_ := Aside0.mk (Kd.V_afterv (ok := (fun k_ => some k_ ≠ (.slice (some ad440) t434.length co18 : Value).ownBlock ∧ some k_ ≠ (v443 : Value).ownBlock)) (by (with_reducible repeat (first | apply Kd.V_alloc | apply Kd.V_drewN | apply Kd.V_drew)); exact Kd.V_mono HL440_6.out (fun _ hk => ⟨⟨hk.1.1.2, hk.1.2⟩, hk.2⟩)) hg hat); have n3_ := Aside0.mk (Kd.V_afterv (ok := (fun k_ => some k_ ≠ (.slice (some ad440) t434.length co18 : Value).ownBlock ∧ some k_ ≠ (v443 : Value).ownBlock)) (by (with_reducible repeat (first | apply Kd.V_alloc | apply Kd.V_drewN | apply Kd.V_drew)); exact Kd.V_mono HL440_7.out (fun _ hk => ⟨⟨hk.1.1.2, hk.1.2⟩, hk.2⟩)) hg hat); have n4_ := Aside0.mk (Kd.N_afterv (ok := (fun k_ => some k_ ≠ (.slice (some ad440) t434.length co18 : Value).ownBlock)) (by (with_reducible repeat (first | apply Kd.N_alloc | apply Kd.N_drewN | apply Kd.N_drew)); exact HO444.out) hg hat); have n5_ := Aside0.mk (hb); have n6_ := Aside0.mk (ho); clear HO_6; clear HL440_5; clear HL440_6; clear HL440_7; clear HO444; clear HB; clear HO447; have HO_6 := n0_; have HL440_5 := n1_; have HL440_6 := n2_; have HL440_7 := n3_; have HO444 := n4_; have HB := n5_; have HO450 := n6_; clear n0_ n1_ n2_ n3_ n4_ n5_ n6_; clear ho hb hg hat; have p451 : 0 ≤ ((ji25) : Int) := of_decide_eq_true (by assumption); have q451 : (ji25) < (t434.length : Int) := of_decide_eq_true (by assumption); obtain ⟨ad451, A451_5, c451_5, A451_6, c451_6, A451_7, c451_7, e451, hx451_0, hx451_1, hx451_2, hx451_3, hx451_4, hx451_5, hx451_6, hx451_7, hl451_5, hi451_5, hl451_6, hi451_6, hl451_7, hi451_7⟩ := at_T34 (Kd.N_reads' HO_6.out).2.2 (ji25) p451 q451; obtain rfl : ad440 = ad451 := (by injection e451); obtain ⟨ce451, hce451, hMe451, hcc451⟩ := Kd.N_get HO_6.out z34 (ji25) p451 (by first | exact q451 | exact of_decide_eq_true (by assumption) | (have e_ := (Kd.N_reads' HO_6.out).1; omega)); obtain ⟨ua451_5, uc451_5, ua451_6, uc451_6, ua451_7, uc451_7, rfl, ul451_5, ge451_5, ul451_6, ge451_6, ul451_7, ge451_7⟩ := k34_openF hMe451; have hv451_5 := hcc451 5 _ rfl; rw [add_field _ _ 5 (by omega)] at hv451_5; replace hv451_5 := Option.some.inj (hv451_5.symm.trans hx451_5); injection hv451_5 with hva_ hvn_ hvc_; rw [hva_] at ge451_5; rw [hvc_] at ul451_5; have HL451_5 := Aside0.mk (show Kd.V k60 60 _ w.heap.size _ _ ((rd_T34 t434 (ji25)).f2.f3) from Kd.V_mk ul451_5 ge451_5); clear hva_ hvn_ hvc_ ge451_5 ul451_5; have hv451_6 := hcc451 6 _ rfl; rw [add_field _ _ 6 (by omega)] at hv451_6; replace hv451_6 := Option.some.inj (hv451_6.symm.trans hx451_6); injection hv451_6 with hva_ hvn_ hvc_; rw [hva_] at ge451_6; rw [hvc_] at ul451_6; have HL451_6 := Aside0.mk (show Kd.V k31 31 _ w.heap.size _ _ ((rd_T34 t434 (ji25)).f3) from Kd.V_mk ul451_6 ge451_6); clear hva_ hvn_ hvc_ ge451_6 ul451_6; have hv451_7 := hcc451 7 _ rfl; rw [add_field _ _ 7 (by omega)] at hv451_7; replace hv451_7 := Option.some.inj (hv451_7.symm.trans hx451_7); injection hv451_7 with hva_ hvn_ hvc_; rw [hva_] at ge451_7; rw [hvc_] at ul451_7; have HL451_7 := Aside0.mk (show Kd.V k60 60 _ w.heap.size _ _ ((rd_T34 t434 (ji25)).f4) from Kd.V_mk ul451_7 ge451_7); clear hva_ hvn_ hvc_ ge451_7 ul451_7; clear hcc451 hce451; have HR451_5 := Aside0.mk hi451_5; have HC451_5 := Aside0.mk hl451_5; clear hi451_5 hl451_5; have HR451_6 := Aside0.mk hi451_6; have HC451_6 := Aside0.mk hl451_6; clear hi451_6 hl451_6; have HR451_7 := Aside0.mk hi451_7; have HC451_7 := Aside0.mk hl451_7; clear hi451_7 hl451_7; replace p451 := eq_true p451; replace q451 := eq_true q451; have p33 : 0 ≤ ((ji25) : Int) := of_decide_eq_true (by assumption); have q33 : ((ji25) : Int) < ((y448.length : Int) : Int) := of_decide_eq_true (by assumption); obtain ⟨go33, co33, eo33, gb33, gl33, cl33, HG33⟩ := Kd.N_form HO450.out (by omega); (first | cases eo33 | (injection eo33 with ea_ en_ ec_; (first | subst ea_ | (injection ea_ with ea_; subst ea_)); subst ec_; clear en_)); have GB33 := Aside0.mk gb33; have GG33 := Aside0.mk HG33; clear gb33 gl33 HG33; obtain ⟨ce33, hcl33, hM33, hcc33, hfr33⟩ := Kd.N_elem HO450.out z34 ((ji25) : Int) p33 q33; obtain ⟨ua33_5, uc33_5, ua33_6, uc33_6, ua33_7, uc33_7, rfl, ul33_5, ge33_5, ul33_6, ge33_6, ul33_7, ge33_7⟩ := k34_openF hM33; have hx33_0 : w40.cell? ⟨go33, ((ji25) : Int).toNat * 8, none⟩ = some (.string ((rd_T34 y448 (ji25)).f0)) := hcc33 0 _ rfl; have hx33_1 : w40.cell? ⟨go33, ((ji25) : Int).toNat * 8 + 1, none⟩ = some (.bool ((rd_T34 y448 (ji25)).f1)) := hcc33 1 _ rfl; have hx33_2 : w40.cell? ⟨go33, ((ji25) : Int).toNat * 8 + 2, none⟩ = some (.int .i64 ((rd_T34 y448 (ji25)).f2.f0)) := hcc33 2 _ rfl; have hx33_3 : w40.cell? ⟨go33, ((ji25) : Int).toNat * 8 + 3, none⟩ = some (.int .i64 ((rd_T34 y448 (ji25)).f2.f1)) := hcc33 3 _ rfl; have hx33_4 : w40.cell? ⟨go33, ((ji25) : Int).toNat * 8 + 4, none⟩ = some (.string ((rd_T34 y448 (ji25)).f2.f2)) := hcc33 4 _ rfl; have hx33_5 : w40.cell? ⟨go33, ((ji25) : Int).toNat * 8 + 5, none⟩ = some (.slice ua33_5 ((rd_T34 y448 (ji25)).f2.f3).length uc33_5) := hcc33 5 _ rfl; have hx33_6 : w40.cell? ⟨go33, ((ji25) : Int).toNat * 8 + 6, none⟩ = some (.slice ua33_6 ((rd_T34 y448 (ji25)).f3).length uc33_6) := hcc33 6 _ rfl; have hx33_7 : w40.cell? ⟨go33, ((ji25) : Int).toNat * 8 + 7, none⟩ = some (.slice ua33_7 ((rd_T34 y448 (ji25)).f4).length uc33_7) := hcc33 7 _ rfl; have hf33_0 : w40.frozen? ⟨go33, ((ji25) : Int).toNat * 8, none⟩ = false := hfr33 0; have hf33_1 : w40.frozen? ⟨go33, ((ji25) : Int).toNat * 8 + 1, none⟩ = false := hfr33 1; have hf33_2 : w40.frozen? ⟨go33, ((ji25) : Int).toNat * 8 + 2, none⟩ = false := hfr33 2; have hf33_3 : w40.frozen? ⟨go33, ((ji25) : Int).toNat * 8 + 3, none⟩ = false := hfr33 3; have hf33_4 : w40.frozen? ⟨go33, ((ji25) : Int).toNat * 8 + 4, none⟩ = false := hfr33 4; have hf33_5 : w40.frozen? ⟨go33, ((ji25) : Int).toNat * 8 + 5, none⟩ = false := hfr33 5; have hf33_6 : w40.frozen? ⟨go33, ((ji25) : Int).toNat * 8 + 6, none⟩ = false := hfr33 6; have hf33_7 : w40.frozen? ⟨go33, ((ji25) : Int).toNat * 8 + 7, none⟩ = false := hfr33 7; clear hcl33 hcc33 hfr33 hM33; replace p33 := eq_true p33; replace q33 := eq_true q33; have HX41 := Aside0.mk (show Kd.N k34 34 w40 w.heap.size (fun k_ => some k_ ≠ (v443 : Value).ownBlock) (.slice (some ⟨go33, 0, none⟩) y448.length co33) y448 from (by (with_reducible repeat (first | apply Kd.N_alloc | apply Kd.N_drewN | apply Kd.N_drew)); exact HO450.out)); obtain ⟨ce41, hcl41, hM41, hcc41, hfr41⟩ := Kd.N_elem HX41.out z34 ((ji25) : Int) (of_decide_eq_true (by assumption)) (by have h_ : ((ji25) : Int) < ((y448.length : Int) : Int) := of_decide_eq_true (by assumption); first | exact h_ | (have e_ := (Kd.N_reads' HO450.out).1; omega) | simpa using h_); obtain ⟨ua41_5, uc41_5, ua41_6, uc41_6, ua41_7, uc41_7, rfl, ul41_5, ge41_5, ul41_6, ge41_6, ul41_7, ge41_7⟩ := k34_openF hM41; have HP41 := Kd.N_seg HX41.out ((ji25) : Int) (of_decide_eq_true (by assumption)) (by have h_ : ((ji25) : Int) < ((y448.length : Int) : Int) := of_decide_eq_true (by assumption); first | exact h_ | (have e_ := (Kd.N_reads' HO450.out).1; omega) | simpa using h_) (seg := [.string ((rd_T34 t434 (ji25)).f0), .bool false, .int .i64 1, .int .i64 77, .string ⟨#[]⟩, .slice none 0 0, .slice none 0 0, .slice none 0 0]) (j := 0) hcl41 hcc41 (show 8 ≤ 8 from by decide) (x' := (⟨(rd_T34 t434 (ji25)).f0, false, (⟨1, 77, (⟨#[]⟩ : ByteArray), ([] : List (S60))⟩ : S31), ([] : List (S31)), ([] : List (S60))⟩ : S34)) (k34_mkF _ _ (⟨(rd_T34 t434 (ji25)).f0, false, (⟨1, 77, (⟨#[]⟩ : ByteArray), ([] : List (S60))⟩ : S31), ([] : List (S31)), ([] : List (S60))⟩ : S34) (Nat.le_refl _) (Kd.F_nil _ _ _) (Nat.le_refl _) (Kd.F_nil _ _ _) (Nat.le_refl _) (Kd.F_nil _ _ _)) (fun _ hk => hk); have hx41_0 := hcc41 0 _ rfl; (try simp only [show (k34).sz = 8 from rfl, Nat.mul_one, Nat.add_zero] at hx41_0); have hf41_0 := hfr41 0; (try simp only [show (k34).sz = 8 from rfl, Nat.mul_one, Nat.add_zero] at hf41_0); have hx41_1 := hcc41 1 _ rfl; (try simp only [show (k34).sz = 8 from rfl, Nat.mul_one, Nat.add_zero] at hx41_1); have hf41_1 := hfr41 1; (try simp only [show (k34).sz = 8 from rfl, Nat.mul_one, Nat.add_zero] at hf41_1); have hx41_2 := hcc41 2 _ rfl; (try simp only [show (k34).sz = 8 from rfl, Nat.mul_one, Nat.add_zero] at hx41_2); have hf41_2 := hfr41 2; (try simp only [show (k34).sz = 8 from rfl, Nat.mul_one, Nat.add_zero] at hf41_2); have hx41_3 := hcc41 3 _ rfl; (try simp only [show (k34).sz = 8 from rfl, Nat.mul_one, Nat.add_zero] at hx41_3); have hf41_3 := hfr41 3; (try simp only [show (k34).sz = 8 from rfl, Nat.mul_one, Nat.add_zero] at hf41_3); have hx41_4 := hcc41 4 _ rfl; (try simp only [show (k34).sz = 8 from rfl, Nat.mul_one, Nat.add_zero] at hx41_4); have hf41_4 := hfr41 4; (try simp only [show (k34).sz = 8 from rfl, Nat.mul_one, Nat.add_zero] at hf41_4); have hx41_5 := hcc41 5 _ rfl; (try simp only [show (k34).sz = 8 from rfl, Nat.mul_one, Nat.add_zero] at hx41_5); have hf41_5 := hfr41 5; (try simp only [show (k34).sz = 8 from rfl, Nat.mul_one, Nat.add_zero] at hf41_5); have hx41_6 := hcc41 6 _ rfl; (try simp only [show (k34).sz = 8 from rfl, Nat.mul_one, Nat.add_zero] at hx41_6); have hf41_6 := hfr41 6; (try simp only [show (k34).sz = 8 from rfl, Nat.mul_one, Nat.add_zero] at hf41_6); have hx41_7 := hcc41 7 _ rfl; (try simp only [show (k34).sz = 8 from rfl, Nat.mul_one, Nat.add_zero] at hx41_7); have hf41_7 := hfr41 7; (try simp only [show (k34).sz = 8 from rfl, Nat.mul_one, Nat.add_zero] at hf41_7); clear hcl41 hcc41 hfr41 hM41) | ((with_reducible refine gate_store (t := 34) (p := 93) rfl ?_); (try (rw [drewN_self w40]; generalize hq_ : World.drewN w40 _ = w40; have n0_ := Aside0.mk (Kd.N_at hq_ HO_6.out); have n1_ := Aside0.mk (Kd.V_at hq_ HL440_5.out); have n2_ := Aside0.mk (Kd.V_at hq_ HL440_6.out); have n3_ := Aside0.mk (Kd.V_at hq_ HL440_7.out); have n4_ := Aside0.mk (Kd.N_at hq_ HO444.out); have n5_ := Aside0.mk (Kd.N_at hq_ HO450.out); have n6_ := Aside0.mk (Kd.V_at hq_ HL451_5.out); have n7_ := Aside0.mk (Kd.V_at hq_ HL451_6.out); have n8_ := Aside0.mk (Kd.V_at hq_ HL451_7.out); have n9_ := Aside0.mk (below_at hq_ HB.out); clear hq_ HO_6 HL440_5 HL440_6 HL440_7 HO444 HO450 HL451_5 HL451_6 HL451_7 HB; have HO_6 := n0_; have HL440_5 := n1_; have HL440_6 := n2_; have HL440_7 := n3_; have HO444 := n4_; have HO450 := n5_; have HL451_5 := n6_; have HL451_6 := n7_; have HL451_7 := n8_; have HB := n9_; clear n0_ n1_ n2_ n3_ n4_ n5_ n6_ n7_ n8_ n9_; (try (have HX41 := Aside0.mk (show Kd.N k34 34 w40 w.heap.size (fun k_ => some k_ ≠ (v443 : Value).ownBlock) (.slice (some ⟨go33, 0, none⟩) y448.length co33) y448 from (by (with_reducible repeat (first | apply Kd.N_alloc | apply Kd.N_drewN | apply Kd.N_drew)); exact HO450.out)))); (try (obtain ⟨ce41, hcl41, hM41, hcc41, hfr41⟩ := Kd.N_elem HX41.out z34 ((ji25) : Int) (of_decide_eq_true (by assumption)) (by have h_ : ((ji25) : Int) < ((y448.length : Int) : Int) := of_decide_eq_true (by assumption); first | exact h_ | (have e_ := (Kd.N_reads' HO450.out).1; omega) | simpa using h_))); (try (obtain ⟨ua41_5, uc41_5, ua41_6, uc41_6, ua41_7, uc41_7, rfl, ul41_5, ge41_5, ul41_6, ge41_6, ul41_7, ge41_7⟩ := k34_openF hM41)); (try (have HP41 := Kd.N_seg HX41.out ((ji25) : Int) (of_decide_eq_true (by assumption)) (by have h_ : ((ji25) : Int) < ((y448.length : Int) : Int) := of_decide_eq_true (by assumption); first | exact h_ | (have e_ := (Kd.N_reads' HO450.out).1; omega) | simpa using h_) (seg := [.string ((rd_T34 t434 (ji25)).f0), .bool false, .int .i64 1, .int .i64 77, .string ⟨#[]⟩, .slice none 0 0, .slice none 0 0, .slice none 0 0]) (j := 0) hcl41 hcc41 (show 8 ≤ 8 from by decide) (x' := (⟨(rd_T34 t434 (ji25)).f0, false, (⟨1, 77, (⟨#[]⟩ : ByteArray), ([] : List (S60))⟩ : S31), ([] : List (S31)), ([] : List (S60))⟩ : S34)) (k34_mkF _ _ (⟨(rd_T34 t434 (ji25)).f0, false, (⟨1, 77, (⟨#[]⟩ : ByteArray), ([] : List (S60))⟩ : S31), ([] : List (S31)), ([] : List (S60))⟩ : S34) (Nat.le_refl _) (Kd.F_nil _ _ _) (Nat.le_refl _) (Kd.F_nil _ _ _) (Nat.le_refl _) (Kd.F_nil _ _ _)) (fun _ hk => hk))); (try (have hx41_0 := hcc41 0 _ rfl)); (try (try simp only [show (k34).sz = 8 from rfl, Nat.mul_one, Nat.add_zero] at hx41_0)); (try (have hf41_0 := hfr41 0)); (try (try simp only [show (k34).sz = 8 from rfl, Nat.mul_one, Nat.add_zero] at hf41_0)); (try (have hx41_1 := hcc41 1 _ rfl)); (try (try simp only [show (k34).sz = 8 from rfl, Nat.mul_one, Nat.add_zero] at hx41_1)); (try (have hf41_1 := hfr41 1)); (try (try simp only [show (k34).sz = 8 from rfl, Nat.mul_one, Nat.add_zero] at hf41_1)); (try (have hx41_2 := hcc41 2 _ rfl)); (try (try simp only [show (k34).sz = 8 from rfl, Nat.mul_one, Nat.add_zero] at hx41_2)); (try (have hf41_2 := hfr41 2)); (try (try simp only [show (k34).sz = 8 from rfl, Nat.mul_one, Nat.add_zero] at hf41_2)); (try (have hx41_3 := hcc41 3 _ rfl)); (try (try simp only [show (k34).sz = 8 from rfl, Nat.mul_one, Nat.add_zero] at hx41_3)); (try (have hf41_3 := hfr41 3)); (try (try simp only [show (k34).sz = 8 from rfl, Nat.mul_one, Nat.add_zero] at hf41_3)); (try (have hx41_4 := hcc41 4 _ rfl)); (try (try simp only [show (k34).sz = 8 from rfl, Nat.mul_one, Nat.add_zero] at hx41_4)); (try (have hf41_4 := hfr41 4)); (try (try simp only [show (k34).sz = 8 from rfl, Nat.mul_one, Nat.add_zero] at hf41_4)); (try (have hx41_5 := hcc41 5 _ rfl)); (try (try simp only [show (k34).sz = 8 from rfl, Nat.mul_one, Nat.add_zero] at hx41_5)); (try (have hf41_5 := hfr41 5)); (try (try simp only [show (k34).sz = 8 from rfl, Nat.mul_one, Nat.add_zero] at hf41_5)); (try (have hx41_6 := hcc41 6 _ rfl)); (try (try simp only [show (k34).sz = 8 from rfl, Nat.mul_one, Nat.add_zero] at hx41_6)); (try (have hf41_6 := hfr41 6)); (try (try simp only [show (k34).sz = 8 from rfl, Nat.mul_one, Nat.add_zero] at hf41_6)); (try (have hx41_7 := hcc41 7 _ rfl)); (try (try simp only [show (k34).sz = 8 from rfl, Nat.mul_one, Nat.add_zero] at hx41_7)); (try (have hf41_7 := hfr41 7)); (try (try simp only [show (k34).sz = 8 from rfl, Nat.mul_one, Nat.add_zero] at hf41_7)); (try (clear hcl41 hcc41 hfr41 hM41)))); refine store_event (t := 34) (p := 93) (v := ?vo_w42) (w1 := ((((((((w40.setCell ⟨go33, ((ji25) : Int).toNat * 8, none⟩ (.string ((rd_T34 t434 (ji25)).f0))).setCell ⟨go33, ((ji25) : Int).toNat * 8 + 1, none⟩ (.bool false)).setCell ⟨go33, ((ji25) : Int).toNat * 8 + 2, none⟩ (.int .i64 1)).setCell ⟨go33, ((ji25) : Int).toNat * 8 + 3, none⟩ (.int .i64 77)).setCell ⟨go33, ((ji25) : Int).toNat * 8 + 4, none⟩ (.string ⟨#[]⟩)).setCell ⟨go33, ((ji25) : Int).toNat * 8 + 5, none⟩ (.slice none 0 0)).setCell ⟨go33, ((ji25) : Int).toNat * 8 + 6, none⟩ (.slice none 0 0)).setCell ⟨go33, ((ji25) : Int).toNat * 8 + 7, none⟩ (.slice none 0 0))) ?hg ?ho ?hn ?hr ?_; (case ho => rfl); (case hg => rfl); (case hn => rfl); (case hr => first | (go_simp; done) | (go_simp; rfl)); intro w42 hw; have hg : w40.grownBy w42 (some go33) := (by rw [hw]; exact HP41.2); have hp_ : Kd.N k34 34 w42 w.heap.size (fun k_ => some k_ ≠ (v443 : Value).ownBlock) (.slice (some ⟨go33, 0, none⟩) y448.length co33) y452 := (by rw [hw, Ny452.out]; exact HP41.1); clear HP41; have n0_ := Aside0.mk (Kd.N_afterv (v := (.slice (some ⟨go33, 0, none⟩) y448.length co33)) (v1 := (.slice (some ⟨go33, 0, none⟩) y448.length co33)) (ok := (fun k_ => some k_ ≠ (v443 : Value).ownBlock)) (by (with_reducible repeat (first | apply Kd.N_alloc | apply Kd.N_drewN | apply Kd.N_drew)); exact HO_6.out) hg (.inl rfl)); have n1_ := Aside0.mk (Kd.V_afterv (v := (.slice (some ⟨go33, 0, none⟩) y448.length co33)) (v1 := (.slice (some ⟨go33, 0, none⟩) y448.length co33)) (ok := (fun k_ => some k_ ≠ (.slice (some ad440) t434.length co18 : Value).ownBlock ∧ some k_ ≠ (v443 : Value).ownBlock)) (by (with_reducible repeat (first | apply Kd.V_alloc | apply Kd.V_drewN | apply Kd.V_drew)); exact HL440_5.out) hg (.inl rfl)); have n2_ := Aside0.mk (Kd.V_afterv (v := (.slice (some ⟨go33, 0, none⟩) y448.length co33)) (v1 := (.slice (some ⟨go33, 0, none⟩) y448.length co33)) (ok := (fun k_ => some k_ ≠ (.slice (some ad440) t434.length co18 : Value).ownBlock ∧ some k_ ≠ (v443 : Value).ownBlock)) (by (with_reducible repeat (first | apply Kd.V_alloc | apply Kd.V_drewN | apply Kd.V_drew)); exact HL440_6.out) hg (.inl rfl)); have n3_ := Aside0.mk (Kd.V_afterv (v := (.slice (some ⟨go33, 0, none⟩) y448.length co33)) (v1 := (.slice (some ⟨go33, 0, none⟩) y448.length co33)) (ok := (fun k_ => some k_ ≠ (.slice (some ad440) t434.length co18 : Value).ownBlock ∧ some k_ ≠ (v443 : Value).ownBlock)) (by (with_reducible repeat (first | apply Kd.V_alloc | apply Kd.V_drewN | apply Kd.V_drew)); exact HL440_7.out) hg (.inl rfl)); have n4_ := Aside0.mk (Kd.N_afterv (v := (.slice (some ⟨go33, 0, none⟩) y448.length co33)) (v1 := (.slice (some ⟨go33, 0, none⟩) y448.length co33)) (ok := (fun k_ => some k_ ≠ (.slice (some ad440) t434.length co18 : Value).ownBlock)) (by (with_reducible repeat (first | apply Kd.N_alloc | apply Kd.N_drewN | apply Kd.N_drew)); exact HO444.out) hg (.inl rfl)); have n5_ := Aside0.mk (hp_); have n6_ := Aside0.mk (Kd.V_afterv (v := (.slice (some ⟨go33, 0, none⟩) y448.length co33)) (v1 := (.slice (some ⟨go33, 0, none⟩) y448.length co33)) (ok := (fun k_ => some k_ ≠ (.slice (some ad440) t434.length co18 : Value).ownBlock ∧ some k_ ≠ (v443 : Value).ownBlock)) (by (with_reducible repeat (first | apply Kd.V_alloc | apply Kd.V_drewN | apply Kd.V_drew)); exact Kd.V_mono HL451_5.out (fun _ hk => ⟨⟨hk.2, hk.1.1⟩, hk.1.2⟩)) hg (.inl rfl)); have n7_ := Aside0.mk (Kd.V_afterv (v := (.slice (some ⟨go33, 0, none⟩) y448.length co33)) (v1 := (.slice (some ⟨go33, 0, none⟩) y448.length co33)) (ok := (fun k_ => some k_ ≠ (.slice (some ad440) t434.length co18 : Value).ownBlock ∧ some k_ ≠ (v443 : Value).ownBlock)) (by (with_reducible repeat (first | apply Kd.V_alloc | apply Kd.V_drewN | apply Kd.V_drew)); exact Kd.V_mono HL451_6.out (fun _ hk => ⟨⟨hk.2, hk.1.1⟩, hk.1.2⟩)) hg (.inl rfl)); have n8_ := Aside0.mk (Kd.V_afterv (v := (.slice (some ⟨go33, 0, none⟩) y448.length co33)) (v1 := (.slice (some ⟨go33, 0, none⟩) y448.length co33)) (ok := (fun k_ => some k_ ≠ (.slice (some ad440) t434.length co18 : Value).ownBlock ∧ some k_ ≠ (v443 : Value).ownBlock)) (by (with_reducible repeat (first | apply Kd.V_alloc | apply Kd.V_drewN | apply Kd.V_drew)); exact Kd.V_mono HL451_7.out (fun _ hk => ⟨⟨hk.2, hk.1.1⟩, hk.1.2⟩)) hg (.inl rfl)); have n9_ := Aside0.mk ((by rw [hw]; exact below_set (below_set (below_set (below_set (below_set (below_set (below_set (below_set (HB.out) GB33.out) GB33.out) GB33.out) GB33.out) GB33.out) GB33.out) GB33.out) GB33.out : Below w.heap.size w w42)); clear HO_6; clear HL440_5; clear HL440_6; clear HL440_7; clear HO444; clear HO450; clear HL451_5; clear HL451_6; clear HL451_7; clear HB; have HO_6 := n0_; have HL440_5 := n1_; have HL440_6 := n2_; have HL440_7 := n3_; have HO444 := n4_; have HO450 := n5_; have HL451_5 := n6_; have HL451_6 := n7_; have HL451_7 := n8_; have HB := n9_; clear n0_ n1_ n2_ n3_ n4_ n5_ n6_ n7_ n8_ n9_; clear hg hw hp_; obtain ⟨Ao43, co43, eo43⟩ := Kd.N_slice HO444.out; subst eo43) | (go_at_call 14; refine calls_of_args (args' := #[.slice Ao43 t441.length co43, .slice (some ⟨go33, 0, none⟩) y452.length co33]) (by first | (rw [show y452.length = y448.length from (Kd.N_reads' HO450.out).1.symm] <;> rfl) | rfl) ?_; (with_reducible refine (glacisref06_Same.calls kj16 _ _ t441 _ _ y452 true _ ?side1 ?side2 ?side3 ?side4 A34.out).mono ?_); (case side1 => exact cl_ (Kd.N_reads' HO444.out).2.2); (case side2 => exact (Kd.N_reads' HO444.out).2.1); (case side3 => exact cl_ (Kd.N_reads' HO450.out).2.2); (case side4 => rw [show y452.length = y448.length from (Kd.N_reads' HO450.out).1.symm]; exact (Kd.N_reads' HO450.out).2.1); rintro e w44 ⟨rfl, hb⟩; have n0_ := Aside0.mk (Kd.N_below (by (with_reducible repeat (first | apply Kd.N_alloc | apply Kd.N_drewN | apply Kd.N_drew)); exact HO_6.out) hb); have n1_ := Aside0.mk (Kd.V_below (by (with_reducible repeat (first | apply Kd.V_alloc | apply Kd.V_drewN | apply Kd.V_drew)); exact HL440_5.out) hb); have n2_ := Aside0.mk (Kd.V_below (by (with_reducible repeat (first | apply Kd.V_alloc | apply Kd.V_drewN | apply Kd.V_drew)); exact HL440_6.out) hb); have n3_ := Aside0.mk (Kd.V_below (by (with_reducible repeat (first | apply Kd.V_alloc | apply Kd.V_drewN | apply Kd.V_drew)); exact HL440_7.out) hb); have n4_ := Aside0.mk (Kd.N_below (by (with_reducible repeat (first | apply Kd.N_alloc | apply Kd.N_drewN | apply Kd.N_drew)); exact HO444.out) hb); have n5_ := Aside0.mk (Kd.N_below (by (with_reducible repeat (first | apply Kd.N_alloc | apply Kd.N_drewN | apply Kd.N_drew)); exact HO450.out) hb); have n6_ := Aside0.mk (Kd.V_below (by (with_reducible repeat (first | apply Kd.V_alloc | apply Kd.V_drewN | apply Kd.V_drew)); exact HL451_5.out) hb); have n7_ := Aside0.mk (Kd.V_below (by (with_reducible repeat (first | apply Kd.V_alloc | apply Kd.V_drewN | apply Kd.V_drew)); exact HL451_6.out) hb); have n8_ := Aside0.mk (Kd.V_below (by (with_reducible repeat (first | apply Kd.V_alloc | apply Kd.V_drewN | apply Kd.V_drew)); exact HL451_7.out) hb); have n9_ := Aside0.mk (below_step (bl_ HB.out) hb); clear HO_6; clear HL440_5; clear HL440_6; clear HL440_7; clear HO444; clear HO450; clear HL451_5; clear HL451_6; clear HL451_7; clear HB; have HO_6 := n0_; have HL440_5 := n1_; have HL440_6 := n2_; have HL440_7 := n3_; have HO444 := n4_; have HO450 := n5_; have HL451_5 := n6_; have HL451_6 := n7_; have HL451_7 := n8_; have HB := n9_; clear n0_ n1_ n2_ n3_ n4_ n5_ n6_ n7_ n8_ n9_; (try clear hb); (try clear hb2); (try clear hk); (try clear hi))))
                   go_ret
                   exact ⟨by first | rfl | (simp [errW_none, errW_some] <;> rfl) | (simp only [← hji25]; first | rfl | (simp [errW_none, errW_some] <;> rfl)) | (simp [*, errW_none, errW_some] <;> rfl) | (simp [q_ne_nil]; done), bl_ HB.out⟩
                  ·exact absurd H (by rw [if_neg c36]; simp)
                 ·exact absurd H (by rw [if_neg c35]; simp)
                ·exact absurd H (by rw [if_neg c32]; simp)
               ·exact absurd H (by rw [if_neg c31]; simp)
              ·exact absurd H (by rw [if_neg c29]; simp)
             ·exact absurd H (by rw [if_neg c28]; simp)
            ·exact absurd H (by rw [if_neg c27]; simp)
           ·exact absurd H (by rw [if_neg c26]; simp)
          ·exact absurd H (by rw [if_neg c24]; simp)
        ·rw [if_neg c22] at H
         have c22b0 : decide (a1 < 0) = false := decide_eq_false c22
         clear c22
         by_cases c61 : (t434.length : Int) = 0
         ·exact absurd H (by rw [if_pos c61]; simp)
         ·rw [if_neg c61] at H
          obtain ⟨c61b0, c61b1⟩ := eF_ c61
          have c61b2 : ¬ (t434 = []) := fun h_ => c61 (by rw [h_]; rfl)
          by_cases c62 : a0.size + 1 ≤ 9223372036854775807
          ·rw [if_pos c62] at H
           have c62b0 := eq_true c62
           have c62b1 : decide (a0.size + 1 ≤ 9223372036854775807) = true := decide_eq_true c62
           try have c62b2 : (9223372036854775807 < a0.size + 1) = False := eq_false (Nat.not_lt.2 c62)
           obtain ⟨ji63, hji63⟩ : ∃ j_ : Int, (Int.tmod a1 (t434.length : Int)) = j_ := ⟨_, rfl⟩
           replace H : (if 0 ≤ (ji63) then (if (ji63) < (t434.length : Int) then (if (a0 ++ (⟨#[44]⟩ : ByteArray)).size + ((rd_T34 t434 (ji63)).f0).size ≤ 9223372036854775807 then (if ((a0 ++ (⟨#[44]⟩ : ByteArray)) ++ ((rd_T34 t434 (ji63)).f0)).size + 3 ≤ 9223372036854775807 then ((sfield_Dict.f kj16 (((a0 ++ (⟨#[44]⟩ : ByteArray)) ++ ((rd_T34 t434 (ji63)).f0)) ++ (⟨#[61, 55, 55]⟩ : ByteArray))).bind fun bt455 => ((some (([] : List (S34)) : List (S34))).bind fun y459 => (if y459.length + t434.length < 1099511627776 then ((some (y459 ++ t434 : List (S34))).bind fun y462 => (if (ji63) < (y462.length : Int) then ((glacisref06_Same.f kj16 bt455.1 (y462.set ((ji63) : Int).toNat (⟨(rd_T34 t434 (ji63)).f0, false, (⟨1, 77, (⟨#[]⟩ : ByteArray), ([] : List (S60))⟩ : S31), ([] : List (S31)), ([] : List (S60))⟩ : S34))).bind fun t467 => (if t433 = true then (if t467 = true then (some (bt455.2 == 0)) else (none)) else (none))) else (none))) else (none)))) else (none)) else (none)) else (none)) else (none)) = some r := by first | (rw [hji63] at H; exact H) | (simp only [hji63] at H ⊢; exact H)
           by_cases c64 : 0 ≤ (ji63)
           ·rw [if_pos c64] at H
            have c64b0 : decide (0 ≤ (ji63)) = true := decide_eq_true c64
            clear c64
            by_cases c65 : (ji63) < (t434.length : Int)
            ·rw [if_pos c65] at H
             have c65b0 : decide ((ji63) < (t434.length : Int)) = true := decide_eq_true c65
             clear c65
             by_cases c66 : (a0 ++ (⟨#[44]⟩ : ByteArray)).size + ((rd_T34 t434 (ji63)).f0).size ≤ 9223372036854775807
             ·rw [if_pos c66] at H
              have c66b0 := eq_true c66
              have c66b1 : decide ((a0 ++ (⟨#[44]⟩ : ByteArray)).size + ((rd_T34 t434 (ji63)).f0).size ≤ 9223372036854775807) = true := decide_eq_true c66
              try have c66b2 : (9223372036854775807 < (a0 ++ (⟨#[44]⟩ : ByteArray)).size + ((rd_T34 t434 (ji63)).f0).size) = False := eq_false (Nat.not_lt.2 c66)
              by_cases c67 : ((a0 ++ (⟨#[44]⟩ : ByteArray)) ++ ((rd_T34 t434 (ji63)).f0)).size + 3 ≤ 9223372036854775807
              ·rw [if_pos c67] at H
               have c67b0 := eq_true c67
               have c67b1 : decide (((a0 ++ (⟨#[44]⟩ : ByteArray)) ++ ((rd_T34 t434 (ji63)).f0)).size + 3 ≤ 9223372036854775807) = true := decide_eq_true c67
               try have c67b2 : (9223372036854775807 < ((a0 ++ (⟨#[44]⟩ : ByteArray)) ++ ((rd_T34 t434 (ji63)).f0)).size + 3) = False := eq_false (Nat.not_lt.2 c67)
               try (have c67d : (9223372036854775807 < a0.size + 1 + ((rd_T34 t434 (ji63)).f0).size + 3) = False := eq_false (by have h_ := c67; simp only [ByteArray.size_append] at h_; exact Nat.not_lt.2 h_))
               replace H := Option.bind_eq_some_iff.mp H
               obtain ⟨⟨t455, t456⟩, A680, H⟩ := H
               (try dsimp only at H)
               have A68 := Aside0.mk A680
               clear A680
               obtain ⟨y459, hy459⟩ : ∃ y_ : List (S34), y_ = (([] : List (S34))) := ⟨_, rfl⟩
               replace H : (if y459.length + t434.length < 1099511627776 then ((some (y459 ++ t434 : List (S34))).bind fun y462 => (if (ji63) < (y462.length : Int) then ((glacisref06_Same.f kj16 t455 (y462.set ((ji63) : Int).toNat (⟨(rd_T34 t434 (ji63)).f0, false, (⟨1, 77, (⟨#[]⟩ : ByteArray), ([] : List (S60))⟩ : S31), ([] : List (S31)), ([] : List (S60))⟩ : S34))).bind fun t467 => (if t433 = true then (if t467 = true then (some (t456 == 0)) else (none)) else (none))) else (none))) else (none)) = some r := by first | (rw [hy459]; with_reducible exact H) | (have H2_ := (Option.bind_some _ _).symm.trans H; rw [hy459]; with_reducible exact H2_) | (have H2_ := (Option.bind_some _ _).symm.trans H; with_reducible exact H2_) | with_reducible exact H | (rw [hy459]; exact H) | exact H
               have Ny459 := Aside0.mk hy459
               clear hy459
               by_cases c69 : y459.length + t434.length < 1099511627776
               ·rw [if_pos c69] at H
                have LMc69 := Aside0.mk c69
                clear c69
                obtain ⟨y462, hy462⟩ : ∃ y_ : List (S34), y_ = (y459 ++ t434) := ⟨_, rfl⟩
                replace H : (if (ji63) < (y462.length : Int) then ((glacisref06_Same.f kj16 t455 (y462.set ((ji63) : Int).toNat (⟨(rd_T34 t434 (ji63)).f0, false, (⟨1, 77, (⟨#[]⟩ : ByteArray), ([] : List (S60))⟩ : S31), ([] : List (S31)), ([] : List (S60))⟩ : S34))).bind fun t467 => (if t433 = true then (if t467 = true then (some (t456 == 0)) else (none)) else (none))) else (none)) = some r := by first | (rw [hy462]; with_reducible exact H) | (have H2_ := (Option.bind_some _ _).symm.trans H; rw [hy462]; with_reducible exact H2_) | (have H2_ := (Option.bind_some _ _).symm.trans H; with_reducible exact H2_) | with_reducible exact H | (rw [hy462]; exact H) | exact H
                have Ny462 := Aside0.mk hy462
                clear hy462
                by_cases c70 : (ji63) < (y462.length : Int)
                ·rw [if_pos c70] at H
                 have c70b0 : decide ((ji63) < (y462.length : Int)) = true := decide_eq_true c70
                 clear c70
                 obtain ⟨y466, hy466⟩ : ∃ y_ : List (S34), y_ = (y462.set ((ji63) : Int).toNat (⟨(rd_T34 t434 (ji63)).f0, false, (⟨1, 77, (⟨#[]⟩ : ByteArray), ([] : List (S60))⟩ : S31), ([] : List (S31)), ([] : List (S60))⟩ : S34)) := ⟨_, rfl⟩
                 replace H : ((glacisref06_Same.f kj16 t455 y466).bind fun t467 => (if t433 = true then (if t467 = true then (some (t456 == 0)) else (none)) else (none))) = some r := by first | (rw [hy466]; with_reducible exact H) | (have H2_ := (Option.bind_some _ _).symm.trans H; rw [hy466]; with_reducible exact H2_) | (have H2_ := (Option.bind_some _ _).symm.trans H; with_reducible exact H2_) | with_reducible exact H | (rw [hy466]; exact H) | exact H
                 have Ny466 := Aside0.mk hy466
                 clear hy466
                 replace H := Option.bind_eq_some_iff.mp H
                 obtain ⟨t467, A720, H⟩ := H
                 (try dsimp only at H)
                 have A72 := Aside0.mk A720
                 clear A720
                 by_cases c73 : t433 = true
                 ·subst c73
                  rw [if_pos rfl] at H
                  by_cases c74 : t467 = true
                  ·subst c74
                   rw [if_pos rfl] at H
                   obtain rfl := Option.some.inj H
                   have p454 : 0 ≤ ((ji63) : Int) := of_decide_eq_true (by assumption)
                   have q454 : (ji63) < (t434.length : Int) := of_decide_eq_true (by assumption)
                   obtain ⟨ad454, A454_5, c454_5, A454_6, c454_6, A454_7, c454_7, e454, hx454_0, hx454_1, hx454_2, hx454_3, hx454_4, hx454_5, hx454_6, hx454_7, hl454_5, hi454_5, hl454_6, hi454_6, hl454_7, hi454_7⟩ := at_T34 (Kd.N_reads' HO_6.out).2.2 (ji63) p454 q454
                   cases e454
                   obtain ⟨ce454, hce454, hMe454, hcc454⟩ := Kd.N_get HO_6.out z34 (ji63) p454 (by first | exact q454 | exact of_decide_eq_true (by assumption) | (have e_ := (Kd.N_reads' HO_6.out).1; omega))
                   obtain ⟨ua454_5, uc454_5, ua454_6, uc454_6, ua454_7, uc454_7, rfl, ul454_5, ge454_5, ul454_6, ge454_6, ul454_7, ge454_7⟩ := k34_openF hMe454
                   have hv454_5 := hcc454 5 _ rfl
                   rw [add_field _ _ 5 (by omega)] at hv454_5
                   replace hv454_5 := Option.some.inj (hv454_5.symm.trans hx454_5)
                   injection hv454_5 with hva_ hvn_ hvc_
                   rw [hva_] at ge454_5
                   rw [hvc_] at ul454_5
                   have HL454_5 := Aside0.mk (show Kd.V k60 60 _ w.heap.size _ _ ((rd_T34 t434 (ji63)).f2.f3) from Kd.V_mk ul454_5 ge454_5)
                   clear hva_ hvn_ hvc_ ge454_5 ul454_5
                   have hv454_6 := hcc454 6 _ rfl
                   rw [add_field _ _ 6 (by omega)] at hv454_6
                   replace hv454_6 := Option.some.inj (hv454_6.symm.trans hx454_6)
                   injection hv454_6 with hva_ hvn_ hvc_
                   rw [hva_] at ge454_6
                   rw [hvc_] at ul454_6
                   have HL454_6 := Aside0.mk (show Kd.V k31 31 _ w.heap.size _ _ ((rd_T34 t434 (ji63)).f3) from Kd.V_mk ul454_6 ge454_6)
                   clear hva_ hvn_ hvc_ ge454_6 ul454_6
                   have hv454_7 := hcc454 7 _ rfl
                   rw [add_field _ _ 7 (by omega)] at hv454_7
                   replace hv454_7 := Option.some.inj (hv454_7.symm.trans hx454_7)
                   injection hv454_7 with hva_ hvn_ hvc_
                   rw [hva_] at ge454_7
                   rw [hvc_] at ul454_7
                   have HL454_7 := Aside0.mk (show Kd.V k60 60 _ w.heap.size _ _ ((rd_T34 t434 (ji63)).f4) from Kd.V_mk ul454_7 ge454_7)
                   clear hva_ hvn_ hvc_ ge454_7 ul454_7
                   clear hcc454 hce454
                   have HR454_5 := Aside0.mk hi454_5
                   have HC454_5 := Aside0.mk hl454_5
                   clear hi454_5 hl454_5
                   have HR454_6 := Aside0.mk hi454_6
                   have HC454_6 := Aside0.mk hl454_6
                   clear hi454_6 hl454_6
                   have HR454_7 := Aside0.mk hi454_7
                   have HC454_7 := Aside0.mk hl454_7
                   clear hi454_7 hl454_7
                   replace p454 := eq_true p454
                   replace q454 := eq_true q454
                   go_wp2_with (first | (go_at_call 12; (with_reducible refine (sfield_Dict.calls kj16 (((a0 ++ (⟨#[44]⟩ : ByteArray)) ++ ((rd_T34 t434 (ji63)).f0)) ++ (⟨#[61, 55, 55]⟩ : ByteArray)) t455 t456 _ A68.out).mono ?_); rintro e w75 ⟨v457, rfl, ho0, hb⟩; have n0_ := Aside0.mk (Kd.N_elder' (by (with_reducible repeat (first | apply Kd.N_alloc | apply Kd.N_drewN | apply Kd.N_drew)); exact HO_6.out) (Kd.N_base (Kd.R_N ho0)) hb); have n1_ := Aside0.mk (Kd.V_elder' (by (with_reducible repeat (first | apply Kd.V_alloc | apply Kd.V_drewN | apply Kd.V_drew)); exact HL454_5.out) (Kd.N_base (Kd.R_N ho0)) hb); have n2_ := Aside0.mk (Kd.V_elder' (by (with_reducible repeat (first | apply Kd.V_alloc | apply Kd.V_drewN | apply Kd.V_drew)); exact HL454_6.out) (Kd.N_base (Kd.R_N ho0)) hb); have n3_ := Aside0.mk (Kd.V_elder' (by (with_reducible repeat (first | apply Kd.V_alloc | apply Kd.V_drewN | apply Kd.V_drew)); exact HL454_7.out) (Kd.N_base (Kd.R_N ho0)) hb); have n4_ := Aside0.mk (Kd.N_lower (Kd.N_mono (ok' := fun k_ => some k_ ≠ (.slice (some ad454) t434.length co18 : Value).ownBlock) (Kd.R_N (Kd.R_bound ho0)) (fun k_ hk_ => (Kd.fresh' (Kd.N_lt (by (with_reducible repeat (first | apply Kd.N_alloc | apply Kd.N_drewN | apply Kd.N_drew)); exact HO_6.out)) k_ hk_.2.1))) (below_size (bl_ HB.out))); have n5_ := Aside0.mk (Kd.C_below (by repeat (first | (with_reducible exact HR454_5.out) | (with_reducible refine Kd.C_alloc ?_ _) | (with_reducible refine Kd.C_drewN ?_ _) | (with_reducible refine Kd.C_drew ?_) | exact HR454_5.out)) hb); have n6_ := Aside0.mk (Kd.C_below (by repeat (first | (with_reducible exact HR454_6.out) | (with_reducible refine Kd.C_alloc ?_ _) | (with_reducible refine Kd.C_drewN ?_ _) | (with_reducible refine Kd.C_drew ?_) | exact HR454_6.out)) hb); have n7_ := Aside0.mk (Kd.C_below (by repeat (first | (with_reducible exact HR454_7.out) | (with_reducible refine Kd.C_alloc ?_ _) | (with_reducible refine Kd.C_drewN ?_ _) | (with_reducible refine Kd.C_drew ?_) | exact HR454_7.out)) hb); have n8_ := Aside0.mk (below_step (bl_ HB.out) hb); clear HO_6; clear HL454_5; clear HL454_6; clear HL454_7; clear HR454_5; clear HR454_6; clear HR454_7; clear HB; have HO_6 := n0_; have HL454_5 := n1_; have HL454_6 := n2_; have HL454_7 := n3_; have HO458 := n4_; have HR454_5 := n5_; have HR454_6 := n6_; have HR454_7 := n7_; have HB := n8_; clear n0_ n1_ n2_ n3_ n4_ n5_ n6_ n7_ n8_; (try clear hb); (try clear hb2); (try clear hk); (try clear hi); (try clear ho0)) | ((with_reducible refine gate_dst (N := 81) rfl ?_); (try (refine gate_guard (by rfl) ?_; dsimp only)); refine Kd.N_lit k34 _ 34 ?hg (N' := 81) ?hd (xs := ([] : List (S34))) (inner := []) (ok := (fun k_ => some k_ ≠ (.slice (some ad454) t434.length co18 : Value).ownBlock ∧ some k_ ≠ (v457 : Value).ownBlock)) (okp := (fun k_ => some k_ ≠ (.slice (some ad454) t434.length co18 : Value).ownBlock ∧ some k_ ≠ (v457 : Value).ownBlock)) ?hr ?hp (fun _ hk => hk) ((show ∀ k_, w75.heap.size ≤ k_ → (fun k_ => some k_ ≠ (.slice (some ad454) t434.length co18 : Value).ownBlock ∧ some k_ ≠ (v457 : Value).ownBlock) k_ from fun k_ hk => ⟨Kd.fresh' (Kd.N_lt (by (with_reducible repeat (first | apply Kd.N_alloc | apply Kd.N_drewN | apply Kd.N_drew)); exact HO_6.out)) k_ hk, Kd.fresh' (Kd.N_lt (by (with_reducible repeat (first | apply Kd.N_alloc | apply Kd.N_drewN | apply Kd.N_drew)); exact HO458.out)) k_ hk⟩) _ (Nat.le_refl _)) (Below.refl _ _) (Nat.le_refl _) (by simp) ?_; (case hd => rfl); (case hg => rfl); (case hr => first | (go_simp; done) | (go_simp; rfl)); (case hp => exact (Reps.none _ _)); intro v460 w76 ho77 hb hg_ hnew_; clear hg_ hnew_; (first | rw [← Ny459.out] at ho77 | (simp only [Int.reduceToNat] at ho77; rw [← Ny459.out] at ho77)); have n0_ := Aside0.mk (Kd.N_elder' (by (with_reducible repeat (first | apply Kd.N_alloc | apply Kd.N_drewN | apply Kd.N_drew)); exact HO_6.out) (Kd.N_base ho77) hb); have n1_ := Aside0.mk (Kd.V_elder' (by (with_reducible repeat (first | apply Kd.V_alloc | apply Kd.V_drewN | apply Kd.V_drew)); exact HL454_5.out) (Kd.N_base ho77) hb); have n2_ := Aside0.mk (Kd.V_elder' (by (with_reducible repeat (first | apply Kd.V_alloc | apply Kd.V_drewN | apply Kd.V_drew)); exact HL454_6.out) (Kd.N_base ho77) hb); have n3_ := Aside0.mk (Kd.V_elder' (by (with_reducible repeat (first | apply Kd.V_alloc | apply Kd.V_drewN | apply Kd.V_drew)); exact HL454_7.out) (Kd.N_base ho77) hb); have n4_ := Aside0.mk (Kd.N_elder' (by (with_reducible repeat (first | apply Kd.N_alloc | apply Kd.N_drewN | apply Kd.N_drew)); exact HO458.out) (Kd.N_base ho77) hb); have n5_ := Aside0.mk (Kd.N_lower ho77 (below_size (bl_ HB.out))); have n6_ := Aside0.mk (Kd.C_below (by repeat (first | (with_reducible exact HR454_5.out) | (with_reducible refine Kd.C_alloc ?_ _) | (with_reducible refine Kd.C_drewN ?_ _) | (with_reducible refine Kd.C_drew ?_) | exact HR454_5.out)) hb); have n7_ := Aside0.mk (Kd.C_below (by repeat (first | (with_reducible exact HR454_6.out) | (with_reducible refine Kd.C_alloc ?_ _) | (with_reducible refine Kd.C_drewN ?_ _) | (with_reducible refine Kd.C_drew ?_) | exact HR454_6.out)) hb); have n8_ := Aside0.mk (Kd.C_below (by repeat (first | (with_reducible exact HR454_7.out) | (with_reducible refine Kd.C_alloc ?_ _) | (with_reducible refine Kd.C_drewN ?_ _) | (with_reducible refine Kd.C_drew ?_) | exact HR454_7.out)) hb); have n9_ := Aside0.mk (below_step (bl_ HB.out) hb); clear HO_6; clear HL454_5; clear HL454_6; clear HL454_7; clear HO458; clear HR454_5; clear HR454_6; clear HR454_7; clear HB; have HO_6 := n0_; have HL454_5 := n1_; have HL454_6 := n2_; have HL454_7 := n3_; have HO458 := n4_; have HO461 := n5_; have HR454_5 := n6_; have HR454_6 := n7_; have HR454_7 := n8_; have HB := n9_; clear n0_ n1_ n2_ n3_ n4_ n5_ n6_ n7_ n8_ n9_; clear hb ho77) | ((with_reducible refine gate_builtin (b := .append) (xs := #[.tmp 81, .tmp 82]) rfl ?_); (try (refine gate_guard (by rfl) ?_; dsimp only)); at_builtin; refine Kd.N_append_rows k34 (w0 := w) w.heap.size rfl (.tmp 81) (.tmp 82) 23 34 (.agg #[(.string ⟨#[]⟩), (.bool false), (.int .i64 0), (.int .i64 0), (.string ⟨#[]⟩), (.slice none 0 0), (.slice none 0 0), (.slice none 0 0)]) 128 rfl Tryz.underlying23 info34 rfl (by decide) (by omega) v460 y459 t434 _ _ _ (fun k_ => some k_ ≠ (v457 : Value).ownBlock) (fun k_ => ((fun k_ => some k_ ≠ (v457 : Value).ownBlock)) k_ ∧ some k_ ≠ (v460 : Value).ownBlock) rfl rfl ?aO ?aR (fun _ hk => hk) ?aF ?aB ?aS ?aL ?_; (case aR => exact (by skip; exact Kd.N_F (Kd.N_mono (ok' := (fun k_ => ((fun k_ => some k_ ≠ (v457 : Value).ownBlock)) k_ ∧ some k_ ≠ (v460 : Value).ownBlock)) (HO_6.out) (fun k_ hk => ⟨hk.1.2, hk.2⟩)))); (case aB => exact (bl_ HB.out)); (case aF => exact (fun k_ hk => Kd.fresh' (Kd.N_lt (by (with_reducible repeat (first | apply Kd.N_alloc | apply Kd.N_drewN | apply Kd.N_drew)); exact HO458.out)) k_ hk)); (case aO => exact (by (with_reducible repeat (first | apply Kd.N_alloc | apply Kd.N_drewN | apply Kd.N_drew)); exact Kd.N_mono HO461.out (fun _ hk => hk.2))); (case aS => exact (below_size (bl_ HB.out))); (case aL => have := LMc69.out; omega); intro v463 w78 ho hb hg hat; rw [← Ny462.out] at ho; have n0_ := Aside0.mk (Kd.N_afterv (ok := (fun k_ => some k_ ≠ (v457 : Value).ownBlock)) (by (with_reducible repeat (first | apply Kd.N_alloc | apply Kd.N_drewN | apply Kd.N_drew)); exact Kd.N_mono HO_6.out (fun _ hk => ⟨hk.1.2, hk.2⟩)) hg hat); have n1_ := Aside0.mk (Kd.V_afterv (ok := (fun k_ => some k_ ≠ (.slice (some ad454) t434.length co18 : Value).ownBlock ∧ some k_ ≠ (v457 : Value).ownBlock)) (by (with_reducible repeat (first | apply Kd.V_alloc | apply Kd.V_drewN | apply Kd.V_drew)); exact Kd.V_mono HL454_5.out (fun _ hk => ⟨⟨hk.1.1.2, hk.1.2⟩, hk.2⟩)) hg hat); have n2_ := Aside0.mk (Kd.V_afterv (ok := (fun k_ => some k_ ≠ (.slice (some ad454) t434.length co18 : Value).ownBlock ∧ some k_ ≠ (v457 : Value).ownBlock)) (by (with_reducible repeat (first | apply Kd.V_alloc | apply Kd.V_drewN | apply Kd.V_drew)); exact Kd.V_mono HL454_6.out (fun _ hk => ⟨⟨hk.1.1.2, hk.1.2⟩, hk.2⟩)) hg hat); have n3_ := Aside0.mk (Kd.V_afterv (ok := (fun k_ => some k_ ≠ (.slice (some ad454) t434.length co18 : Value).ownBlock ∧ some k_ ≠ (v457 : Value).ownBlock)) (by (with_reducible repeat (first | apply Kd.V_alloc | apply Kd.V_drewN | apply Kd.V_drew)); exact Kd.V_mono HL454_7.out (fun _ hk => ⟨⟨hk.1.1.2, hk.1.2⟩, hk.2⟩)) hg hat); have n4_ := Aside0.mk (Kd.N_afterv (ok := (fun k_ => some k_ ≠ (.slice (some ad454) t434.length co18 : Value).ownBlock)) (by (with_reducible repeat (first | apply Kd.N_alloc | apply Kd.N_drewN | apply Kd.N_drew)); exact HO458.out) hg hat); have n5_ := Aside0.mk (hb); have n6_ := Aside0.mk (ho); clear HO_6; clear HL454_5; clear HL454_6; clear HL454_7; clear HO458; clear HB; clear HO461; have HO_6 := n0_; have HL454_5 := n1_; have HL454_6 := n2_; have HL454_7 := n3_; have HO458 := n4_; have HB := n5_; have HO464 := n6_; clear n0_ n1_ n2_ n3_ n4_ n5_ n6_; clear ho hb hg hat; have p465 : 0 ≤ ((ji63) : Int) := of_decide_eq_true (by assumption); have q465 : (ji63) < (t434.length : Int) := of_decide_eq_true (by assumption); obtain ⟨ad465, A465_5, c465_5, A465_6, c465_6, A465_7, c465_7, e465, hx465_0, hx465_1, hx465_2, hx465_3, hx465_4, hx465_5, hx465_6, hx465_7, hl465_5, hi465_5, hl465_6, hi465_6, hl465_7, hi465_7⟩ := at_T34 (Kd.N_reads' HO_6.out).2.2 (ji63) p465 q465; obtain rfl : ad454 = ad465 := (by injection e465); obtain ⟨ce465, hce465, hMe465, hcc465⟩ := Kd.N_get HO_6.out z34 (ji63) p465 (by first | exact q465 | exact of_decide_eq_true (by assumption) | (have e_ := (Kd.N_reads' HO_6.out).1; omega)); obtain ⟨ua465_5, uc465_5, ua465_6, uc465_6, ua465_7, uc465_7, rfl, ul465_5, ge465_5, ul465_6, ge465_6, ul465_7, ge465_7⟩ := k34_openF hMe465; have hv465_5 := hcc465 5 _ rfl; rw [add_field _ _ 5 (by omega)] at hv465_5; replace hv465_5 := Option.some.inj (hv465_5.symm.trans hx465_5); injection hv465_5 with hva_ hvn_ hvc_; rw [hva_] at ge465_5; rw [hvc_] at ul465_5; have HL465_5 := Aside0.mk (show Kd.V k60 60 _ w.heap.size _ _ ((rd_T34 t434 (ji63)).f2.f3) from Kd.V_mk ul465_5 ge465_5); clear hva_ hvn_ hvc_ ge465_5 ul465_5; have hv465_6 := hcc465 6 _ rfl; rw [add_field _ _ 6 (by omega)] at hv465_6; replace hv465_6 := Option.some.inj (hv465_6.symm.trans hx465_6); injection hv465_6 with hva_ hvn_ hvc_; rw [hva_] at ge465_6; rw [hvc_] at ul465_6; have HL465_6 := Aside0.mk (show Kd.V k31 31 _ w.heap.size _ _ ((rd_T34 t434 (ji63)).f3) from Kd.V_mk ul465_6 ge465_6); clear hva_ hvn_ hvc_ ge465_6 ul465_6; have hv465_7 := hcc465 7 _ rfl; rw [add_field _ _ 7 (by omega)] at hv465_7; replace hv465_7 := Option.some.inj (hv465_7.symm.trans hx465_7); injection hv465_7 with hva_ hvn_ hvc_; rw [hva_] at ge465_7; rw [hvc_] at ul465_7; have HL465_7 := Aside0.mk (show Kd.V k60 60 _ w.heap.size _ _ ((rd_T34 t434 (ji63)).f4) from Kd.V_mk ul465_7 ge465_7); clear hva_ hvn_ hvc_ ge465_7 ul465_7; clear hcc465 hce465; have HR465_5 := Aside0.mk hi465_5; have HC465_5 := Aside0.mk hl465_5; clear hi465_5 hl465_5; have HR465_6 := Aside0.mk hi465_6; have HC465_6 := Aside0.mk hl465_6; clear hi465_6 hl465_6; have HR465_7 := Aside0.mk hi465_7; have HC465_7 := Aside0.mk hl465_7; clear hi465_7 hl465_7; replace p465 := eq_true p465; replace q465 := eq_true q465; have p71 : 0 ≤ ((ji63) : Int) := of_decide_eq_true (by assumption); have q71 : ((ji63) : Int) < ((y462.length : Int) : Int) := of_decide_eq_true (by assumption); obtain ⟨go71, co71, eo71, gb71, gl71, cl71, HG71⟩ := Kd.N_form HO464.out (by omega); (first | cases eo71 | (injection eo71 with ea_ en_ ec_; (first | subst ea_ | (injection ea_ with ea_; subst ea_)); subst ec_; clear en_)); have GB71 := Aside0.mk gb71; have GG71 := Aside0.mk HG71; clear gb71 gl71 HG71; obtain ⟨ce71, hcl71, hM71, hcc71, hfr71⟩ := Kd.N_elem HO464.out z34 ((ji63) : Int) p71 q71; obtain ⟨ua71_5, uc71_5, ua71_6, uc71_6, ua71_7, uc71_7, rfl, ul71_5, ge71_5, ul71_6, ge71_6, ul71_7, ge71_7⟩ := k34_openF hM71; have hx71_0 : w78.cell? ⟨go71, ((ji63) : Int).toNat * 8, none⟩ = some (.string ((rd_T34 y462 (ji63)).f0)) := hcc71 0 _ rfl; have hx71_1 : w78.cell? ⟨go71, ((ji63) : Int).toNat * 8 + 1, none⟩ = some (.bool ((rd_T34 y462 (ji63)).f1)) := hcc71 1 _ rfl; have hx71_2 : w78.cell? ⟨go71, ((ji63) : Int).toNat * 8 + 2, none⟩ = some (.int .i64 ((rd_T34 y462 (ji63)).f2.f0)) := hcc71 2 _ rfl; have hx71_3 : w78.cell? ⟨go71, ((ji63) : Int).toNat * 8 + 3, none⟩ = some (.int .i64 ((rd_T34 y462 (ji63)).f2.f1)) := hcc71 3 _ rfl; have hx71_4 : w78.cell? ⟨go71, ((ji63) : Int).toNat * 8 + 4, none⟩ = some (.string ((rd_T34 y462 (ji63)).f2.f2)) := hcc71 4 _ rfl; have hx71_5 : w78.cell? ⟨go71, ((ji63) : Int).toNat * 8 + 5, none⟩ = some (.slice ua71_5 ((rd_T34 y462 (ji63)).f2.f3).length uc71_5) := hcc71 5 _ rfl; have hx71_6 : w78.cell? ⟨go71, ((ji63) : Int).toNat * 8 + 6, none⟩ = some (.slice ua71_6 ((rd_T34 y462 (ji63)).f3).length uc71_6) := hcc71 6 _ rfl; have hx71_7 : w78.cell? ⟨go71, ((ji63) : Int).toNat * 8 + 7, none⟩ = some (.slice ua71_7 ((rd_T34 y462 (ji63)).f4).length uc71_7) := hcc71 7 _ rfl; have hf71_0 : w78.frozen? ⟨go71, ((ji63) : Int).toNat * 8, none⟩ = false := hfr71 0; have hf71_1 : w78.frozen? ⟨go71, ((ji63) : Int).toNat * 8 + 1, none⟩ = false := hfr71 1; have hf71_2 : w78.frozen? ⟨go71, ((ji63) : Int).toNat * 8 + 2, none⟩ = false := hfr71 2; have hf71_3 : w78.frozen? ⟨go71, ((ji63) : Int).toNat * 8 + 3, none⟩ = false := hfr71 3; have hf71_4 : w78.frozen? ⟨go71, ((ji63) : Int).toNat * 8 + 4, none⟩ = false := hfr71 4; have hf71_5 : w78.frozen? ⟨go71, ((ji63) : Int).toNat * 8 + 5, none⟩ = false := hfr71 5; have hf71_6 : w78.frozen? ⟨go71, ((ji63) : Int).toNat * 8 + 6, none⟩ = false := hfr71 6; have hf71_7 : w78.frozen? ⟨go71, ((ji63) : Int).toNat * 8 + 7, none⟩ = false := hfr71 7; clear hcl71 hcc71 hfr71 hM71; replace p71 := eq_true p71; replace q71 := eq_true q71; have HX79 := Aside0.mk (show Kd.N k34 34 w78 w.heap.size (fun k_ => some k_ ≠ (v457 : Value).ownBlock) (.slice (some ⟨go71, 0, none⟩) y462.length co71) y462 from (by (with_reducible repeat (first | apply Kd.N_alloc | apply Kd.N_drewN | apply Kd.N_drew)); exact HO464.out)); obtain ⟨ce79, hcl79, hM79, hcc79, hfr79⟩ := Kd.N_elem HX79.out z34 ((ji63) : Int) (of_decide_eq_true (by assumption)) (by have h_ : ((ji63) : Int) < ((y462.length : Int) : Int) := of_decide_eq_true (by assumption); first | exact h_ | (have e_ := (Kd.N_reads' HO464.out).1; omega) | simpa using h_); obtain ⟨ua79_5, uc79_5, ua79_6, uc79_6, ua79_7, uc79_7, rfl, ul79_5, ge79_5, ul79_6, ge79_6, ul79_7, ge79_7⟩ := k34_openF hM79; have HP79 := Kd.N_seg HX79.out ((ji63) : Int) (of_decide_eq_true (by assumption)) (by have h_ : ((ji63) : Int) < ((y462.length : Int) : Int) := of_decide_eq_true (by assumption); first | exact h_ | (have e_ := (Kd.N_reads' HO464.out).1; omega) | simpa using h_) (seg := [.string ((rd_T34 t434 (ji63)).f0), .bool false, .int .i64 1, .int .i64 77, .string ⟨#[]⟩, .slice none 0 0, .slice none 0 0, .slice none 0 0]) (j := 0) hcl79 hcc79 (show 8 ≤ 8 from by decide) (x' := (⟨(rd_T34 t434 (ji63)).f0, false, (⟨1, 77, (⟨#[]⟩ : ByteArray), ([] : List (S60))⟩ : S31), ([] : List (S31)), ([] : List (S60))⟩ : S34)) (k34_mkF _ _ (⟨(rd_T34 t434 (ji63)).f0, false, (⟨1, 77, (⟨#[]⟩ : ByteArray), ([] : List (S60))⟩ : S31), ([] : List (S31)), ([] : List (S60))⟩ : S34) (Nat.le_refl _) (Kd.F_nil _ _ _) (Nat.le_refl _) (Kd.F_nil _ _ _) (Nat.le_refl _) (Kd.F_nil _ _ _)) (fun _ hk => hk); have hx79_0 := hcc79 0 _ rfl; (try simp only [show (k34).sz = 8 from rfl, Nat.mul_one, Nat.add_zero] at hx79_0); have hf79_0 := hfr79 0; (try simp only [show (k34).sz = 8 from rfl, Nat.mul_one, Nat.add_zero] at hf79_0); have hx79_1 := hcc79 1 _ rfl; (try simp only [show (k34).sz = 8 from rfl, Nat.mul_one, Nat.add_zero] at hx79_1); have hf79_1 := hfr79 1; (try simp only [show (k34).sz = 8 from rfl, Nat.mul_one, Nat.add_zero] at hf79_1); have hx79_2 := hcc79 2 _ rfl; (try simp only [show (k34).sz = 8 from rfl, Nat.mul_one, Nat.add_zero] at hx79_2); have hf79_2 := hfr79 2; (try simp only [show (k34).sz = 8 from rfl, Nat.mul_one, Nat.add_zero] at hf79_2); have hx79_3 := hcc79 3 _ rfl; (try simp only [show (k34).sz = 8 from rfl, Nat.mul_one, Nat.add_zero] at hx79_3); have hf79_3 := hfr79 3; (try simp only [show (k34).sz = 8 from rfl, Nat.mul_one, Nat.add_zero] at hf79_3); have hx79_4 := hcc79 4 _ rfl; (try simp only [show (k34).sz = 8 from rfl, Nat.mul_one, Nat.add_zero] at hx79_4); have hf79_4 := hfr79 4; (try simp only [show (k34).sz = 8 from rfl, Nat.mul_one, Nat.add_zero] at hf79_4); have hx79_5 := hcc79 5 _ rfl; (try simp only [show (k34).sz = 8 from rfl, Nat.mul_one, Nat.add_zero] at hx79_5); have hf79_5 := hfr79 5; (try simp only [show (k34).sz = 8 from rfl, Nat.mul_one, Nat.add_zero] at hf79_5); have hx79_6 := hcc79 6 _ rfl; (try simp only [show (k34).sz = 8 from rfl, Nat.mul_one, Nat.add_zero] at hx79_6); have hf79_6 := hfr79 6; (try simp only [show (k34).sz = 8 from rfl, Nat.mul_one, Nat.add_zero] at hf79_6); have hx79_7 := hcc79 7 _ rfl; (try simp only [show (k34).sz = 8 from rfl, Nat.mul_one, Nat.add_zero] at hx79_7); have hf79_7 := hfr79 7; (try simp only [show (k34).sz = 8 from rfl, Nat.mul_one, Nat.add_zero] at hf79_7); clear hcl79 hcc79 hfr79 hM79) | ((with_reducible refine gate_store (t := 34) (p := 93) rfl ?_); (try (rw [drewN_self w78]; generalize hq_ : World.drewN w78 _ = w78; have n0_ := Aside0.mk (Kd.N_at hq_ HO_6.out); have n1_ := Aside0.mk (Kd.V_at hq_ HL454_5.out); have n2_ := Aside0.mk (Kd.V_at hq_ HL454_6.out); have n3_ := Aside0.mk (Kd.V_at hq_ HL454_7.out); have n4_ := Aside0.mk (Kd.N_at hq_ HO458.out); have n5_ := Aside0.mk (Kd.N_at hq_ HO464.out); have n6_ := Aside0.mk (Kd.V_at hq_ HL465_5.out); have n7_ := Aside0.mk (Kd.V_at hq_ HL465_6.out); have n8_ := Aside0.mk (Kd.V_at hq_ HL465_7.out); have n9_ := Aside0.mk (below_at hq_ HB.out); clear hq_ HO_6 HL454_5 HL454_6 HL454_7 HO458 HO464 HL465_5 HL465_6 HL465_7 HB; have HO_6 := n0_; have HL454_5 := n1_; have HL454_6 := n2_; have HL454_7 := n3_; have HO458 := n4_; have HO464 := n5_; have HL465_5 := n6_; have HL465_6 := n7_; have HL465_7 := n8_; have HB := n9_; clear n0_ n1_ n2_ n3_ n4_ n5_ n6_ n7_ n8_ n9_; (try (have HX79 := Aside0.mk (show Kd.N k34 34 w78 w.heap.size (fun k_ => some k_ ≠ (v457 : Value).ownBlock) (.slice (some ⟨go71, 0, none⟩) y462.length co71) y462 from (by (with_reducible repeat (first | apply Kd.N_alloc | apply Kd.N_drewN | apply Kd.N_drew)); exact HO464.out)))); (try (obtain ⟨ce79, hcl79, hM79, hcc79, hfr79⟩ := Kd.N_elem HX79.out z34 ((ji63) : Int) (of_decide_eq_true (by assumption)) (by have h_ : ((ji63) : Int) < ((y462.length : Int) : Int) := of_decide_eq_true (by assumption); first | exact h_ | (have e_ := (Kd.N_reads' HO464.out).1; omega) | simpa using h_))); (try (obtain ⟨ua79_5, uc79_5, ua79_6, uc79_6, ua79_7, uc79_7, rfl, ul79_5, ge79_5, ul79_6, ge79_6, ul79_7, ge79_7⟩ := k34_openF hM79)); (try (have HP79 := Kd.N_seg HX79.out ((ji63) : Int) (of_decide_eq_true (by assumption)) (by have h_ : ((ji63) : Int) < ((y462.length : Int) : Int) := of_decide_eq_true (by assumption); first | exact h_ | (have e_ := (Kd.N_reads' HO464.out).1; omega) | simpa using h_) (seg := [.string ((rd_T34 t434 (ji63)).f0), .bool false, .int .i64 1, .int .i64 77, .string ⟨#[]⟩, .slice none 0 0, .slice none 0 0, .slice none 0 0]) (j := 0) hcl79 hcc79 (show 8 ≤ 8 from by decide) (x' := (⟨(rd_T34 t434 (ji63)).f0, false, (⟨1, 77, (⟨#[]⟩ : ByteArray), ([] : List (S60))⟩ : S31), ([] : List (S31)), ([] : List (S60))⟩ : S34)) (k34_mkF _ _ (⟨(rd_T34 t434 (ji63)).f0, false, (⟨1, 77, (⟨#[]⟩ : ByteArray), ([] : List (S60))⟩ : S31), ([] : List (S31)), ([] : List (S60))⟩ : S34) (Nat.le_refl _) (Kd.F_nil _ _ _) (Nat.le_refl _) (Kd.F_nil _ _ _) (Nat.le_refl _) (Kd.F_nil _ _ _)) (fun _ hk => hk))); (try (have hx79_0 := hcc79 0 _ rfl)); (try (try simp only [show (k34).sz = 8 from rfl, Nat.mul_one, Nat.add_zero] at hx79_0)); (try (have hf79_0 := hfr79 0)); (try (try simp only [show (k34).sz = 8 from rfl, Nat.mul_one, Nat.add_zero] at hf79_0)); (try (have hx79_1 := hcc79 1 _ rfl)); (try (try simp only [show (k34).sz = 8 from rfl, Nat.mul_one, Nat.add_zero] at hx79_1)); (try (have hf79_1 := hfr79 1)); (try (try simp only [show (k34).sz = 8 from rfl, Nat.mul_one, Nat.add_zero] at hf79_1)); (try (have hx79_2 := hcc79 2 _ rfl)); (try (try simp only [show (k34).sz = 8 from rfl, Nat.mul_one, Nat.add_zero] at hx79_2)); (try (have hf79_2 := hfr79 2)); (try (try simp only [show (k34).sz = 8 from rfl, Nat.mul_one, Nat.add_zero] at hf79_2)); (try (have hx79_3 := hcc79 3 _ rfl)); (try (try simp only [show (k34).sz = 8 from rfl, Nat.mul_one, Nat.add_zero] at hx79_3)); (try (have hf79_3 := hfr79 3)); (try (try simp only [show (k34).sz = 8 from rfl, Nat.mul_one, Nat.add_zero] at hf79_3)); (try (have hx79_4 := hcc79 4 _ rfl)); (try (try simp only [show (k34).sz = 8 from rfl, Nat.mul_one, Nat.add_zero] at hx79_4)); (try (have hf79_4 := hfr79 4)); (try (try simp only [show (k34).sz = 8 from rfl, Nat.mul_one, Nat.add_zero] at hf79_4)); (try (have hx79_5 := hcc79 5 _ rfl)); (try (try simp only [show (k34).sz = 8 from rfl, Nat.mul_one, Nat.add_zero] at hx79_5)); (try (have hf79_5 := hfr79 5)); (try (try simp only [show (k34).sz = 8 from rfl, Nat.mul_one, Nat.add_zero] at hf79_5)); (try (have hx79_6 := hcc79 6 _ rfl)); (try (try simp only [show (k34).sz = 8 from rfl, Nat.mul_one, Nat.add_zero] at hx79_6)); (try (have hf79_6 := hfr79 6)); (try (try simp only [show (k34).sz = 8 from rfl, Nat.mul_one, Nat.add_zero] at hf79_6)); (try (have hx79_7 := hcc79 7 _ rfl)); (try (try simp only [show (k34).sz = 8 from rfl, Nat.mul_one, Nat.add_zero] at hx79_7)); (try (have hf79_7 := hfr79 7)); (try (try simp only [show (k34).sz = 8 from rfl, Nat.mul_one, Nat.add_zero] at hf79_7)); (try (clear hcl79 hcc79 hfr79 hM79)))); refine store_event (t := 34) (p := 93) (v := ?vo_w80) (w1 := ((((((((w78.setCell ⟨go71, ((ji63) : Int).toNat * 8, none⟩ (.string ((rd_T34 t434 (ji63)).f0))).setCell ⟨go71, ((ji63) : Int).toNat * 8 + 1, none⟩ (.bool false)).setCell ⟨go71, ((ji63) : Int).toNat * 8 + 2, none⟩ (.int .i64 1)).setCell ⟨go71, ((ji63) : Int).toNat * 8 + 3, none⟩ (.int .i64 77)).setCell ⟨go71, ((ji63) : Int).toNat * 8 + 4, none⟩ (.string ⟨#[]⟩)).setCell ⟨go71, ((ji63) : Int).toNat * 8 + 5, none⟩ (.slice none 0 0)).setCell ⟨go71, ((ji63) : Int).toNat * 8 + 6, none⟩ (.slice none 0 0)).setCell ⟨go71, ((ji63) : Int).toNat * 8 + 7, none⟩ (.slice none 0 0))) ?hg ?ho ?hn ?hr ?_; (case ho => rfl); (case hg => rfl); (case hn => rfl); (case hr => first | (go_simp; done) | (go_simp; rfl)); intro w80 hw; have hg : w78.grownBy w80 (some go71) := (by rw [hw]; exact HP79.2); have hp_ : Kd.N k34 34 w80 w.heap.size (fun k_ => some k_ ≠ (v457 : Value).ownBlock) (.slice (some ⟨go71, 0, none⟩) y462.length co71) y466 := (by rw [hw, Ny466.out]; exact HP79.1); clear HP79; have n0_ := Aside0.mk (Kd.N_afterv (v := (.slice (some ⟨go71, 0, none⟩) y462.length co71)) (v1 := (.slice (some ⟨go71, 0, none⟩) y462.length co71)) (ok := (fun k_ => some k_ ≠ (v457 : Value).ownBlock)) (by (with_reducible repeat (first | apply Kd.N_alloc | apply Kd.N_drewN | apply Kd.N_drew)); exact HO_6.out) hg (.inl rfl)); have n1_ := Aside0.mk (Kd.V_afterv (v := (.slice (some ⟨go71, 0, none⟩) y462.length co71)) (v1 := (.slice (some ⟨go71, 0, none⟩) y462.length co71)) (ok := (fun k_ => some k_ ≠ (.slice (some ad454) t434.length co18 : Value).ownBlock ∧ some k_ ≠ (v457 : Value).ownBlock)) (by (with_reducible repeat (first | apply Kd.V_alloc | apply Kd.V_drewN | apply Kd.V_drew)); exact HL454_5.out) hg (.inl rfl)); have n2_ := Aside0.mk (Kd.V_afterv (v := (.slice (some ⟨go71, 0, none⟩) y462.length co71)) (v1 := (.slice (some ⟨go71, 0, none⟩) y462.length co71)) (ok := (fun k_ => some k_ ≠ (.slice (some ad454) t434.length co18 : Value).ownBlock ∧ some k_ ≠ (v457 : Value).ownBlock)) (by (with_reducible repeat (first | apply Kd.V_alloc | apply Kd.V_drewN | apply Kd.V_drew)); exact HL454_6.out) hg (.inl rfl)); have n3_ := Aside0.mk (Kd.V_afterv (v := (.slice (some ⟨go71, 0, none⟩) y462.length co71)) (v1 := (.slice (some ⟨go71, 0, none⟩) y462.length co71)) (ok := (fun k_ => some k_ ≠ (.slice (some ad454) t434.length co18 : Value).ownBlock ∧ some k_ ≠ (v457 : Value).ownBlock)) (by (with_reducible repeat (first | apply Kd.V_alloc | apply Kd.V_drewN | apply Kd.V_drew)); exact HL454_7.out) hg (.inl rfl)); have n4_ := Aside0.mk (Kd.N_afterv (v := (.slice (some ⟨go71, 0, none⟩) y462.length co71)) (v1 := (.slice (some ⟨go71, 0, none⟩) y462.length co71)) (ok := (fun k_ => some k_ ≠ (.slice (some ad454) t434.length co18 : Value).ownBlock)) (by (with_reducible repeat (first | apply Kd.N_alloc | apply Kd.N_drewN | apply Kd.N_drew)); exact HO458.out) hg (.inl rfl)); have n5_ := Aside0.mk (hp_); have n6_ := Aside0.mk (Kd.V_afterv (v := (.slice (some ⟨go71, 0, none⟩) y462.length co71)) (v1 := (.slice (some ⟨go71, 0, none⟩) y462.length co71)) (ok := (fun k_ => some k_ ≠ (.slice (some ad454) t434.length co18 : Value).ownBlock ∧ some k_ ≠ (v457 : Value).ownBlock)) (by (with_reducible repeat (first | apply Kd.V_alloc | apply Kd.V_drewN | apply Kd.V_drew)); exact Kd.V_mono HL465_5.out (fun _ hk => ⟨⟨hk.2, hk.1.1⟩, hk.1.2⟩)) hg (.inl rfl)); have n7_ := Aside0.mk (Kd.V_afterv (v := (.slice (some ⟨go71, 0, none⟩) y462.length co71)) (v1 := (.slice (some ⟨go71, 0, none⟩) y462.length co71)) (ok := (fun k_ => some k_ ≠ (.slice (some ad454) t434.length co18 : Value).ownBlock ∧ some k_ ≠ (v457 : Value).ownBlock)) (by (with_reducible repeat (first | apply Kd.V_alloc | apply Kd.V_drewN | apply Kd.V_drew)); exact Kd.V_mono HL465_6.out (fun _ hk => ⟨⟨hk.2, hk.1.1⟩, hk.1.2⟩)) hg (.inl rfl)); have n8_ := Aside0.mk (Kd.V_afterv (v := (.slice (some ⟨go71, 0, none⟩) y462.length co71)) (v1 := (.slice (some ⟨go71, 0, none⟩) y462.length co71)) (ok := (fun k_ => some k_ ≠ (.slice (some ad454) t434.length co18 : Value).ownBlock ∧ some k_ ≠ (v457 : Value).ownBlock)) (by (with_reducible repeat (first | apply Kd.V_alloc | apply Kd.V_drewN | apply Kd.V_drew)); exact Kd.V_mono HL465_7.out (fun _ hk => ⟨⟨hk.2, hk.1.1⟩, hk.1.2⟩)) hg (.inl rfl)); have n9_ := Aside0.mk ((by rw [hw]; exact below_set (below_set (below_set (below_set (below_set (below_set (below_set (below_set (HB.out) GB71.out) GB71.out) GB71.out) GB71.out) GB71.out) GB71.out) GB71.out) GB71.out : Below w.heap.size w w80)); clear HO_6; clear HL454_5; clear HL454_6; clear HL454_7; clear HO458; clear HO464; clear HL465_5; clear HL465_6; clear HL465_7; clear HB; have HO_6 := n0_; have HL454_5 := n1_; have HL454_6 := n2_; have HL454_7 := n3_; have HO458 := n4_; have HO464 := n5_; have HL465_5 := n6_; have HL465_6 := n7_; have HL465_7 := n8_; have HB := n9_; clear n0_ n1_ n2_ n3_ n4_ n5_ n6_ n7_ n8_ n9_; clear hg hw hp_; obtain ⟨Ao81, co81, eo81⟩ := Kd.N_slice HO458.out; subst eo81) | (go_at_call 14; refine calls_of_args (args' := #[.slice Ao81 t455.length co81, .slice (some ⟨go71, 0, none⟩) y466.length co71]) (by first | (rw [show y466.length = y462.length from (Kd.N_reads' HO464.out).1.symm] <;> rfl) | rfl) ?_; (with_reducible refine (glacisref06_Same.calls kj16 _ _ t455 _ _ y466 true _ ?side1 ?side2 ?side3 ?side4 A72.out).mono ?_); (case side1 => exact cl_ (Kd.N_reads' HO458.out).2.2); (case side2 => exact (Kd.N_reads' HO458.out).2.1); (case side3 => exact cl_ (Kd.N_reads' HO464.out).2.2); (case side4 => rw [show y466.length = y462.length from (Kd.N_reads' HO464.out).1.symm]; exact (Kd.N_reads' HO464.out).2.1); rintro e w82 ⟨rfl, hb⟩; have n0_ := Aside0.mk (Kd.N_below (by (with_reducible repeat (first | apply Kd.N_alloc | apply Kd.N_drewN | apply Kd.N_drew)); exact HO_6.out) hb); have n1_ := Aside0.mk (Kd.V_below (by (with_reducible repeat (first | apply Kd.V_alloc | apply Kd.V_drewN | apply Kd.V_drew)); exact HL454_5.out) hb); have n2_ := Aside0.mk (Kd.V_below (by (with_reducible repeat (first | apply Kd.V_alloc | apply Kd.V_drewN | apply Kd.V_drew)); exact HL454_6.out) hb); have n3_ := Aside0.mk (Kd.V_below (by (with_reducible repeat (first | apply Kd.V_alloc | apply Kd.V_drewN | apply Kd.V_drew)); exact HL454_7.out) hb); have n4_ := Aside0.mk (Kd.N_below (by (with_reducible repeat (first | apply Kd.N_alloc | apply Kd.N_drewN | apply Kd.N_drew)); exact HO458.out) hb); have n5_ := Aside0.mk (Kd.N_below (by (with_reducible repeat (first | apply Kd.N_alloc | apply Kd.N_drewN | apply Kd.N_drew)); exact HO464.out) hb); have n6_ := Aside0.mk (Kd.V_below (by (with_reducible repeat (first | apply Kd.V_alloc | apply Kd.V_drewN | apply Kd.V_drew)); exact HL465_5.out) hb); have n7_ := Aside0.mk (Kd.V_below (by (with_reducible repeat (first | apply Kd.V_alloc | apply Kd.V_drewN | apply Kd.V_drew)); exact HL465_6.out) hb); have n8_ := Aside0.mk (Kd.V_below (by (with_reducible repeat (first | apply Kd.V_alloc | apply Kd.V_drewN | apply Kd.V_drew)); exact HL465_7.out) hb); have n9_ := Aside0.mk (below_step (bl_ HB.out) hb); clear HO_6; clear HL454_5; clear HL454_6; clear HL454_7; clear HO458; clear HO464; clear HL465_5; clear HL465_6; clear HL465_7; clear HB; have HO_6 := n0_; have HL454_5 := n1_; have HL454_6 := n2_; have HL454_7 := n3_; have HO458 := n4_; have HO464 := n5_; have HL465_5 := n6_; have HL465_6 := n7_; have HL465_7 := n8_; have HB := n9_; clear n0_ n1_ n2_ n3_ n4_ n5_ n6_ n7_ n8_ n9_; (try clear hb); (try clear hb2); (try clear hk); (try clear hi)))
                   repeat (go_quiet (first | (go_at_call 12; (with_reducible refine (sfield_Dict.calls kj16 (((a0 ++ (⟨#[44]⟩ : ByteArray)) ++ ((rd_T34 t434 (ji63)).f0)) ++ (⟨#[61, 55, 55]⟩ : ByteArray)) t455 t456 _ A68.out).mono ?_); rintro e w75 ⟨v457, rfl, ho0, hb⟩; have n0_ := Aside0.mk (Kd.N_elder' (by (with_reducible repeat (first | apply Kd.N_alloc | apply Kd.N_drewN | apply Kd.N_drew)); exact HO_6.out) (Kd.N_base (Kd.R_N ho0)) hb); have n1_ := Aside0.mk (Kd.V_elder' (by (with_reducible repeat (first | apply Kd.V_alloc | apply Kd.V_drewN | apply Kd.V_drew)); exact HL454_5.out) (Kd.N_base (Kd.R_N ho0)) hb); have n2_ := Aside0.mk (Kd.V_elder' (by (with_reducible repeat (first | apply Kd.V_alloc | apply Kd.V_drewN | apply Kd.V_drew)); exact HL454_6.out) (Kd.N_base (Kd.R_N ho0)) hb); have n3_ := Aside0.mk (Kd.V_elder' (by (with_reducible repeat (first | apply Kd.V_alloc | apply Kd.V_drewN | apply Kd.V_drew)); exact HL454_7.out) (Kd.N_base (Kd.R_N ho0)) hb); have n4_ := Aside0.mk (Kd.N_lower (Kd.N_mono (ok' := fun k_ => some k_ ≠ (.slice (some ad454) t434.length co18 : Value).ownBlock) (Kd.R_N (Kd.R_bound ho0)) (fun k_ hk_ => (Kd.fresh' (Kd.N_lt (by (with_reducible repeat (first | apply Kd.N_alloc | apply Kd.N_drewN | apply Kd.N_drew)); exact HO_6.out)) k_ hk_.2.1))) (below_size (bl_ HB.out))); have n5_ := Aside0.mk (Kd.C_below (by repeat (first | (with_reducible exact HR454_5.out) | (with_reducible refine Kd.C_alloc ?_ _) | (with_reducible refine Kd.C_drewN ?_ _) | (with_reducible refine Kd.C_drew ?_) | exact HR454_5.out)) hb); have n6_ := Aside0.mk (Kd.C_below (by repeat (first | (with_reducible exact HR454_6.out) | (with_reducible refine Kd.C_alloc ?_ _) | (with_reducible refine Kd.C_drewN ?_ _) | (with_reducible refine Kd.C_drew ?_) | exact HR454_6.out)) hb); have n7_ := Aside0.mk (Kd.C_below (by repeat (first | (with_reducible exact HR454_7.out) | (with_reducible refine Kd.C_alloc ?_ _) | (with_reducible refine Kd.C_drewN ?_ _) | (with_reducible refine Kd.C_drew ?_) | exact HR454_7.out)) hb); have n8_ := Aside0.mk (below_step (bl_ HB.out) hb); clear HO_6; clear HL454_5; clear HL454_6; clear HL454_7; clear HR454_5; clear HR454_6; clear HR454_7; clear HB; have HO_6 := n0_; have HL454_5 := n1_; have HL454_6 := n2_; have HL454_7 := n3_; have HO458 := n4_; have HR454_5 := n5_; have HR454_6 := n6_; have HR454_7 := n7_; have HB := n8_; clear n0_ n1_ n2_ n3_ n4_ n5_ n6_ n7_ n8_; (try clear hb); (try clear hb2); (try clear hk); (try clear hi); (try clear ho0)) | ((with_reducible refine gate_dst (N := 81) rfl ?_); (try (refine gate_guard (by rfl) ?_; dsimp only)); refine Kd.N_lit k34 _ 34 ?hg (N' := 81) ?hd (xs := ([] : List (S34))) (inner := []) (ok := (fun k_ => some k_ ≠ (.slice (some ad454) t434.length co18 : Value).ownBlock ∧ some k_ ≠ (v457 : Value).ownBlock)) (okp := (fun k_ => some k_ ≠ (.slice (some ad454) t434.length co18 : Value).ownBlock ∧ some k_ ≠ (v457 : Value).ownBlock)) ?hr ?hp (fun _ hk => hk) ((show ∀ k_, w75.heap.size ≤ k_ → (fun k_ => some k_ ≠ (.slice (some ad454) t434.length co18 : Value).ownBlock ∧ some k_ ≠ (v457 : Value).ownBlock) k_ from fun k_ hk => ⟨Kd.fresh' (Kd.N_lt (by (with_reducible repeat (first | apply Kd.N_alloc | apply Kd.N_drewN | apply Kd.N_drew)); exact HO_6.out)) k_ hk, Kd.fresh' (Kd.N_lt (by (with_reducible repeat (first | apply Kd.N_alloc | apply Kd.N_drewN | apply Kd.N_drew)); exact HO458.out)) k_ hk⟩) _ (Nat.le_refl _)) (Below.refl _ _) (Nat.le_refl _) (by simp) ?_; (case hd => rfl); (case hg => rfl); (case hr => first | (go_simp; done) | (go_simp; rfl)); (case hp => exact (Reps.none _ _)); intro v460 w76 ho77 hb hg_ hnew_; clear hg_ hnew_; (first | rw [← Ny459.out] at ho77 | (simp only [Int.reduceToNat] at ho77; rw [← Ny459.out] at ho77)); have n0_ := Aside0.mk (Kd.N_elder' (by (with_reducible repeat (first | apply Kd.N_alloc | apply Kd.N_drewN | apply Kd.N_drew)); exact HO_6.out) (Kd.N_base ho77) hb); have n1_ := Aside0.mk (Kd.V_elder' (by (with_reducible repeat (first | apply Kd.V_alloc | apply Kd.V_drewN | apply Kd.V_drew)); exact HL454_5.out) (Kd.N_base ho77) hb); have n2_ := Aside0.mk (Kd.V_elder' (by (with_reducible repeat (first | apply Kd.V_alloc | apply Kd.V_drewN | apply Kd.V_drew)); exact HL454_6.out) (Kd.N_base ho77) hb); have n3_ := Aside0.mk (Kd.V_elder' (by (with_reducible repeat (first | apply Kd.V_alloc | apply Kd.V_drewN | apply Kd.V_drew)); exact HL454_7.out) (Kd.N_base ho77) hb); have n4_ := Aside0.mk (Kd.N_elder' (by (with_reducible repeat (first | apply Kd.N_alloc | apply Kd.N_drewN | apply Kd.N_drew)); exact HO458.out) (Kd.N_base ho77) hb); have n5_ := Aside0.mk (Kd.N_lower ho77 (below_size (bl_ HB.out))); have n6_ := Aside0.mk (Kd.C_below (by repeat (first | (with_reducible exact HR454_5.out) | (with_reducible refine Kd.C_alloc ?_ _) | (with_reducible refine Kd.C_drewN ?_ _) | (with_reducible refine Kd.C_drew ?_) | exact HR454_5.out)) hb); have n7_ := Aside0.mk (Kd.C_below (by repeat (first | (with_reducible exact HR454_6.out) | (with_reducible refine Kd.C_alloc ?_ _) | (with_reducible refine Kd.C_drewN ?_ _) | (with_reducible refine Kd.C_drew ?_) | exact HR454_6.out)) hb); have n8_ := Aside0.mk (Kd.C_below (by repeat (first | (with_reducible exact HR454_7.out) | (with_reducible refine Kd.C_alloc ?_ _) | (with_reducible refine Kd.C_drewN ?_ _) | (with_reducible refine Kd.C_drew ?_) | exact HR454_7.out)) hb); have n9_ := Aside0.mk (below_step (bl_ HB.out) hb); clear HO_6; clear HL454_5; clear HL454_6; clear HL454_7; clear HO458; clear HR454_5; clear HR454_6; clear HR454_7; clear HB; have HO_6 := n0_; have HL454_5 := n1_; have HL454_6 := n2_; have HL454_7 := n3_; have HO458 := n4_; have HO461 := n5_; have HR454_5 := n6_; have HR454_6 := n7_; have HR454_7 := n8_; have HB := n9_; clear n0_ n1_ n2_ n3_ n4_ n5_ n6_ n7_ n8_ n9_; clear hb ho77) | ((with_reducible refine gate_builtin (b := .append) (xs := #[.tmp 81, .tmp 82]) rfl ?_); (try (refine gate_guard (by rfl) ?_; dsimp only)); at_builtin; refine Kd.N_append_rows k34 (w0 := w) w.heap.size rfl (.tmp 81) (.tmp 82) 23 34 (.agg #[(.string ⟨#[]⟩), (.bool false), (.int .i64 0), (.int .i64 0), (.string ⟨#[]⟩), (.slice none 0 0), (.slice none 0 0), (.slice none 0 0)]) 128 rfl Tryz.underlying23 info34 rfl (by decide) (by omega) v460 y459 t434 _ _ _ (fun k_ => some k_ ≠ (v457 : Value).ownBlock) (fun k_ => ((fun k_ => some k_ ≠ (v457 : Value).ownBlock)) k_ ∧ some k_ ≠ (v460 : Value).ownBlock) rfl rfl ?aO ?aR (fun _ hk => hk) ?aF ?aB ?aS ?aL ?_; (case aR => exact (by skip; exact Kd.N_F (Kd.N_mono (ok' := (fun k_ => ((fun k_ => some k_ ≠ (v457 : Value).ownBlock)) k_ ∧ some k_ ≠ (v460 : Value).ownBlock)) (HO_6.out) (fun k_ hk => ⟨hk.1.2, hk.2⟩)))); (case aB => exact (bl_ HB.out)); (case aF => exact (fun k_ hk => Kd.fresh' (Kd.N_lt (by (with_reducible repeat (first | apply Kd.N_alloc | apply Kd.N_drewN | apply Kd.N_drew)); exact HO458.out)) k_ hk)); (case aO => exact (by (with_reducible repeat (first | apply Kd.N_alloc | apply Kd.N_drewN | apply Kd.N_drew)); exact Kd.N_mono HO461.out (fun _ hk => hk.2))); (case aS => exact (below_size (bl_ HB.out))); (case aL => have := LMc69.out; omega); intro v463 w78 ho hb hg hat; rw [← Ny462.out] at ho; have n0_ := Aside0.mk (Kd.N_afterv (ok := (fun k_ => some k_ ≠ (v457 : Value).ownBlock)) (by (with_reducible repeat (first | apply Kd.N_alloc | apply Kd.N_drewN | apply Kd.N_drew)); exact Kd.N_mono HO_6.out (fun _ hk => ⟨hk.1.2, hk.2⟩)) hg hat); have n1_ := Aside0.mk (Kd.V_afterv (ok := (fun k_ => some k_ ≠ (.slice (some ad454) t434.length co18 : Value).ownBlock ∧ some k_ ≠ (v457 : Value).ownBlock)) (by (with_reducible repeat (first | apply Kd.V_alloc | apply Kd.V_drewN | apply Kd.V_drew)); exact Kd.V_mono HL454_5.out (fun _ hk => ⟨⟨hk.1.1.2, hk.1.2⟩, hk.2⟩)) hg hat); have n2_ := Aside0.mk (Kd.V_afterv (ok := (fun k_ => some k_ ≠ (.slice (some ad454) t434.length co18 : Value).ownBlock ∧ some k_ ≠ (v457 : Value).ownBlock)) (by (with_reducible repeat (first | apply Kd.V_alloc | apply Kd.V_drewN | apply Kd.V_drew)); exact Kd.V_mono HL454_6.out (fun _ hk => ⟨⟨hk.1.1.2, hk.1.2⟩, hk.2⟩)) hg hat); have n3_ := Aside0.mk (Kd.V_afterv (ok := (fun k_ => some k_ ≠ (.slice (some ad454) t434.length co18 : Value).ownBlock ∧ some k_ ≠ (v457 : Value).ownBlock)) (by (with_reducible repeat (first | apply Kd.V_alloc | apply Kd.V_drewN | apply Kd.V_drew)); exact Kd.V_mono HL454_7.out (fun _ hk => ⟨⟨hk.1.1.2, hk.1.2⟩, hk.2⟩)) hg hat); have n4_ := Aside0.mk (Kd.N_afterv (ok := (fun k_ => some k_ ≠ (.slice (some ad454) t434.length co18 : Value).ownBlock)) (by (with_reducible repeat (first | apply Kd.N_alloc | apply Kd.N_drewN | apply Kd.N_drew)); exact HO458.out) hg hat); have n5_ := Aside0.mk (hb); have n6_ := Aside0.mk (ho); clear HO_6; clear HL454_5; clear HL454_6; clear HL454_7; clear HO458; clear HB; clear HO461; have HO_6 := n0_; have HL454_5 := n1_; have HL454_6 := n2_; have HL454_7 := n3_; have HO458 := n4_; have HB := n5_; have HO464 := n6_; clear n0_ n1_ n2_ n3_ n4_ n5_ n6_; clear ho hb hg hat; have p465 : 0 ≤ ((ji63) : Int) := of_decide_eq_true (by assumption); have q465 : (ji63) < (t434.length : Int) := of_decide_eq_true (by assumption); obtain ⟨ad465, A465_5, c465_5, A465_6, c465_6, A465_7, c465_7, e465, hx465_0, hx465_1, hx465_2, hx465_3, hx465_4, hx465_5, hx465_6, hx465_7, hl465_5, hi465_5, hl465_6, hi465_6, hl465_7, hi465_7⟩ := at_T34 (Kd.N_reads' HO_6.out).2.2 (ji63) p465 q465; obtain rfl : ad454 = ad465 := (by injection e465); obtain ⟨ce465, hce465, hMe465, hcc465⟩ := Kd.N_get HO_6.out z34 (ji63) p465 (by first | exact q465 | exact of_decide_eq_true (by assumption) | (have e_ := (Kd.N_reads' HO_6.out).1; omega)); obtain ⟨ua465_5, uc465_5, ua465_6, uc465_6, ua465_7, uc465_7, rfl, ul465_5, ge465_5, ul465_6, ge465_6, ul465_7, ge465_7⟩ := k34_openF hMe465; have hv465_5 := hcc465 5 _ rfl; rw [add_field _ _ 5 (by omega)] at hv465_5; replace hv465_5 := Option.some.inj (hv465_5.symm.trans hx465_5); injection hv465_5 with hva_ hvn_ hvc_; rw [hva_] at ge465_5; rw [hvc_] at ul465_5; have HL465_5 := Aside0.mk (show Kd.V k60 60 _ w.heap.size _ _ ((rd_T34 t434 (ji63)).f2.f3) from Kd.V_mk ul465_5 ge465_5); clear hva_ hvn_ hvc_ ge465_5 ul465_5; have hv465_6 := hcc465 6 _ rfl; rw [add_field _ _ 6 (by omega)] at hv465_6; replace hv465_6 := Option.some.inj (hv465_6.symm.trans hx465_6); injection hv465_6 with hva_ hvn_ hvc_; rw [hva_] at ge465_6; rw [hvc_] at ul465_6; have HL465_6 := Aside0.mk (show Kd.V k31 31 _ w.heap.size _ _ ((rd_T34 t434 (ji63)).f3) from Kd.V_mk ul465_6 ge465_6); clear hva_ hvn_ hvc_ ge465_6 ul465_6; have hv465_7 := hcc465 7 _ rfl; rw [add_field _ _ 7 (by omega)] at hv465_7; replace hv465_7 := Option.some.inj (hv465_7.symm.trans hx465_7); injection hv465_7 with hva_ hvn_ hvc_; rw [hva_] at ge465_7; rw [hvc_] at ul465_7; have HL465_7 := Aside0.mk (show Kd.V k60 60 _ w.heap.size _ _ ((rd_T34 t434 (ji63)).f4) from Kd.V_mk ul465_7 ge465_7); clear hva_ hvn_ hvc_ ge465_7 ul465_7; clear hcc465 hce465; have HR465_5 := Aside0.mk hi465_5; have HC465_5 := Aside0.mk hl465_5; clear hi465_5 hl465_5; have HR465_6 := Aside0.mk hi465_6; have HC465_6 := Aside0.mk hl465_6; clear hi465_6 hl465_6; have HR465_7 := Aside0.mk hi465_7; have HC465_7 := Aside0.mk hl465_7; clear hi465_7 hl465_7; replace p465 := eq_true p465; replace q465 := eq_true q465; have p71 : 0 ≤ ((ji63) : Int) := of_decide_eq_true (by assumption); have q71 : ((ji63) : Int) < ((y462.length : Int) : Int) := of_decide_eq_true (by assumption); obtain ⟨go71, co71, eo71, gb71, gl71, cl71, HG71⟩ := Kd.N_form HO464.out (by omega); (first | cases eo71 | (injection eo71 with ea_ en_ ec_; (first | subst ea_ | (injection ea_ with ea_; subst ea_)); subst ec_; clear en_)); have GB71 := Aside0.mk gb71; have GG71 := Aside0.mk HG71; clear gb71 gl71 HG71; obtain ⟨ce71, hcl71, hM71, hcc71, hfr71⟩ := Kd.N_elem HO464.out z34 ((ji63) : Int) p71 q71; obtain ⟨ua71_5, uc71_5, ua71_6, uc71_6, ua71_7, uc71_7, rfl, ul71_5, ge71_5, ul71_6, ge71_6, ul71_7, ge71_7⟩ := k34_openF hM71; have hx71_0 : w78.cell? ⟨go71, ((ji63) : Int).toNat * 8, none⟩ = some (.string ((rd_T34 y462 (ji63)).f0)) := hcc71 0 _ rfl; have hx71_1 : w78.cell? ⟨go71, ((ji63) : Int).toNat * 8 + 1, none⟩ = some (.bool ((rd_T34 y462 (ji63)).f1)) := hcc71 1 _ rfl; have hx71_2 : w78.cell? ⟨go71, ((ji63) : Int).toNat * 8 + 2, none⟩ = some (.int .i64 ((rd_T34 y462 (ji63)).f2.f0)) := hcc71 2 _ rfl; have hx71_3 : w78.cell? ⟨go71, ((ji63) : Int).toNat * 8 + 3, none⟩ = some (.int .i64 ((rd_T34 y462 (ji63)).f2.f1)) := hcc71 3 _ rfl; have hx71_4 : w78.cell? ⟨go71, ((ji63) : Int).toNat * 8 + 4, none⟩ = some (.string ((rd_T34 y462 (ji63)).f2.f2)) := hcc71 4 _ rfl; have hx71_5 : w78.cell? ⟨go71, ((ji63) : Int).toNat * 8 + 5, none⟩ = some (.slice ua71_5 ((rd_T34 y462 (ji63)).f2.f3).length uc71_5) := hcc71 5 _ rfl; have hx71_6 : w78.cell? ⟨go71, ((ji63) : Int).toNat * 8 + 6, none⟩ = some (.slice ua71_6 ((rd_T34 y462 (ji63)).f3).length uc71_6) := hcc71 6 _ rfl; have hx71_7 : w78.cell? ⟨go71, ((ji63) : Int).toNat * 8 + 7, none⟩ = some (.slice ua71_7 ((rd_T34 y462 (ji63)).f4).length uc71_7) := hcc71 7 _ rfl; have hf71_0 : w78.frozen? ⟨go71, ((ji63) : Int).toNat * 8, none⟩ = false := hfr71 0; have hf71_1 : w78.frozen? ⟨go71, ((ji63) : Int).toNat * 8 + 1, none⟩ = false := hfr71 1; have hf71_2 : w78.frozen? ⟨go71, ((ji63) : Int).toNat * 8 + 2, none⟩ = false := hfr71 2; have hf71_3 : w78.frozen? ⟨go71, ((ji63) : Int).toNat * 8 + 3, none⟩ = false := hfr71 3; have hf71_4 : w78.frozen? ⟨go71, ((ji63) : Int).toNat * 8 + 4, none⟩ = false := hfr71 4; have hf71_5 : w78.frozen? ⟨go71, ((ji63) : Int).toNat * 8 + 5, none⟩ = false := hfr71 5; have hf71_6 : w78.frozen? ⟨go71, ((ji63) : Int).toNat * 8 + 6, none⟩ = false := hfr71 6; have hf71_7 : w78.frozen? ⟨go71, ((ji63) : Int).toNat * 8 + 7, none⟩ = false := hfr71 7; clear hcl71 hcc71 hfr71 hM71; replace p71 := eq_true p71; replace q71 := eq_true q71; have HX79 := Aside0.mk (show Kd.N k34 34 w78 w.heap.size (fun k_ => some k_ ≠ (v457 : Value).ownBlock) (.slice (some ⟨go71, 0, none⟩) y462.length co71) y462 from (by (with_reducible repeat (first | apply Kd.N_alloc | apply Kd.N_drewN | apply Kd.N_drew)); exact HO464.out)); obtain ⟨ce79, hcl79, hM79, hcc79, hfr79⟩ := Kd.N_elem HX79.out z34 ((ji63) : Int) (of_decide_eq_true (by assumption)) (by have h_ : ((ji63) : Int) < ((y462.length : Int) : Int) := of_decide_eq_true (by assumption); first | exact h_ | (have e_ := (Kd.N_reads' HO464.out).1; omega) | simpa using h_); obtain ⟨ua79_5, uc79_5, ua79_6, uc79_6, ua79_7, uc79_7, rfl, ul79_5, ge79_5, ul79_6, ge79_6, ul79_7, ge79_7⟩ := k34_openF hM79; have HP79 := Kd.N_seg HX79.out ((ji63) : Int) (of_decide_eq_true (by assumption)) (by have h_ : ((ji63) : Int) < ((y462.length : Int) : Int) := of_decide_eq_true (by assumption); first | exact h_ | (have e_ := (Kd.N_reads' HO464.out).1; omega) | simpa using h_) (seg := [.string ((rd_T34 t434 (ji63)).f0), .bool false, .int .i64 1, .int .i64 77, .string ⟨#[]⟩, .slice none 0 0, .slice none 0 0, .slice none 0 0]) (j := 0) hcl79 hcc79 (show 8 ≤ 8 from by decide) (x' := (⟨(rd_T34 t434 (ji63)).f0, false, (⟨1, 77, (⟨#[]⟩ : ByteArray), ([] : List (S60))⟩ : S31), ([] : List (S31)), ([] : List (S60))⟩ : S34)) (k34_mkF _ _ (⟨(rd_T34 t434 (ji63)).f0, false, (⟨1, 77, (⟨#[]⟩ : ByteArray), ([] : List (S60))⟩ : S31), ([] : List (S31)), ([] : List (S60))⟩ : S34) (Nat.le_refl _) (Kd.F_nil _ _ _) (Nat.le_refl _) (Kd.F_nil _ _ _) (Nat.le_refl _) (Kd.F_nil _ _ _)) (fun _ hk => hk); have hx79_0 := hcc79 0 _ rfl; (try simp only [show (k34).sz = 8 from rfl, Nat.mul_one, Nat.add_zero] at hx79_0); have hf79_0 := hfr79 0; (try simp only [show (k34).sz = 8 from rfl, Nat.mul_one, Nat.add_zero] at hf79_0); have hx79_1 := hcc79 1 _ rfl; (try simp only [show (k34).sz = 8 from rfl, Nat.mul_one, Nat.add_zero] at hx79_1); have hf79_1 := hfr79 1; (try simp only [show (k34).sz = 8 from rfl, Nat.mul_one, Nat.add_zero] at hf79_1); have hx79_2 := hcc79 2 _ rfl; (try simp only [show (k34).sz = 8 from rfl, Nat.mul_one, Nat.add_zero] at hx79_2); have hf79_2 := hfr79 2; (try simp only [show (k34).sz = 8 from rfl, Nat.mul_one, Nat.add_zero] at hf79_2); have hx79_3 := hcc79 3 _ rfl; (try simp only [show (k34).sz = 8 from rfl, Nat.mul_one, Nat.add_zero] at hx79_3); have hf79_3 := hfr79 3; (try simp only [show (k34).sz = 8 from rfl, Nat.mul_one, Nat.add_zero] at hf79_3); have hx79_4 := hcc79 4 _ rfl; (try simp only [show (k34).sz = 8 from rfl, Nat.mul_one, Nat.add_zero] at hx79_4); have hf79_4 := hfr79 4; (try simp only [show (k34).sz = 8 from rfl, Nat.mul_one, Nat.add_zero] at hf79_4); have hx79_5 := hcc79 5 _ rfl; (try simp only [show (k34).sz = 8 from rfl, Nat.mul_one, Nat.add_zero] at hx79_5); have hf79_5 := hfr79 5; (try simp only [show (k34).sz = 8 from rfl, Nat.mul_one, Nat.add_zero] at hf79_5); have hx79_6 := hcc79 6 _ rfl; (try simp only [show (k34).sz = 8 from rfl, Nat.mul_one, Nat.add_zero] at hx79_6); have hf79_6 := hfr79 6; (try simp only [show (k34).sz = 8 from rfl, Nat.mul_one, Nat.add_zero] at hf79_6); have hx79_7 := hcc79 7 _ rfl; (try simp only [show (k34).sz = 8 from rfl, Nat.mul_one, Nat.add_zero] at hx79_7); have hf79_7 := hfr79 7; (try simp only [show (k34).sz = 8 from rfl, Nat.mul_one, Nat.add_zero] at hf79_7); clear hcl79 hcc79 hfr79 hM79) | ((with_reducible refine gate_store (t := 34) (p := 93) rfl ?_); (try (rw [drewN_self w78]; generalize hq_ : World.drewN w78 _ = w78; have n0_ := Aside0.mk (Kd.N_at hq_ HO_6.out); have n1_ := Aside0.mk (Kd.V_at hq_ HL454_5.out); have n2_ := Aside0.mk (Kd.V_at hq_ HL454_6.out); have n3_ := Aside0.mk (Kd.V_at hq_ HL454_7.out); have n4_ := Aside0.mk (Kd.N_at hq_ HO458.out); have n5_ := Aside0.mk (Kd.N_at hq_ HO464.out); have n6_ := Aside0.mk (Kd.V_at hq_ HL465_5.out); have n7_ := Aside0.mk (Kd.V_at hq_ HL465_6.out); have n8_ := Aside0.mk (Kd.V_at hq_ HL465_7.out); have n9_ := Aside0.mk (below_at hq_ HB.out); clear hq_ HO_6 HL454_5 HL454_6 HL454_7 HO458 HO464 HL465_5 HL465_6 HL465_7 HB; have HO_6 := n0_; have HL454_5 := n1_; have HL454_6 := n2_; have HL454_7 := n3_; have HO458 := n4_; have HO464 := n5_; have HL465_5 := n6_; have HL465_6 := n7_; have HL465_7 := n8_; have HB := n9_; clear n0_ n1_ n2_ n3_ n4_ n5_ n6_ n7_ n8_ n9_; (try (have HX79 := Aside0.mk (show Kd.N k34 34 w78 w.heap.size (fun k_ => some k_ ≠ (v457 : Value).ownBlock) (.slice (some ⟨go71, 0, none⟩) y462.length co71) y462 from (by (with_reducible repeat (first | apply Kd.N_alloc | apply Kd.N_drewN | apply Kd.N_drew)); exact HO464.out)))); (try (obtain ⟨ce79, hcl79, hM79, hcc79, hfr79⟩ := Kd.N_elem HX79.out z34 ((ji63) : Int) (of_decide_eq_true (by assumption)) (by have h_ : ((ji63) : Int) < ((y462.length : Int) : Int) := of_decide_eq_true (by assumption); first | exact h_ | (have e_ := (Kd.N_reads' HO464.out).1; omega) | simpa using h_))); (try (obtain ⟨ua79_5, uc79_5, ua79_6, uc79_6, ua79_7, uc79_7, rfl, ul79_5, ge79_5, ul79_6, ge79_6, ul79_7, ge79_7⟩ := k34_openF hM79)); (try (have HP79 := Kd.N_seg HX79.out ((ji63) : Int) (of_decide_eq_true (by assumption)) (by have h_ : ((ji63) : Int) < ((y462.length : Int) : Int) := of_decide_eq_true (by assumption); first | exact h_ | (have e_ := (Kd.N_reads' HO464.out).1; omega) | simpa using h_) (seg := [.string ((rd_T34 t434 (ji63)).f0), .bool false, .int .i64 1, .int .i64 77, .string ⟨#[]⟩, .slice none 0 0, .slice none 0 0, .slice none 0 0]) (j := 0) hcl79 hcc79 (show 8 ≤ 8 from by decide) (x' := (⟨(rd_T34 t434 (ji63)).f0, false, (⟨1, 77, (⟨#[]⟩ : ByteArray), ([] : List (S60))⟩ : S31), ([] : List (S31)), ([] : List (S60))⟩ : S34)) (k34_mkF _ _ (⟨(rd_T34 t434 (ji63)).f0, false, (⟨1, 77, (⟨#[]⟩ : ByteArray), ([] : List (S60))⟩ : S31), ([] : List (S31)), ([] : List (S60))⟩ : S34) (Nat.le_refl _) (Kd.F_nil _ _ _) (Nat.le_refl _) (Kd.F_nil _ _ _) (Nat.le_refl _) (Kd.F_nil _ _ _)) (fun _ hk => hk))); (try (have hx79_0 := hcc79 0 _ rfl)); (try (try simp only [show (k34).sz = 8 from rfl, Nat.mul_one, Nat.add_zero] at hx79_0)); (try (have hf79_0 := hfr79 0)); (try (try simp only [show (k34).sz = 8 from rfl, Nat.mul_one, Nat.add_zero] at hf79_0)); (try (have hx79_1 := hcc79 1 _ rfl)); (try (try simp only [show (k34).sz = 8 from rfl, Nat.mul_one, Nat.add_zero] at hx79_1)); (try (have hf79_1 := hfr79 1)); (try (try simp only [show (k34).sz = 8 from rfl, Nat.mul_one, Nat.add_zero] at hf79_1)); (try (have hx79_2 := hcc79 2 _ rfl)); (try (try simp only [show (k34).sz = 8 from rfl, Nat.mul_one, Nat.add_zero] at hx79_2)); (try (have hf79_2 := hfr79 2)); (try (try simp only [show (k34).sz = 8 from rfl, Nat.mul_one, Nat.add_zero] at hf79_2)); (try (have hx79_3 := hcc79 3 _ rfl)); (try (try simp only [show (k34).sz = 8 from rfl, Nat.mul_one, Nat.add_zero] at hx79_3)); (try (have hf79_3 := hfr79 3)); (try (try simp only [show (k34).sz = 8 from rfl, Nat.mul_one, Nat.add_zero] at hf79_3)); (try (have hx79_4 := hcc79 4 _ rfl)); (try (try simp only [show (k34).sz = 8 from rfl, Nat.mul_one, Nat.add_zero] at hx79_4)); (try (have hf79_4 := hfr79 4)); (try (try simp only [show (k34).sz = 8 from rfl, Nat.mul_one, Nat.add_zero] at hf79_4)); (try (have hx79_5 := hcc79 5 _ rfl)); (try (try simp only [show (k34).sz = 8 from rfl, Nat.mul_one, Nat.add_zero] at hx79_5)); (try (have hf79_5 := hfr79 5)); (try (try simp only [show (k34).sz = 8 from rfl, Nat.mul_one, Nat.add_zero] at hf79_5)); (try (have hx79_6 := hcc79 6 _ rfl)); (try (try simp only [show (k34).sz = 8 from rfl, Nat.mul_one, Nat.add_zero] at hx79_6)); (try (have hf79_6 := hfr79 6)); (try (try simp only [show (k34).sz = 8 from rfl, Nat.mul_one, Nat.add_zero] at hf79_6)); (try (have hx79_7 := hcc79 7 _ rfl)); (try (try simp only [show (k34).sz = 8 from rfl, Nat.mul_one, Nat.add_zero] at hx79_7)); (try (have hf79_7 := hfr79 7)); (try (try simp only [show (k34).sz = 8 from rfl, Nat.mul_one, Nat.add_zero] at hf79_7)); (try (clear hcl79 hcc79 hfr79 hM79)))); refine store_event (t := 34) (p := 93) (v := ?vo_w80) (w1 := ((((((((w78.setCell ⟨go71, ((ji63) : Int).toNat * 8, none⟩ (.string ((rd_T34 t434 (ji63)).f0))).setCell ⟨go71, ((ji63) : Int).toNat * 8 + 1, none⟩ (.bool false)).setCell ⟨go71, ((ji63) : Int).toNat * 8 + 2, none⟩ (.int .i64 1)).setCell ⟨go71, ((ji63) : Int).toNat * 8 + 3, none⟩ (.int .i64 77)).setCell ⟨go71, ((ji63) : Int).toNat * 8 + 4, none⟩ (.string ⟨#[]⟩)).setCell ⟨go71, ((ji63) : Int).toNat * 8 + 5, none⟩ (.slice none 0 0)).setCell ⟨go71, ((ji63) : Int).toNat * 8 + 6, none⟩ (.slice none 0 0)).setCell ⟨go71, ((ji63) : Int).toNat * 8 + 7, none⟩ (.slice none 0 0))) ?hg ?ho ?hn ?hr ?_; (case ho => rfl); (case hg => rfl); (case hn => rfl); (case hr => first | (go_simp; done) | (go_simp; rfl)); intro w80 hw; have hg : w78.grownBy w80 (some go71) := (by rw [hw]; exact HP79.2); have hp_ : Kd.N k34 34 w80 w.heap.size (fun k_ => some k_ ≠ (v457 : Value).ownBlock) (.slice (some ⟨go71, 0, none⟩) y462.length co71) y466 := (by rw [hw, Ny466.out]; exact HP79.1); clear HP79; have n0_ := Aside0.mk (Kd.N_afterv (v := (.slice (some ⟨go71, 0, none⟩) y462.length co71)) (v1 := (.slice (some ⟨go71, 0, none⟩) y462.length co71)) (ok := (fun k_ => some k_ ≠ (v457 : Value).ownBlock)) (by (with_reducible repeat (first | apply Kd.N_alloc | apply Kd.N_drewN | apply Kd.N_drew)); exact HO_6.out) hg (.inl rfl)); have n1_ := Aside0.mk (Kd.V_afterv (v := (.slice (some ⟨go71, 0, none⟩) y462.length co71)) (v1 := (.slice (some ⟨go71, 0, none⟩) y462.length co71)) (ok := (fun k_ => some k_ ≠ (.slice (some ad454) t434.length co18 : Value).ownBlock ∧ some k_ ≠ (v457 : Value).ownBlock)) (by (with_reducible repeat (first | apply Kd.V_alloc | apply Kd.V_drewN | apply Kd.V_drew)); exact HL454_5.out) hg (.inl rfl)); have n2_ := Aside0.mk (Kd.V_afterv (v := (.slice (some ⟨go71, 0, none⟩) y462.length co71)) (v1 := (.slice (some ⟨go71, 0, none⟩) y462.length co71)) (ok := (fun k_ => some k_ ≠ (.slice (some ad454) t434.length co18 : Value).ownBlock ∧ some k_ ≠ (v457 : Value).ownBlock)) (by (with_reducible repeat (first | apply Kd.V_alloc | apply Kd.V_drewN | apply Kd.V_drew)); exact HL454_6.out) hg (.inl rfl)); have n3_ := Aside0.mk (Kd.V_afterv (v := (.slice (some ⟨go71, 0, none⟩) y462.length co71)) (v1 := (.slice (some ⟨go71, 0, none⟩) y462.length co71)) (ok := (fun k_ => some k_ ≠ (.slice (some ad454) t434.length co18 : Value).ownBlock ∧ some k_ ≠ (v457 : Value).ownBlock)) (by (with_reducible repeat (first | apply Kd.V_alloc | apply Kd.V_drewN | apply Kd.V_drew)); exact HL454_7.out) hg (.inl rfl)); have n4_ := Aside0.mk (Kd.N_afterv (v := (.slice (some ⟨go71, 0, none⟩) y462.length co71)) (v1 := (.slice (some ⟨go71, 0, none⟩) y462.length co71)) (ok := (fun k_ => some k_ ≠ (.slice (some ad454) t434.length co18 : Value).ownBlock)) (by (with_reducible repeat (first | apply Kd.N_alloc | apply Kd.N_drewN | apply Kd.N_drew)); exact HO458.out) hg (.inl rfl)); have n5_ := Aside0.mk (hp_); have n6_ := Aside0.mk (Kd.V_afterv (v := (.slice (some ⟨go71, 0, none⟩) y462.length co71)) (v1 := (.slice (some ⟨go71, 0, none⟩) y462.length co71)) (ok := (fun k_ => some k_ ≠ (.slice (some ad454) t434.length co18 : Value).ownBlock ∧ some k_ ≠ (v457 : Value).ownBlock)) (by (with_reducible repeat (first | apply Kd.V_alloc | apply Kd.V_drewN | apply Kd.V_drew)); exact Kd.V_mono HL465_5.out (fun _ hk => ⟨⟨hk.2, hk.1.1⟩, hk.1.2⟩)) hg (.inl rfl)); have n7_ := Aside0.mk (Kd.V_afterv (v := (.slice (some ⟨go71, 0, none⟩) y462.length co71)) (v1 := (.slice (some ⟨go71, 0, none⟩) y462.length co71)) (ok := (fun k_ => some k_ ≠ (.slice (some ad454) t434.length co18 : Value).ownBlock ∧ some k_ ≠ (v457 : Value).ownBlock)) (by (with_reducible repeat (first | apply Kd.V_alloc | apply Kd.V_drewN | apply Kd.V_drew)); exact Kd.V_mono HL465_6.out (fun _ hk => ⟨⟨hk.2, hk.1.1⟩, hk.1.2⟩)) hg (.inl rfl)); have n8_ := Aside0.mk (Kd.V_afterv (v := (.slice (some ⟨go71, 0, none⟩) y462.length co71)) (v1 := (.slice (some ⟨go71, 0, none⟩) y462.length co71)) (ok := (fun k_ => some k_ ≠ (.slice (some ad454) t434.length co18 : Value).ownBlock ∧ some k_ ≠ (v457 : Value).ownBlock)) (by (with_reducible repeat (first | apply Kd.V_alloc | apply Kd.V_drewN | apply Kd.V_drew)); exact Kd.V_mono HL465_7.out (fun _ hk => ⟨⟨hk.2, hk.1.1⟩, hk.1.2⟩)) hg (.inl rfl)); have n9_ := Aside0.mk ((by rw [hw]; exact below_set (below_set (below_set (below_set (below_set (below_set (below_set (below_set (HB.out) GB71.out) GB71.out) GB71.out) GB71.out) GB71.out) GB71.out) GB71.out) GB71.out : Below w.heap.size w w80)); clear HO_6; clear HL454_5; clear HL454_6; clear HL454_7; clear HO458; clear HO464; clear HL465_5; clear HL465_6; clear HL465_7; clear HB; have HO_6 := n0_; have HL454_5 := n1_; have HL454_6 := n2_; have HL454_7 := n3_; have HO458 := n4_; have HO464 := n5_; have HL465_5 := n6_; have HL465_6 := n7_; have HL465_7 := n8_; have HB := n9_; clear n0_ n1_ n2_ n3_ n4_ n5_ n6_ n7_ n8_ n9_; clear hg hw hp_; obtain ⟨Ao81, co81, eo81⟩ := Kd.N_slice HO458.out; subst eo81) | (go_at_call 14; refine calls_of_args (args' := #[.slice Ao81 t455.length co81, .slice (some ⟨go71, 0, none⟩) y466.length co71]) (by first | (rw [show y466.length = y462.length from (Kd.N_reads' HO464.out).1.symm] <;> rfl) | rfl) ?_; (with_reducible refine (glacisref06_Same.calls kj16 _ _ t455 _ _ y466 true _ ?side1 ?side2 ?side3 ?side4 A72.out).mono ?_); (case side1 => exact cl_ (Kd.N_reads' HO458.out).2.2); (case side2 => exact (Kd.N_reads' HO458.out).2.1); (case side3 => exact cl_ (Kd.N_reads' HO464.out).2.2); (case side4 => rw [show y466.length = y462.length from (Kd.N_reads' HO464.out).1.symm]; exact (Kd.N_reads' HO464.out).2.1); rintro e w82 ⟨rfl, hb⟩; have n0_ := Aside0.mk (Kd.N_below (by (with_reducible repeat (first | apply Kd.N_alloc | apply Kd.N_drewN | apply Kd.N_drew)); exact HO_6.out) hb); have n1_ := Aside0.mk (Kd.V_below (by (with_reducible repeat (first | apply Kd.V_alloc | apply Kd.V_drewN | apply Kd.V_drew)); exact HL454_5.out) hb); have n2_ := Aside0.mk (Kd.V_below (by (with_reducible repeat (first | apply Kd.V_alloc | apply Kd.V_drewN | apply Kd.V_drew)); exact HL454_6.out) hb); have n3_ := Aside0.mk (Kd.V_below (by (with_reducible repeat (first | apply Kd.V_alloc | apply Kd.V_drewN | apply Kd.V_drew)); exact HL454_7.out) hb); have n4_ := Aside0.mk (Kd.N_below (by (with_reducible repeat (first | apply Kd.N_alloc | apply Kd.N_drewN | apply Kd.N_drew)); exact HO458.out) hb); have n5_ := Aside0.mk (Kd.N_below (by (with_reducible repeat (first | apply Kd.N_alloc | apply Kd.N_drewN | apply Kd.N_drew)); exact HO464.out) hb); have n6_ := Aside0.mk (Kd.V_below (by (with_reducible repeat (first | apply Kd.V_alloc | apply Kd.V_drewN | apply Kd.V_drew)); exact HL465_5.out) hb); have n7_ := Aside0.mk (Kd.V_below (by (with_reducible repeat (first | apply Kd.V_alloc | apply Kd.V_drewN | apply Kd.V_drew)); exact HL465_6.out) hb); have n8_ := Aside0.mk (Kd.V_below (by (with_reducible repeat (first | apply Kd.V_alloc | apply Kd.V_drewN | apply Kd.V_drew)); exact HL465_7.out) hb); have n9_ := Aside0.mk (below_step (bl_ HB.out) hb); clear HO_6; clear HL454_5; clear HL454_6; clear HL454_7; clear HO458; clear HO464; clear HL465_5; clear HL465_6; clear HL465_7; clear HB; have HO_6 := n0_; have HL454_5 := n1_; have HL454_6 := n2_; have HL454_7 := n3_; have HO458 := n4_; have HO464 := n5_; have HL465_5 := n6_; have HL465_6 := n7_; have HL465_7 := n8_; have HB := n9_; clear n0_ n1_ n2_ n3_ n4_ n5_ n6_ n7_ n8_ n9_; (try clear hb); (try clear hb2); (try clear hk); (try clear hi))); try go_wp2_with (first | (go_at_call 12; (with_reducible refine (sfield_Dict.calls kj16 (((a0 ++ (⟨#[44]⟩ : ByteArray)) ++ ((rd_T34 t434 (ji63)).f0)) ++ (⟨#[61, 55, 55]⟩ : ByteArray)) t455 t456 _ A68.out).mono ?_); rintro e w75 ⟨v457, rfl, ho0, hb⟩; have n0_ := Aside0.mk (Kd.N_elder' (by (with_reducible repeat (first | apply Kd.N_alloc | apply Kd.N_drewN | apply Kd.N_drew)); exact HO_6.out) (Kd.N_base (Kd.R_N ho0)) hb); have n1_ := Aside0.mk (Kd.V_elder' (by (with_reducible repeat (first | apply Kd.V_alloc | apply Kd.V_drewN | apply Kd.V_drew)); exact HL454_5.out) (Kd.N_base (Kd.R_N ho0)) hb); have n2_ := Aside0.mk (Kd.V_elder' (by (with_reducible repeat (first | apply Kd.V_alloc | apply Kd.V_drewN | apply Kd.V_drew)); exact HL454_6.out) (Kd.N_base (Kd.R_N ho0)) hb); have n3_ := Aside0.mk (Kd.V_elder' (by (with_reducible repeat (first | apply Kd.V_alloc | apply Kd.V_drewN | apply Kd.V_drew)); exact HL454_7.out) (Kd.N_base (Kd.R_N ho0)) hb); have n4_ := Aside0.mk (Kd.N_lower (Kd.N_mono (ok' := fun k_ => some k_ ≠ (.slice (some ad454) t434.length co18 : Value).ownBlock) (Kd.R_N (Kd.R_bound ho0)) (fun k_ hk_ => (Kd.fresh' (Kd.N_lt (by (with_reducible repeat (first | apply Kd.N_alloc | apply Kd.N_drewN | apply Kd.N_drew)); exact HO_6.out)) k_ hk_.2.1))) (below_size (bl_ HB.out))); have n5_ := Aside0.mk (Kd.C_below (by repeat (first | (with_reducible exact HR454_5.out) | (with_reducible refine Kd.C_alloc ?_ _) | (with_reducible refine Kd.C_drewN ?_ _) | (with_reducible refine Kd.C_drew ?_) | exact HR454_5.out)) hb); have n6_ := Aside0.mk (Kd.C_below (by repeat (first | (with_reducible exact HR454_6.out) | (with_reducible refine Kd.C_alloc ?_ _) | (with_reducible refine Kd.C_drewN ?_ _) | (with_reducible refine Kd.C_drew ?_) | exact HR454_6.out)) hb); have n7_ := Aside0.mk (Kd.C_below (by repeat (first | (with_reducible exact HR454_7.out) | (with_reducible refine Kd.C_alloc ?_ _) | (with_reducible refine Kd.C_drewN ?_ _) | (with_reducible refine Kd.C_drew ?_) | exact HR454_7.out)) hb); have n8_ := Aside0.mk (below_step (bl_ HB.out) hb); clear HO_6; clear HL454_5; clear HL454_6; clear HL454_7; clear HR454_5; clear HR454_6; clear HR454_7; clear HB; have HO_6 := n0_; have HL454_5 := n1_; have HL454_6 := n2_; have HL454_7 := n3_; have HO458 := n4_; have HR454_5 := n5_; have HR454_6 := n6_; have HR454_7 := n7_; have HB := n8_; clear n0_ n1_ n2_ n3_ n4_ n5_ n6_ n7_ n8_; (try clear hb); (try clear hb2); (try clear hk); (try clear hi); (try clear ho0)) | ((with_reducible refine gate_dst (N := 81) rfl ?_); (try (refine gate_guard (by rfl) ?_; dsimp only)); refine Kd.N_lit k34 _ 34 ?hg (N' := 81) ?hd (xs := ([] : List (S34))) (inner := []) (ok := (fun k_ => some k_ ≠ (.slice (some ad454) t434.length co18 : Value).ownBlock ∧ some k_ ≠ (v457 : Value).ownBlock)) (okp := (fun k_ => some k_ ≠ (.slice (some ad454) t434.length co18 : Value).ownBlock ∧ some k_ ≠ (v457 : Value).ownBlock)) ?hr ?hp (fun _ hk => hk) ((show ∀ k_, w75.heap.size ≤ k_ → (fun k_ => some k_ ≠ (.slice (some ad454) t434.length co18 : Value).ownBlock ∧ some k_ ≠ (v457 : Value).ownBlock) k_ from fun k_ hk => ⟨Kd.fresh' (Kd.N_lt (by (with_reducible repeat (first | apply Kd.N_alloc | apply Kd.N_drewN | apply Kd.N_drew)); exact HO_6.out)) k_ hk, Kd.fresh' (Kd.N_lt (by (with_reducible repeat (first | apply Kd.N_alloc | apply Kd.N_drewN | apply Kd.N_drew)); exact HO458.out)) k_ hk⟩) _ (Nat.le_refl _)) (Below.refl _ _) (Nat.le_refl _) (by simp) ?_; (case hd => rfl); (case hg => rfl); (case hr => first | (go_simp; done) | (go_simp; rfl)); (case hp => exact (Reps.none _ _)); intro v460 w76 ho77 hb hg_ hnew_; clear hg_ hnew_; (first | rw [← Ny459.out] at ho77 | (simp only [Int.reduceToNat] at ho77; rw [← Ny459.out] at ho77)); have n0_ := Aside0.mk (Kd.N_elder' (by (with_reducible repeat (first | apply Kd.N_alloc | apply Kd.N_drewN | apply Kd.N_drew)); exact HO_6.out) (Kd.N_base ho77) hb); have n1_ := Aside0.mk (Kd.V_elder' (by (with_reducible repeat (first | apply Kd.V_alloc | apply Kd.V_drewN | apply Kd.V_drew)); exact HL454_5.out) (Kd.N_base ho77) hb); have n2_ := Aside0.mk (Kd.V_elder' (by (with_reducible repeat (first | apply Kd.V_alloc | apply Kd.V_drewN | apply Kd.V_drew)); exact HL454_6.out) (Kd.N_base ho77) hb); have n3_ := Aside0.mk (Kd.V_elder' (by (with_reducible repeat (first | apply Kd.V_alloc | apply Kd.V_drewN | apply Kd.V_drew)); exact HL454_7.out) (Kd.N_base ho77) hb); have n4_ := Aside0.mk (Kd.N_elder' (by (with_reducible repeat (first | apply Kd.N_alloc | apply Kd.N_drewN | apply Kd.N_drew)); exact HO458.out) (Kd.N_base ho77) hb); have n5_ := Aside0.mk (Kd.N_lower ho77 (below_size (bl_ HB.out))); have n6_ := Aside0.mk (Kd.C_below (by repeat (first | (with_reducible exact HR454_5.out) | (with_reducible refine Kd.C_alloc ?_ _) | (with_reducible refine Kd.C_drewN ?_ _) | (with_reducible refine Kd.C_drew ?_) | exact HR454_5.out)) hb); have n7_ := Aside0.mk (Kd.C_below (by repeat (first | (with_reducible exact HR454_6.out) | (with_reducible refine Kd.C_alloc ?_ _) | (with_reducible refine Kd.C_drewN ?_ _) | (with_reducible refine Kd.C_drew ?_) | exact HR454_6.out)) hb); have n8_ := Aside0.mk (Kd.C_below (by repeat (first | (with_reducible exact HR454_7.out) | (with_reducible refine Kd.C_alloc ?_ _) | (with_reducible refine Kd.C_drewN ?_ _) | (with_reducible refine Kd.C_drew ?_) | exact HR454_7.out)) hb); have n9_ := Aside0.mk (below_step (bl_ HB.out) hb); clear HO_6; clear HL454_5; clear HL454_6; clear HL454_7; clear HO458; clear HR454_5; clear HR454_6; clear HR454_7; clear HB; have HO_6 := n0_; have HL454_5 := n1_; have HL454_6 := n2_; have HL454_7 := n3_; have HO458 := n4_; have HO461 := n5_; have HR454_5 := n6_; have HR454_6 := n7_; have HR454_7 := n8_; have HB := n9_; clear n0_ n1_ n2_ n3_ n4_ n5_ n6_ n7_ n8_ n9_; clear hb ho77) | ((with_reducible refine gate_builtin (b := .append) (xs := #[.tmp 81, .tmp 82]) rfl ?_); (try (refine gate_guard (by rfl) ?_; dsimp only)); at_builtin; refine Kd.N_append_rows k34 (w0 := w) w.heap.size rfl (.tmp 81) (.tmp 82) 23 34 (.agg #[(.string ⟨#[]⟩), (.bool false), (.int .i64 0), (.int .i64 0), (.string ⟨#[]⟩), (.slice none 0 0), (.slice none 0 0), (.slice none 0 0)]) 128 rfl Tryz.underlying23 info34 rfl (by decide) (by omega) v460 y459 t434 _ _ _ (fun k_ => some k_ ≠ (v457 : Value).ownBlock) (fun k_ => ((fun k_ => some k_ ≠ (v457 : Value).ownBlock)) k_ ∧ some k_ ≠ (v460 : Value).ownBlock) rfl rfl ?aO ?aR (fun _ hk => hk) ?aF ?aB ?aS ?aL ?_; (case aR => exact (by skip; exact Kd.N_F (Kd.N_mono (ok' := (fun k_ => ((fun k_ => some k_ ≠ (v457 : Value).ownBlock)) k_ ∧ some k_ ≠ (v460 : Value).ownBlock)) (HO_6.out) (fun k_ hk => ⟨hk.1.2, hk.2⟩)))); (case aB => exact (bl_ HB.out)); (case aF => exact (fun k_ hk => Kd.fresh' (Kd.N_lt (by (with_reducible repeat (first | apply Kd.N_alloc | apply Kd.N_drewN | apply Kd.N_drew)); exact HO458.out)) k_ hk)); (case aO => exact (by (with_reducible repeat (first | apply Kd.N_alloc | apply Kd.N_drewN | apply Kd.N_drew)); exact Kd.N_mono HO461.out (fun _ hk => hk.2))); (case aS => exact (below_size (bl_ HB.out))); (case aL => have := LMc69.out; omega); intro v463 w78 ho hb hg hat; rw [← Ny462.out] at ho; have n0_ := Aside0.mk (Kd.N_afterv (ok := (fun k_ => some k_ ≠ (v457 : Value).ownBlock)) (by (with_reducible repeat (first | apply Kd.N_alloc | apply Kd.N_drewN | apply Kd.N_drew)); exact Kd.N_mono HO_6.out (fun _ hk => ⟨hk.1.2, hk.2⟩)) hg hat); have n1_ := Aside0.mk (Kd.V_afterv (ok := (fun k_ => some k_ ≠ (.slice (some ad454) t434.length co18 : Value).ownBlock ∧ some k_ ≠ (v457 : Value).ownBlock)) (by (with_reducible repeat (first | apply Kd.V_alloc | apply Kd.V_drewN | apply Kd.V_drew)); exact Kd.V_mono HL454_5.out (fun _ hk => ⟨⟨hk.1.1.2, hk.1.2⟩, hk.2⟩)) hg hat); have n2_ := Aside0.mk (Kd.V_afterv (ok := (fun k_ => some k_ ≠ (.slice (some ad454) t434.length co18 : Value).ownBlock ∧ some k_ ≠ (v457 : Value).ownBlock)) (by (with_reducible repeat (first | apply Kd.V_alloc | apply Kd.V_drewN | apply Kd.V_drew)); exact Kd.V_mono HL454_6.out (fun _ hk => ⟨⟨hk.1.1.2, hk.1.2⟩, hk.2⟩)) hg hat); have n3_ := Aside0.mk (Kd.V_afterv (ok := (fun k_ => some k_ ≠ (.slice (some ad454) t434.length co18 : Value).ownBlock ∧ some k_ ≠ (v457 : Value).ownBlock)) (by (with_reducible repeat (first | apply Kd.V_alloc | apply Kd.V_drewN | apply Kd.V_drew)); exact Kd.V_mono HL454_7.out (fun _ hk => ⟨⟨hk.1.1.2, hk.1.2⟩, hk.2⟩)) hg hat); have n4_ := Aside0.mk (Kd.N_afterv (ok := (fun k_ => some k_ ≠ (.slice (some ad454) t434.length co18 : Value).ownBlock)) (by (with_reducible repeat (first | apply Kd.N_alloc | apply Kd.N_drewN | apply Kd.N_drew)); exact HO458.out) hg hat); have n5_ := Aside0.mk (hb); have n6_ := Aside0.mk (ho); clear HO_6; clear HL454_5; clear HL454_6; clear HL454_7; clear HO458; clear HB; clear HO461; have HO_6 := n0_; have HL454_5 := n1_; have HL454_6 := n2_; have HL454_7 := n3_; have HO458 := n4_; have HB := n5_; have HO464 := n6_; clear n0_ n1_ n2_ n3_ n4_ n5_ n6_; clear ho hb hg hat; have p465 : 0 ≤ ((ji63) : Int) := of_decide_eq_true (by assumption); have q465 : (ji63) < (t434.length : Int) := of_decide_eq_true (by assumption); obtain ⟨ad465, A465_5, c465_5, A465_6, c465_6, A465_7, c465_7, e465, hx465_0, hx465_1, hx465_2, hx465_3, hx465_4, hx465_5, hx465_6, hx465_7, hl465_5, hi465_5, hl465_6, hi465_6, hl465_7, hi465_7⟩ := at_T34 (Kd.N_reads' HO_6.out).2.2 (ji63) p465 q465; obtain rfl : ad454 = ad465 := (by injection e465); obtain ⟨ce465, hce465, hMe465, hcc465⟩ := Kd.N_get HO_6.out z34 (ji63) p465 (by first | exact q465 | exact of_decide_eq_true (by assumption) | (have e_ := (Kd.N_reads' HO_6.out).1; omega)); obtain ⟨ua465_5, uc465_5, ua465_6, uc465_6, ua465_7, uc465_7, rfl, ul465_5, ge465_5, ul465_6, ge465_6, ul465_7, ge465_7⟩ := k34_openF hMe465; have hv465_5 := hcc465 5 _ rfl; rw [add_field _ _ 5 (by omega)] at hv465_5; replace hv465_5 := Option.some.inj (hv465_5.symm.trans hx465_5); injection hv465_5 with hva_ hvn_ hvc_; rw [hva_] at ge465_5; rw [hvc_] at ul465_5; have HL465_5 := Aside0.mk (show Kd.V k60 60 _ w.heap.size _ _ ((rd_T34 t434 (ji63)).f2.f3) from Kd.V_mk ul465_5 ge465_5); clear hva_ hvn_ hvc_ ge465_5 ul465_5; have hv465_6 := hcc465 6 _ rfl; rw [add_field _ _ 6 (by omega)] at hv465_6; replace hv465_6 := Option.some.inj (hv465_6.symm.trans hx465_6); injection hv465_6 with hva_ hvn_ hvc_; rw [hva_] at ge465_6; rw [hvc_] at ul465_6; have HL465_6 := Aside0.mk (show Kd.V k31 31 _ w.heap.size _ _ ((rd_T34 t434 (ji63)).f3) from Kd.V_mk ul465_6 ge465_6); clear hva_ hvn_ hvc_ ge465_6 ul465_6; have hv465_7 := hcc465 7 _ rfl; rw [add_field _ _ 7 (by omega)] at hv465_7; replace hv465_7 := Option.some.inj (hv465_7.symm.trans hx465_7); injection hv465_7 with hva_ hvn_ hvc_; rw [hva_] at ge465_7; rw [hvc_] at ul465_7; have HL465_7 := Aside0.mk (show Kd.V k60 60 _ w.heap.size _ _ ((rd_T34 t434 (ji63)).f4) from Kd.V_mk ul465_7 ge465_7); clear hva_ hvn_ hvc_ ge465_7 ul465_7; clear hcc465 hce465; have HR465_5 := Aside0.mk hi465_5; have HC465_5 := Aside0.mk hl465_5; clear hi465_5 hl465_5; have HR465_6 := Aside0.mk hi465_6; have HC465_6 := Aside0.mk hl465_6; clear hi465_6 hl465_6; have HR465_7 := Aside0.mk hi465_7; have HC465_7 := Aside0.mk hl465_7; clear hi465_7 hl465_7; replace p465 := eq_true p465; replace q465 := eq_true q465; have p71 : 0 ≤ ((ji63) : Int) := of_decide_eq_true (by assumption); have q71 : ((ji63) : Int) < ((y462.length : Int) : Int) := of_decide_eq_true (by assumption); obtain ⟨go71, co71, eo71, gb71, gl71, cl71, HG71⟩ := Kd.N_form HO464.out (by omega); (first | cases eo71 | (injection eo71 with ea_ en_ ec_; (first | subst ea_ | (injection ea_ with ea_; subst ea_)); subst ec_; clear en_)); have GB71 := Aside0.mk gb71; have GG71 := Aside0.mk HG71; clear gb71 gl71 HG71; obtain ⟨ce71, hcl71, hM71, hcc71, hfr71⟩ := Kd.N_elem HO464.out z34 ((ji63) : Int) p71 q71; obtain ⟨ua71_5, uc71_5, ua71_6, uc71_6, ua71_7, uc71_7, rfl, ul71_5, ge71_5, ul71_6, ge71_6, ul71_7, ge71_7⟩ := k34_openF hM71; have hx71_0 : w78.cell? ⟨go71, ((ji63) : Int).toNat * 8, none⟩ = some (.string ((rd_T34 y462 (ji63)).f0)) := hcc71 0 _ rfl; have hx71_1 : w78.cell? ⟨go71, ((ji63) : Int).toNat * 8 + 1, none⟩ = some (.bool ((rd_T34 y462 (ji63)).f1)) := hcc71 1 _ rfl; have hx71_2 : w78.cell? ⟨go71, ((ji63) : Int).toNat * 8 + 2, none⟩ = some (.int .i64 ((rd_T34 y462 (ji63)).f2.f0)) := hcc71 2 _ rfl; have hx71_3 : w78.cell? ⟨go71, ((ji63) : Int).toNat * 8 + 3, none⟩ = some (.int .i64 ((rd_T34 y462 (ji63)).f2.f1)) := hcc71 3 _ rfl; have hx71_4 : w78.cell? ⟨go71, ((ji63) : Int).toNat * 8 + 4, none⟩ = some (.string ((rd_T34 y462 (ji63)).f2.f2)) := hcc71 4 _ rfl; have hx71_5 : w78.cell? ⟨go71, ((ji63) : Int).toNat * 8 + 5, none⟩ = some (.slice ua71_5 ((rd_T34 y462 (ji63)).f2.f3).length uc71_5) := hcc71 5 _ rfl; have hx71_6 : w78.cell? ⟨go71, ((ji63) : Int).toNat * 8 + 6, none⟩ = some (.slice ua71_6 ((rd_T34 y462 (ji63)).f3).length uc71_6) := hcc71 6 _ rfl; have hx71_7 : w78.cell? ⟨go71, ((ji63) : Int).toNat * 8 + 7, none⟩ = some (.slice ua71_7 ((rd_T34 y462 (ji63)).f4).length uc71_7) := hcc71 7 _ rfl; have hf71_0 : w78.frozen? ⟨go71, ((ji63) : Int).toNat * 8, none⟩ = false := hfr71 0; have hf71_1 : w78.frozen? ⟨go71, ((ji63) : Int).toNat * 8 + 1, none⟩ = false := hfr71 1; have hf71_2 : w78.frozen? ⟨go71, ((ji63) : Int).toNat * 8 + 2, none⟩ = false := hfr71 2; have hf71_3 : w78.frozen? ⟨go71, ((ji63) : Int).toNat * 8 + 3, none⟩ = false := hfr71 3; have hf71_4 : w78.frozen? ⟨go71, ((ji63) : Int).toNat * 8 + 4, none⟩ = false := hfr71 4; have hf71_5 : w78.frozen? ⟨go71, ((ji63) : Int).toNat * 8 + 5, none⟩ = false := hfr71 5; have hf71_6 : w78.frozen? ⟨go71, ((ji63) : Int).toNat * 8 + 6, none⟩ = false := hfr71 6; have hf71_7 : w78.frozen? ⟨go71, ((ji63) : Int).toNat * 8 + 7, none⟩ = false := hfr71 7; clear hcl71 hcc71 hfr71 hM71; replace p71 := eq_true p71; replace q71 := eq_true q71; have HX79 := Aside0.mk (show Kd.N k34 34 w78 w.heap.size (fun k_ => some k_ ≠ (v457 : Value).ownBlock) (.slice (some ⟨go71, 0, none⟩) y462.length co71) y462 from (by (with_reducible repeat (first | apply Kd.N_alloc | apply Kd.N_drewN | apply Kd.N_drew)); exact HO464.out)); obtain ⟨ce79, hcl79, hM79, hcc79, hfr79⟩ := Kd.N_elem HX79.out z34 ((ji63) : Int) (of_decide_eq_true (by assumption)) (by have h_ : ((ji63) : Int) < ((y462.length : Int) : Int) := of_decide_eq_true (by assumption); first | exact h_ | (have e_ := (Kd.N_reads' HO464.out).1; omega) | simpa using h_); obtain ⟨ua79_5, uc79_5, ua79_6, uc79_6, ua79_7, uc79_7, rfl, ul79_5, ge79_5, ul79_6, ge79_6, ul79_7, ge79_7⟩ := k34_openF hM79; have HP79 := Kd.N_seg HX79.out ((ji63) : Int) (of_decide_eq_true (by assumption)) (by have h_ : ((ji63) : Int) < ((y462.length : Int) : Int) := of_decide_eq_true (by assumption); first | exact h_ | (have e_ := (Kd.N_reads' HO464.out).1; omega) | simpa using h_) (seg := [.string ((rd_T34 t434 (ji63)).f0), .bool false, .int .i64 1, .int .i64 77, .string ⟨#[]⟩, .slice none 0 0, .slice none 0 0, .slice none 0 0]) (j := 0) hcl79 hcc79 (show 8 ≤ 8 from by decide) (x' := (⟨(rd_T34 t434 (ji63)).f0, false, (⟨1, 77, (⟨#[]⟩ : ByteArray), ([] : List (S60))⟩ : S31), ([] : List (S31)), ([] : List (S60))⟩ : S34)) (k34_mkF _ _ (⟨(rd_T34 t434 (ji63)).f0, false, (⟨1, 77, (⟨#[]⟩ : ByteArray), ([] : List (S60))⟩ : S31), ([] : List (S31)), ([] : List (S60))⟩ : S34) (Nat.le_refl _) (Kd.F_nil _ _ _) (Nat.le_refl _) (Kd.F_nil _ _ _) (Nat.le_refl _) (Kd.F_nil _ _ _)) (fun _ hk => hk); have hx79_0 := hcc79 0 _ rfl; (try simp only [show (k34).sz = 8 from rfl, Nat.mul_one, Nat.add_zero] at hx79_0); have hf79_0 := hfr79 0; (try simp only [show (k34).sz = 8 from rfl, Nat.mul_one, Nat.add_zero] at hf79_0); have hx79_1 := hcc79 1 _ rfl; (try simp only [show (k34).sz = 8 from rfl, Nat.mul_one, Nat.add_zero] at hx79_1); have hf79_1 := hfr79 1; (try simp only [show (k34).sz = 8 from rfl, Nat.mul_one, Nat.add_zero] at hf79_1); have hx79_2 := hcc79 2 _ rfl; (try simp only [show (k34).sz = 8 from rfl, Nat.mul_one, Nat.add_zero] at hx79_2); have hf79_2 := hfr79 2; (try simp only [show (k34).sz = 8 from rfl, Nat.mul_one, Nat.add_zero] at hf79_2); have hx79_3 := hcc79 3 _ rfl; (try simp only [show (k34).sz = 8 from rfl, Nat.mul_one, Nat.add_zero] at hx79_3); have hf79_3 := hfr79 3; (try simp only [show (k34).sz = 8 from rfl, Nat.mul_one, Nat.add_zero] at hf79_3); have hx79_4 := hcc79 4 _ rfl; (try simp only [show (k34).sz = 8 from rfl, Nat.mul_one, Nat.add_zero] at hx79_4); have hf79_4 := hfr79 4; (try simp only [show (k34).sz = 8 from rfl, Nat.mul_one, Nat.add_zero] at hf79_4); have hx79_5 := hcc79 5 _ rfl; (try simp only [show (k34).sz = 8 from rfl, Nat.mul_one, Nat.add_zero] at hx79_5); have hf79_5 := hfr79 5; (try simp only [show (k34).sz = 8 from rfl, Nat.mul_one, Nat.add_zero] at hf79_5); have hx79_6 := hcc79 6 _ rfl; (try simp only [show (k34).sz = 8 from rfl, Nat.mul_one, Nat.add_zero] at hx79_6); have hf79_6 := hfr79 6; (try simp only [show (k34).sz = 8 from rfl, Nat.mul_one, Nat.add_zero] at hf79_6); have hx79_7 := hcc79 7 _ rfl; (try simp only [show (k34).sz = 8 from rfl, Nat.mul_one, Nat.add_zero] at hx79_7); have hf79_7 := hfr79 7; (try simp only [show (k34).sz = 8 from rfl, Nat.mul_one, Nat.add_zero] at hf79_7); clear hcl79 hcc79 hfr79 hM79) | ((with_reducible refine gate_store (t := 34) (p := 93) rfl ?_); (try (rw [drewN_self w78]; generalize hq_ : World.drewN w78 _ = w78; have n0_ := Aside0.mk (Kd.N_at hq_ HO_6.out); have n1_ := Aside0.mk (Kd.V_at hq_ HL454_5.out); have n2_ := Aside0.mk (Kd.V_at hq_ HL454_6.out); have n3_ := Aside0.mk (Kd.V_at hq_ HL454_7.out); have n4_ := Aside0.mk (Kd.N_at hq_ HO458.out); have n5_ := Aside0.mk (Kd.N_at hq_ HO464.out); have n6_ := Aside0.mk (Kd.V_at hq_ HL465_5.out); have n7_ := Aside0.mk (Kd.V_at hq_ HL465_6.out); have n8_ := Aside0.mk (Kd.V_at hq_ HL465_7.out); have n9_ := Aside0.mk (below_at hq_ HB.out); clear hq_ HO_6 HL454_5 HL454_6 HL454_7 HO458 HO464 HL465_5 HL465_6 HL465_7 HB; have HO_6 := n0_; have HL454_5 := n1_; have HL454_6 := n2_; have HL454_7 := n3_; have HO458 := n4_; have HO464 := n5_; have HL465_5 := n6_; have HL465_6 := n7_; have HL465_7 := n8_; have HB := n9_; clear n0_ n1_ n2_ n3_ n4_ n5_ n6_ n7_ n8_ n9_; (try (have HX79 := Aside0.mk (show Kd.N k34 34 w78 w.heap.size (fun k_ => some k_ ≠ (v457 : Value).ownBlock) (.slice (some ⟨go71, 0, none⟩) y462.length co71) y462 from (by (with_reducible repeat (first | apply Kd.N_alloc | apply Kd.N_drewN | apply Kd.N_drew)); exact HO464.out)))); (try (obtain ⟨ce79, hcl79, hM79, hcc79, hfr79⟩ := Kd.N_elem HX79.out z34 ((ji63) : Int) (of_decide_eq_true (by assumption)) (by have h_ : ((ji63) : Int) < ((y462.length : Int) : Int) := of_decide_eq_true (by assumption); first | exact h_ | (have e_ := (Kd.N_reads' HO464.out).1; omega) | simpa using h_))); (try (obtain ⟨ua79_5, uc79_5, ua79_6, uc79_6, ua79_7, uc79_7, rfl, ul79_5, ge79_5, ul79_6, ge79_6, ul79_7, ge79_7⟩ := k34_openF hM79)); (try (have HP79 := Kd.N_seg HX79.out ((ji63) : Int) (of_decide_eq_true (by assumption)) (by have h_ : ((ji63) : Int) < ((y462.length : Int) : Int) := of_decide_eq_true (by assumption); first | exact h_ | (have e_ := (Kd.N_reads' HO464.out).1; omega) | simpa using h_) (seg := [.string ((rd_T34 t434 (ji63)).f0), .bool false, .int .i64 1, .int .i64 77, .string ⟨#[]⟩, .slice none 0 0, .slice none 0 0, .slice none 0 0]) (j := 0) hcl79 hcc79 (show 8 ≤ 8 from by decide) (x' := (⟨(rd_T34 t434 (ji63)).f0, false, (⟨1, 77, (⟨#[]⟩ : ByteArray), ([] : List (S60))⟩ : S31), ([] : List (S31)), ([] : List (S60))⟩ : S34)) (k34_mkF _ _ (⟨(rd_T34 t434 (ji63)).f0, false, (⟨1, 77, (⟨#[]⟩ : ByteArray), ([] : List (S60))⟩ : S31), ([] : List (S31)), ([] : List (S60))⟩ : S34) (Nat.le_refl _) (Kd.F_nil _ _ _) (Nat.le_refl _) (Kd.F_nil _ _ _) (Nat.le_refl _) (Kd.F_nil _ _ _)) (fun _ hk => hk))); (try (have hx79_0 := hcc79 0 _ rfl)); (try (try simp only [show (k34).sz = 8 from rfl, Nat.mul_one, Nat.add_zero] at hx79_0)); (try (have hf79_0 := hfr79 0)); (try (try simp only [show (k34).sz = 8 from rfl, Nat.mul_one, Nat.add_zero] at hf79_0)); (try (have hx79_1 := hcc79 1 _ rfl)); (try (try simp only [show (k34).sz = 8 from rfl, Nat.mul_one, Nat.add_zero] at hx79_1)); (try (have hf79_1 := hfr79 1)); (try (try simp only [show (k34).sz = 8 from rfl, Nat.mul_one, Nat.add_zero] at hf79_1)); (try (have hx79_2 := hcc79 2 _ rfl)); (try (try simp only [show (k34).sz = 8 from rfl, Nat.mul_one, Nat.add_zero] at hx79_2)); (try (have hf79_2 := hfr79 2)); (try (try simp only [show (k34).sz = 8 from rfl, Nat.mul_one, Nat.add_zero] at hf79_2)); (try (have hx79_3 := hcc79 3 _ rfl)); (try (try simp only [show (k34).sz = 8 from rfl, Nat.mul_one, Nat.add_zero] at hx79_3)); (try (have hf79_3 := hfr79 3)); (try (try simp only [show (k34).sz = 8 from rfl, Nat.mul_one, Nat.add_zero] at hf79_3)); (try (have hx79_4 := hcc79 4 _ rfl)); (try (try simp only [show (k34).sz = 8 from rfl, Nat.mul_one, Nat.add_zero] at hx79_4)); (try (have hf79_4 := hfr79 4)); (try (try simp only [show (k34).sz = 8 from rfl, Nat.mul_one, Nat.add_zero] at hf79_4)); (try (have hx79_5 := hcc79 5 _ rfl)); (try (try simp only [show (k34).sz = 8 from rfl, Nat.mul_one, Nat.add_zero] at hx79_5)); (try (have hf79_5 := hfr79 5)); (try (try simp only [show (k34).sz = 8 from rfl, Nat.mul_one, Nat.add_zero] at hf79_5)); (try (have hx79_6 := hcc79 6 _ rfl)); (try (try simp only [show (k34).sz = 8 from rfl, Nat.mul_one, Nat.add_zero] at hx79_6)); (try (have hf79_6 := hfr79 6)); (try (try simp only [show (k34).sz = 8 from rfl, Nat.mul_one, Nat.add_zero] at hf79_6)); (try (have hx79_7 := hcc79 7 _ rfl)); (try (try simp only [show (k34).sz = 8 from rfl, Nat.mul_one, Nat.add_zero] at hx79_7)); (try (have hf79_7 := hfr79 7)); (try (try simp only [show (k34).sz = 8 from rfl, Nat.mul_one, Nat.add_zero] at hf79_7)); (try (clear hcl79 hcc79 hfr79 hM79)))); refine store_event (t := 34) (p := 93) (v := ?vo_w80) (w1 := ((((((((w78.setCell ⟨go71, ((ji63) : Int).toNat * 8, none⟩ (.string ((rd_T34 t434 (ji63)).f0))).setCell ⟨go71, ((ji63) : Int).toNat * 8 + 1, none⟩ (.bool false)).setCell ⟨go71, ((ji63) : Int).toNat * 8 + 2, none⟩ (.int .i64 1)).setCell ⟨go71, ((ji63) : Int).toNat * 8 + 3, none⟩ (.int .i64 77)).setCell ⟨go71, ((ji63) : Int).toNat * 8 + 4, none⟩ (.string ⟨#[]⟩)).setCell ⟨go71, ((ji63) : Int).toNat * 8 + 5, none⟩ (.slice none 0 0)).setCell ⟨go71, ((ji63) : Int).toNat * 8 + 6, none⟩ (.slice none 0 0)).setCell ⟨go71, ((ji63) : Int).toNat * 8 + 7, none⟩ (.slice none 0 0))) ?hg ?ho ?hn ?hr ?_; (case ho => rfl); (case hg => rfl); (case hn => rfl); (case hr => first | (go_simp; done) | (go_simp; rfl)); intro w80 hw; have hg : w78.grownBy w80 (some go71) := (by rw [hw]; exact HP79.2); have hp_ : Kd.N k34 34 w80 w.heap.size (fun k_ => some k_ ≠ (v457 : Value).ownBlock) (.slice (some ⟨go71, 0, none⟩) y462.length co71) y466 := (by rw [hw, Ny466.out]; exact HP79.1); clear HP79; have n0_ := Aside0.mk (Kd.N_afterv (v := (.slice (some ⟨go71, 0, none⟩) y462.length co71)) (v1 := (.slice (some ⟨go71, 0, none⟩) y462.length co71)) (ok := (fun k_ => some k_ ≠ (v457 : Value).ownBlock)) (by (with_reducible repeat (first | apply Kd.N_alloc | apply Kd.N_drewN | apply Kd.N_drew)); exact HO_6.out) hg (.inl rfl)); have n1_ := Aside0.mk (Kd.V_afterv (v := (.slice (some ⟨go71, 0, none⟩) y462.length co71)) (v1 := (.slice (some ⟨go71, 0, none⟩) y462.length co71)) (ok := (fun k_ => some k_ ≠ (.slice (some ad454) t434.length co18 : Value).ownBlock ∧ some k_ ≠ (v457 : Value).ownBlock)) (by (with_reducible repeat (first | apply Kd.V_alloc | apply Kd.V_drewN | apply Kd.V_drew)); exact HL454_5.out) hg (.inl rfl)); have n2_ := Aside0.mk (Kd.V_afterv (v := (.slice (some ⟨go71, 0, none⟩) y462.length co71)) (v1 := (.slice (some ⟨go71, 0, none⟩) y462.length co71)) (ok := (fun k_ => some k_ ≠ (.slice (some ad454) t434.length co18 : Value).ownBlock ∧ some k_ ≠ (v457 : Value).ownBlock)) (by (with_reducible repeat (first | apply Kd.V_alloc | apply Kd.V_drewN | apply Kd.V_drew)); exact HL454_6.out) hg (.inl rfl)); have n3_ := Aside0.mk (Kd.V_afterv (v := (.slice (some ⟨go71, 0, none⟩) y462.length co71)) (v1 := (.slice (some ⟨go71, 0, none⟩) y462.length co71)) (ok := (fun k_ => some k_ ≠ (.slice (some ad454) t434.length co18 : Value).ownBlock ∧ some k_ ≠ (v457 : Value).ownBlock)) (by (with_reducible repeat (first | apply Kd.V_alloc | apply Kd.V_drewN | apply Kd.V_drew)); exact HL454_7.out) hg (.inl rfl)); have n4_ := Aside0.mk (Kd.N_afterv (v := (.slice (some ⟨go71, 0, none⟩) y462.length co71)) (v1 := (.slice (some ⟨go71, 0, none⟩) y462.length co71)) (ok := (fun k_ => some k_ ≠ (.slice (some ad454) t434.length co18 : Value).ownBlock)) (by (with_reducible repeat (first | apply Kd.N_alloc | apply Kd.N_drewN | apply Kd.N_drew)); exact HO458.out) hg (.inl rfl)); have n5_ := Aside0.mk (hp_); have n6_ := Aside0.mk (Kd.V_afterv (v := (.slice (some ⟨go71, 0, none⟩) y462.length co71)) (v1 := (.slice (some ⟨go71, 0, none⟩) y462.length co71)) (ok := (fun k_ => some k_ ≠ (.slice (some ad454) t434.length co18 : Value).ownBlock ∧ some k_ ≠ (v457 : Value).ownBlock)) (by (with_reducible repeat (first | apply Kd.V_alloc | apply Kd.V_drewN | apply Kd.V_drew)); exact Kd.V_mono HL465_5.out (fun _ hk => ⟨⟨hk.2, hk.1.1⟩, hk.1.2⟩)) hg (.inl rfl)); have n7_ := Aside0.mk (Kd.V_afterv (v := (.slice (some ⟨go71, 0, none⟩) y462.length co71)) (v1 := (.slice (some ⟨go71, 0, none⟩) y462.length co71)) (ok := (fun k_ => some k_ ≠ (.slice (some ad454) t434.length co18 : Value).ownBlock ∧ some k_ ≠ (v457 : Value).ownBlock)) (by (with_reducible repeat (first | apply Kd.V_alloc | apply Kd.V_drewN | apply Kd.V_drew)); exact Kd.V_mono HL465_6.out (fun _ hk => ⟨⟨hk.2, hk.1.1⟩, hk.1.2⟩)) hg (.inl rfl)); have n8_ := Aside0.mk (Kd.V_afterv (v := (.slice (some ⟨go71, 0, none⟩) y462.length co71)) (v1 := (.slice (some ⟨go71, 0, none⟩) y462.length co71)) (ok := (fun k_ => some k_ ≠ (.slice (some ad454) t434.length co18 : Value).ownBlock ∧ some k_ ≠ (v457 : Value).ownBlock)) (by (with_reducible repeat (first | apply Kd.V_alloc | apply Kd.V_drewN | apply Kd.V_drew)); exact Kd.V_mono HL465_7.out (fun _ hk => ⟨⟨hk.2, hk.1.1⟩, hk.1.2⟩)) hg (.inl rfl)); have n9_ := Aside0.mk ((by rw [hw]; exact below_set (below_set (below_set (below_set (below_set (below_set (below_set (below_set (HB.out) GB71.out) GB71.out) GB71.out) GB71.out) GB71.out) GB71.out) GB71.out) GB71.out : Below w.heap.size w w80)); clear HO_6; clear HL454_5; clear HL454_6; clear HL454_7; clear HO458; clear HO464; clear HL465_5; clear HL465_6; clear HL465_7; clear HB; have HO_6 := n0_; have HL454_5 := n1_; have HL454_6 := n2_; have HL454_7 := n3_; have HO458 := n4_; have HO464 := n5_; have HL465_5 := n6_; have HL465_6 := n7_; have HL465_7 := n8_; have HB := n9_; clear n0_ n1_ n2_ n3_ n4_ n5_ n6_ n7_ n8_ n9_; clear hg hw hp_; obtain ⟨Ao81, co81, eo81⟩ := Kd.N_slice HO458.out; subst eo81) | (go_at_call 14; refine calls_of_args (args' := #[.slice Ao81 t455.length co81, .slice (some ⟨go71, 0, none⟩) y466.length co71]) (by first | (rw [show y466.length = y462.length from (Kd.N_reads' HO464.out).1.symm] <;> rfl) | rfl) ?_; (with_reducible refine (glacisref06_Same.calls kj16 _ _ t455 _ _ y466 true _ ?side1 ?side2 ?side3 ?side4 A72.out).mono ?_); (case side1 => exact cl_ (Kd.N_reads' HO458.out).2.2); (case side2 => exact (Kd.N_reads' HO458.out).2.1); (case side3 => exact cl_ (Kd.N_reads' HO464.out).2.2); (case side4 => rw [show y466.length = y462.length from (Kd.N_reads' HO464.out).1.symm]; exact (Kd.N_reads' HO464.out).2.1); rintro e w82 ⟨rfl, hb⟩; have n0_ := Aside0.mk (Kd.N_below (by (with_reducible repeat (first | apply Kd.N_alloc | apply Kd.N_drewN | apply Kd.N_drew)); exact HO_6.out) hb); have n1_ := Aside0.mk (Kd.V_below (by (with_reducible repeat (first | apply Kd.V_alloc | apply Kd.V_drewN | apply Kd.V_drew)); exact HL454_5.out) hb); have n2_ := Aside0.mk (Kd.V_below (by (with_reducible repeat (first | apply Kd.V_alloc | apply Kd.V_drewN | apply Kd.V_drew)); exact HL454_6.out) hb); have n3_ := Aside0.mk (Kd.V_below (by (with_reducible repeat (first | apply Kd.V_alloc | apply Kd.V_drewN | apply Kd.V_drew)); exact HL454_7.out) hb); have n4_ := Aside0.mk (Kd.N_below (by (with_reducible repeat (first | apply Kd.N_alloc | apply Kd.N_drewN | apply Kd.N_drew)); exact HO458.out) hb); have n5_ := Aside0.mk (Kd.N_below (by (with_reducible repeat (first | apply Kd.N_alloc | apply Kd.N_drewN | apply Kd.N_drew)); exact HO464.out) hb); have n6_ := Aside0.mk (Kd.V_below (by (with_reducible repeat (first | apply Kd.V_alloc | apply Kd.V_drewN | apply Kd.V_drew)); exact HL465_5.out) hb); have n7_ := Aside0.mk (Kd.V_below (by (with_reducible repeat (first | apply Kd.V_alloc | apply Kd.V_drewN | apply Kd.V_drew)); exact HL465_6.out) hb); have n8_ := Aside0.mk (Kd.V_below (by (with_reducible repeat (first | apply Kd.V_alloc | apply Kd.V_drewN | apply Kd.V_drew)); exact HL465_7.out) hb); have n9_ := Aside0.mk (below_step (bl_ HB.out) hb); clear HO_6; clear HL454_5; clear HL454_6; clear HL454_7; clear HO458; clear HO464; clear HL465_5; clear HL465_6; clear HL465_7; clear HB; have HO_6 := n0_; have HL454_5 := n1_; have HL454_6 := n2_; have HL454_7 := n3_; have HO458 := n4_; have HO464 := n5_; have HL465_5 := n6_; have HL465_6 := n7_; have HL465_7 := n8_; have HB := n9_; clear n0_ n1_ n2_ n3_ n4_ n5_ n6_ n7_ n8_ n9_; (try clear hb); (try clear hb2); (try clear hk); (try clear hi))))
                   go_ret
                   exact ⟨by first | rfl | (simp [errW_none, errW_some] <;> rfl) | (simp only [← hji63]; first | rfl | (simp [errW_none, errW_some] <;> rfl)) | (simp [*, errW_none, errW_some] <;> rfl) | (simp [q_ne_nil]; done), bl_ HB.out⟩
                  ·exact absurd H (by rw [if_neg c74]; simp)
                 ·exact absurd H (by rw [if_neg c73]; simp)
                ·exact absurd H (by rw [if_neg c70]; simp)
               ·exact absurd H (by rw [if_neg c69]; simp)
              ·exact absurd H (by rw [if_neg c67]; simp)
             ·exact absurd H (by rw [if_neg c66]; simp)
            ·exact absurd H (by rw [if_neg c65]; simp)
           ·exact absurd H (by rw [if_neg c64]; simp)
          ·exact absurd H (by rw [if_neg c62]; simp)
end Go.Proofs.YtjdbiicjfpgjkaaGreatDoor.Q
/- Chapter 5: the reader over lists of bytes: what text tells what value, and how such a text is read. -/
namespace Go.Proofs.YtjdbiicjfpgjkaaGreatDoor.Pl
open Go.RowKit Go.Proofs.YtjdbiicjfpgjkaaGreatDoor.Q Go.Proofs.YtjdbiicjfpgjkaaGreatDoor.Sf Go.Proofs.YtjdbiicjfpgjkaaGreatDoorW.PrintWords Go.Proofs.YtjdbiicjfpgjkaaGreatDoorW.PrintLast
set_option linter.unusedVariables false
set_option linter.unusedSimpArgs false
def L (s : ByteArray) : List UInt8 := s.data.toList
def B (l : List UInt8) : ByteArray := ⟨l.toArray⟩
theorem L_B (l : List UInt8) : L (B l) = l := by simp [L, B]
theorem B_L (s : ByteArray) : B (L s) = s := by apply ByteArray.ext; simp [L, B]
theorem L_inj {a b : ByteArray} (h : L a = L b) : a = b := by rw [← B_L a, h, B_L]
theorem L_app (a b : ByteArray) : L (a ++ b) = L a ++ L b := by unfold L; simp
theorem size_L (s : ByteArray) : s.size = (L s).length := Lib.size_eq s
theorem L_tl (s : ByteArray) : L (tl s) = (L s).tail := by
  unfold L tl
  rw [Lib.extract_data, Lib.size_eq]
  rw [List.take_of_length_le (by simp), List.drop_one]
theorem bt0 {s : ByteArray} {c : UInt8} {r : List UInt8} (h : L s = c :: r) : bt s 0 = (c.toNat : Int) := by
  have hl : 0 < s.data.toList.length := by show 0 < (L s).length; rw [h]; simp
  have := bt_list s 0 hl
  have e : s.data.toList[0] = c := by
    have h2 : s.data.toList = c :: r := h
    simp [h2]
  rw [e] at this
  exact this
theorem size_pos {s : ByteArray} {c : UInt8} {r : List UInt8} (h : L s = c :: r) : 0 < s.size := by rw [size_L, h]; simp
theorem size_nil {s : ByteArray} (h : L s = []) : ¬ 0 < s.size := by rw [size_L, h]; simp
theorem atF_cons {s : ByteArray} {c : UInt8} {r : List UInt8} (h : L s = c :: r) (n : Int) : atF s n = decide ((c.toNat : Int) = n) := by
  unfold atF; rw [bt0 h]; simp [size_pos h]
theorem atF_nil {s : ByteArray} (h : L s = []) (n : Int) : atF s n = false := by
  unfold atF; simp [size_nil h]
theorem atF_ex {s : ByteArray} {n : Int} (h : atF s n = true) : ∃ c r, L s = c :: r ∧ (c.toNat : Int) = n := by
  cases e : L s with
  | nil => rw [atF_nil e] at h; cases h
  | cons c r => rw [atF_cons e] at h; exact ⟨c, r, rfl, of_decide_eq_true h⟩
theorem L_tak (p : Int → Bool) (s : ByteArray) : L (takB p s) = (L s).takeWhile (fun c => p c.toNat) := tak_data p s
theorem L_drp (p : Int → Bool) (s : ByteArray) : L (drpB p s) = (L s).dropWhile (fun c => p c.toNat) := by
  have h1 : L (drpB p s) = (L s).drop (spanB p s) := by
    unfold L drpB
    rw [Lib.extract_data, Lib.size_eq]
    rw [List.take_of_length_le (by simp)]
  rw [h1]
  have h2 : spanB p s = ((L s).takeWhile (fun c => p c.toNat)).length := rfl
  rw [h2]
  generalize (fun c : UInt8 => p c.toNat) = q
  induction L s with
  | nil => rfl
  | cons x l ih => rw [List.takeWhile_cons, List.dropWhile_cons]; split <;> simp [*]
theorem takeW_app {α : Type} (q : α → Bool) : ∀ (w r : List α), (∀ c ∈ w, q c = true) → (∀ c r', r = c :: r' → q c = false) → (w ++ r).takeWhile q = w ∧ (w ++ r).dropWhile q = r
  | [], r, _, h2 => by
    cases r with
    | nil => exact ⟨rfl, rfl⟩
    | cons c r' => rw [List.nil_append, List.takeWhile_cons, List.dropWhile_cons, h2 c r' rfl]; exact ⟨rfl, rfl⟩
  | x :: w, r, h1, h2 => by
    have ih := takeW_app q w r (fun c hc => h1 c (List.mem_cons_of_mem _ hc)) h2
    rw [List.cons_append, List.takeWhile_cons, List.dropWhile_cons, h1 x (List.mem_cons_self ..)]
    simp only [if_true]
    rw [ih.1, ih.2]; exact ⟨rfl, rfl⟩
theorem span_split {α : Type} (q : α → Bool) (l : List α) : l.takeWhile q ++ l.dropWhile q = l := List.takeWhile_append_dropWhile
theorem dropW_head {α : Type} (q : α → Bool) : ∀ (l : List α) (c : α) (r : List α), l.dropWhile q = c :: r → q c = false
  | x :: l, c, r, h => by
    rw [List.dropWhile_cons] at h
    by_cases hx : q x = true
    · rw [if_pos hx] at h; exact dropW_head q l c r h
    · rw [if_neg hx] at h; obtain ⟨rfl, rfl⟩ := List.cons.inj h; exact Bool.eq_false_iff.mpr hx
theorem allU (P : UInt8 → Bool) (h : (List.range 256).all (fun n => P (UInt8.ofNat n)) = true) (c : UInt8) : P c = true := by
  have hc : c.toNat < 256 := c.toNat_lt
  have := List.all_eq_true.1 h c.toNat (List.mem_range.2 hc)
  simpa using this
/-- A row of digits' number. -/
def numL (l : List UInt8) : Nat := l.foldl (fun a c => a * 10 + (c.toNat - 48)) 0
theorem numV_L (s : ByteArray) : numV s = numL (L s) := rfl
def zerL (n : Nat) : List UInt8 := ([48, 48, 48] : List UInt8).drop n
theorem zer_L (n : Nat) : L (zer n) = zerL n := by
  unfold L zer
  rw [Lib.extract_data]
  show List.take (3 - n) (List.drop n [48, 48, 48]) = zerL n
  rw [List.take_of_length_le (by simp)]; rfl
def dgU (c : UInt8) : Bool := dgP c.toNat
def toU (c : UInt8) : Bool := tokP c.toNat
def baU (c : UInt8) : Bool := baP c.toNat
def keU (c : UInt8) : Bool := keP c.toNat
/-- What bytes between quotes tell what text. -/
inductive QT : List UInt8 → List UInt8 → Prop
  | stop : QT [34] []
  | plain (c : UInt8) (q t : List UInt8) (h1 : 32 ≤ c.toNat) (h2 : c.toNat ≤ 126) (h3 : c.toNat ≠ 34) (h4 : c.toNat ≠ 92) (h : QT q t) : QT (c :: q) (c :: t)
  | esc (c : UInt8) (q t : List UInt8) (h1 : c.toNat = 34 ∨ c.toNat = 92) (h : QT q t) : QT (92 :: c :: q) (c :: t)
def sgV (sg : List UInt8) : Int := if sg = [] then 1 else -1
/-- What text tells what value. -/
inductive VT : List UInt8 → Int → Int → List UInt8 → Prop
  | int (sg w : List UInt8) (h0 : sg = [] ∨ sg = [45]) (h1 : w ≠ []) (h2 : ∀ c ∈ w, dgU c = true) (h3 : w.length ≤ 15) : VT (sg ++ w) 1 (sgV sg * (numL w : Int)) []
  | dec (sg w p : List UInt8) (h0 : sg = [] ∨ sg = [45]) (h1 : w ≠ []) (h2 : ∀ c ∈ w, dgU c = true) (h3 : w.length ≤ 12) (h4 : p ≠ []) (h5 : ∀ c ∈ p, dgU c = true) (h6 : p.length ≤ 3) : VT (sg ++ (w ++ 46 :: p)) 2 (sgV sg * (numL (w ++ (p ++ zerL p.length)) : Int)) []
  | tok (c : UInt8) (w : List UInt8) (h0 : leP c.toNat = true ∨ (c.toNat : Int) = 42) (h1 : ∀ x ∈ c :: w, toU x = true) : VT (c :: w) 4 0 (c :: w)
  | quo (q t : List UInt8) (h : QT q t) : VT (34 :: q) 3 0 t
  | byt (w : List UInt8) (h : ∀ c ∈ w, baU c = true) : VT (58 :: (w ++ [58])) 5 0 w
  | one : VT [63, 49] 6 1 []
  | zero : VT [63, 48] 6 0 []
/-- What text tells what key. -/
def KT (k : List UInt8) : Prop := ∃ c w, k = c :: w ∧ (smP c.toNat = true ∨ (c.toNat : Int) = 42) ∧ ∀ x ∈ k, keU x = true
/-- A rest behind which nothing is lost: at its head stands a semicolon, a comma, a blank, a tab or a bracket. -/
def Endc (c : UInt8) : Bool := c == 59 || c == 44 || c == 32 || c == 9 || c == 41
def Ends (r : List UInt8) : Prop := ∀ c r', r = c :: r' → Endc c = true
theorem Ends.nil : Ends [] := fun _ _ h => by cases h
theorem Ends.cons {c : UInt8} (h : Endc c = true) (r : List UInt8) : Ends (c :: r) := fun _ _ e => by cases e; exact h
theorem Ends.semi (r : List UInt8) : Ends (59 :: r) := Ends.cons (by decide) r
theorem Ends.not {q : UInt8 → Bool} {r : List UInt8} (h : Ends r) (hq : ∀ c, Endc c = true → q c = false) : ∀ c r', r = c :: r' → q c = false := fun c r' e => hq c (h c r' e)
theorem Ends.app {a b : List UInt8} (ha : Ends a) (hb : Ends b) : Ends (a ++ b) := by
  intro c r' e
  cases a with
  | nil => exact hb c r' e
  | cons x a => simp only [List.cons_append, List.cons.injEq] at e; obtain ⟨rfl, _⟩ := e; exact ha _ _ rfl
theorem end_all {P : UInt8 → Bool} (h : (List.range 256).all (fun n => !(Endc (UInt8.ofNat n)) || !(P (UInt8.ofNat n))) = true) (c : UInt8) (hc : Endc c = true) : P c = false := by
  have := allU (fun c => !(Endc c) || !(P c)) h c
  simpa [hc] using this
theorem digU_59 (c : UInt8) (h : Endc c = true) : dgU c = false := end_all (by decide +kernel) c h
theorem tokU_59 (c : UInt8) (h : Endc c = true) : toU c = false := end_all (by decide +kernel) c h
theorem keyU_59 (c : UInt8) (h : Endc c = true) : keU c = false := end_all (by decide +kernel) c h
theorem end_ne (c : UInt8) (h : Endc c = true) : c.toNat ≠ 46 ∧ (c.toNat : Int) ≠ 61 := by
  have h1 := end_all (P := fun c => decide (c.toNat = 46) || decide ((c.toNat : Int) = 61)) (by decide +kernel) c h
  simpa using h1
theorem dg_ne {c : UInt8} (h : dgU c = true) : 48 ≤ c.toNat ∧ c.toNat ≤ 57 := by
  unfold dgU dgP at h; have := of_decide_eq_true h; omega
theorem number_read (sg w r : List UInt8) (s : ByteArray) (h0 : sg = [] ∨ sg = [45]) (h1 : w ≠ []) (h2 : ∀ c ∈ w, dgU c = true) (hr : ∀ c r', r = c :: r' → dgU c = false) (e : L s = sg ++ (w ++ r)) :
    sgn s = sgV sg ∧ L (takB dgP (atR s 45)) = w ∧ L (drpB dgP (atR s 45)) = r := by
  have key : ∀ t : ByteArray, L t = w ++ r → L (takB dgP t) = w ∧ L (drpB dgP t) = r := fun t et => by
    rw [L_tak, L_drp, et]
    exact takeW_app (fun c : UInt8 => dgP c.toNat) w r h2 hr
  rcases h0 with rfl | rfl
  · obtain ⟨c, w', rfl⟩ := List.exists_cons_of_ne_nil h1
    have hc := dg_ne (h2 c (List.mem_cons_self ..))
    have e1 : L s = c :: (w' ++ r) := e
    have e2 : atF s 45 = false := by rw [atF_cons e1]; exact decide_eq_false (by omega)
    have e3 : atR s 45 = s := by unfold atR; rw [e2]; rfl
    refine ⟨by unfold sgn; rw [e2]; rfl, ?_⟩
    rw [e3]; exact key s e
  · have e1 : L s = 45 :: (w ++ r) := e
    have e2 : atF s 45 = true := by rw [atF_cons e1]; rfl
    have e3 : atR s 45 = tl s := by unfold atR; rw [e2]; rfl
    refine ⟨by unfold sgn; rw [e2]; rfl, ?_⟩
    rw [e3]; exact key (tl s) (by rw [L_tl, e1]; rfl)
theorem int_read (sg w r : List UInt8) (s : ByteArray) (h0 : sg = [] ∨ sg = [45]) (h1 : w ≠ []) (h2 : ∀ c ∈ w, dgU c = true) (h3 : w.length ≤ 15) (hr : ∀ c r', r = c :: r' → dgU c = false) (hp : ∀ c r', r = c :: r' → c.toNat ≠ 46) (e : L s = sg ++ (w ++ r)) :
    rdNumber s = some ((1, sgV sg * (numL w : Int), ⟨#[]⟩), B r) := by
  obtain ⟨a, b, c⟩ := number_read sg w r s h0 h1 h2 hr e
  have a' : (if atF s 45 = true then (-1 : Int) else 1) = sgV sg := a
  unfold rdNumber
  simp only []
  have hw : ¬ (takB dgP (atR s 45)).size = 0 := by rw [size_L, b]; simpa using h1
  have hd : atF (drpB dgP (atR s 45)) 46 = false := by
    cases r with
    | nil => exact atF_nil c 46
    | cons x r' => rw [atF_cons c]; exact decide_eq_false (by have := hp x r' rfl; omega)
  have hl : ¬ (takB dgP (atR s 45)).size > 15 := by rw [size_L, b]; omega
  rw [if_neg hw, hd, if_neg (by decide), if_neg hl, a', numV_L, b]
  have : drpB dgP (atR s 45) = B r := L_inj (by rw [c, L_B])
  rw [this]
theorem dec_read (sg w p r : List UInt8) (s : ByteArray) (h0 : sg = [] ∨ sg = [45]) (h1 : w ≠ []) (h2 : ∀ c ∈ w, dgU c = true) (h3 : w.length ≤ 12) (h4 : p ≠ []) (h5 : ∀ c ∈ p, dgU c = true) (h6 : p.length ≤ 3)
    (hr : ∀ c r', r = c :: r' → dgU c = false) (e : L s = sg ++ (w ++ (46 :: (p ++ r)))) :
    rdNumber s = some ((2, sgV sg * (numL (w ++ (p ++ zerL p.length)) : Int), ⟨#[]⟩), B r) := by
  obtain ⟨a, b, c⟩ := number_read sg w (46 :: (p ++ r)) s h0 h1 h2 (fun c r' h => by cases h; decide) e
  have a' : (if atF s 45 = true then (-1 : Int) else 1) = sgV sg := a
  have hw : ¬ (takB dgP (atR s 45)).size = 0 := by rw [size_L, b]; simpa using h1
  have hd : atF (drpB dgP (atR s 45)) 46 = true := by rw [atF_cons c]; rfl
  have ht : L (tl (drpB dgP (atR s 45))) = p ++ r := by rw [L_tl, c]; rfl
  have hp := takeW_app (fun c : UInt8 => dgP c.toNat) p r h5 hr
  have f1 : L (takB dgP (tl (drpB dgP (atR s 45)))) = p := by rw [L_tak, ht]; exact hp.1
  have f2 : L (drpB dgP (tl (drpB dgP (atR s 45)))) = r := by rw [L_drp, ht]; exact hp.2
  have hn : ¬ ((takB dgP (atR s 45)).size > 12 ∨ (takB dgP (tl (drpB dgP (atR s 45)))).size = 0 ∨ (takB dgP (tl (drpB dgP (atR s 45)))).size > 3) := by
    rw [size_L, size_L, b, f1]
    have : p.length ≠ 0 := by simpa using h4
    omega
  unfold rdNumber
  simp only []
  rw [if_neg hw, hd, if_pos rfl, if_neg hn, a', numV_L, L_app, L_app, zer_L, b, f1, size_L, f1]
  have : drpB dgP (tl (drpB dgP (atR s 45))) = B r := L_inj (by rw [f2, L_B])
  rw [this]
theorem wiQ (c : UInt8) : wiP c.toNat ⟨#[34, 92]⟩ = decide (c.toNat = 34 ∨ c.toNat = 92) := by
  have := allU (fun c : UInt8 => wiP c.toNat ⟨#[34, 92]⟩ == decide (c.toNat = 34 ∨ c.toNat = 92)) (by decide +kernel) c
  exact beq_iff_eq.1 this
theorem le_not (c : UInt8) (h : leP c.toNat = true ∨ (c.toNat : Int) = 42) : ¬ ((c.toNat : Int) = 45 ∨ dgP c.toNat = true) := by
  have := allU (fun c : UInt8 => !(leP c.toNat || decide ((c.toNat : Int) = 42)) || !(decide ((c.toNat : Int) = 45) || dgP c.toNat)) (by decide +kernel) c
  simp only [Bool.or_eq_true, Bool.not_eq_true', Bool.or_eq_false_iff, decide_eq_false_iff_not] at this
  rcases this with ⟨a, b⟩ | ⟨a, b⟩
  · rcases h with h | h
    · rw [h] at a; cases a
    · exact absurd h b
  · rintro (h | h)
    · exact a h
    · rw [h] at b; cases b
theorem num_app (l : List Int) (c : UInt8) (t : List UInt8) (h : L (strOfNums l) = t) : L (strOfNums (l ++ [(c.toNat : Int)])) = t ++ [c] := by
  subst h
  unfold L strOfNums
  simp
theorem q_read : ∀ (q t : List UInt8), QT q t → ∀ (d : Nat) (s : ByteArray) (r : List UInt8) (xs : List Int) (x0 : List UInt8), q.length ≤ d → L s = q ++ r → L (strOfNums xs) = x0 → qF d s xs = some (B (x0 ++ t), B r) := by
  intro q t h
  induction h with
  | stop =>
    intro d s r xs x0 hd e hx
    obtain ⟨d, rfl⟩ : ∃ d', d = d' + 1 := ⟨d - 1, by simp at hd; omega⟩
    have e1 : L s = 34 :: r := e
    rw [qF, if_pos (size_pos e1), bt0 e1, if_pos (by decide)]
    have a1 : strOfNums xs = B (x0 ++ []) := L_inj (by rw [hx, L_B]; simp)
    have a2 : tl s = B r := L_inj (by rw [L_tl, e1, L_B]; rfl)
    rw [a1, a2]
  | plain c q t h1 h2 h3 h4 h ih =>
    intro d s r xs x0 hd e hx
    obtain ⟨d, rfl⟩ : ∃ d', d = d' + 1 := ⟨d - 1, by simp at hd; omega⟩
    have e1 : L s = c :: (q ++ r) := e
    have e2 : L (tl s) = q ++ r := by rw [L_tl, e1]; rfl
    rw [qF, if_pos (size_pos e1), bt0 e1, if_neg (by omega), if_neg (by omega), if_neg (by omega)]
    rw [ih d (tl s) r (xs ++ [(c.toNat : Int)]) (x0 ++ [c]) (by simp at hd; omega) e2 (num_app xs c x0 hx)]
    simp
  | esc c q t h1 h ih =>
    intro d s r xs x0 hd e hx
    obtain ⟨d, rfl⟩ : ∃ d', d = d' + 1 := ⟨d - 1, by simp at hd; omega⟩
    have e1 : L s = 92 :: (c :: (q ++ r)) := e
    have e2 : L (tl s) = c :: (q ++ r) := by rw [L_tl, e1]; rfl
    have e3 : L (tl (tl s)) = q ++ r := by rw [L_tl, e2]; rfl
    have hc : wiP (bt (tl s) 0) ⟨#[34, 92]⟩ = true := by rw [bt0 e2, wiQ]; exact decide_eq_true h1
    rw [qF, if_pos (size_pos e1), bt0 e1, if_neg (by decide), if_neg (by
      rintro (h | h | ⟨_, h⟩)
      · exact absurd h (by decide)
      · exact absurd h (by decide)
      · exact h ⟨size_pos e2, hc⟩), if_pos (by decide), bt0 e2]
    rw [ih d (tl (tl s)) r (xs ++ [(c.toNat : Int)]) (x0 ++ [c]) (by simp at hd; omega) e3 (num_app xs c x0 hx)]
    simp
theorem quoted_read (q t r : List UInt8) (h : QT q t) (s : ByteArray) (e : L s = q ++ r) : rdQuoted s = some ((3, 0, B t), B r) := by
  unfold rdQuoted
  rw [q_read q t h (s.size + 1) s r [] [] (by rw [size_L, e]; simp; omega) e rfl]
  rfl
theorem value_read {u : List UInt8} {n i : Int} {t : List UInt8} (h : VT u n i t) (r : List UInt8) (hr : Ends r) (s : ByteArray) (e : L s = u ++ r) : rdValue s = some ((n, i, B t), B r) := by
  unfold rdValue
  cases h with
  | int sg w h0 h1 h2 h3 =>
    have e' : L s = sg ++ (w ++ r) := by rw [e]; simp
    have hp : 0 < s.size ∧ (bt s 0 = 45 ∨ dgP (bt s 0) = true) := by
      rcases h0 with rfl | rfl
      · obtain ⟨c, w', rfl⟩ := List.exists_cons_of_ne_nil h1
        have e1 : L s = c :: (w' ++ r) := e'
        exact ⟨size_pos e1, Or.inr (by rw [bt0 e1]; exact h2 c (List.mem_cons_self ..))⟩
      · have e1 : L s = 45 :: (w ++ r) := e'
        exact ⟨size_pos e1, Or.inl (by rw [bt0 e1]; rfl)⟩
    rw [if_pos hp.1, if_pos hp.2]
    exact int_read sg w r s h0 h1 h2 h3 (hr.not digU_59) (fun c r' h => (end_ne c (hr c r' h)).1) e'
  | dec sg w p h0 h1 h2 h3 h4 h5 h6 =>
    have e' : L s = sg ++ (w ++ (46 :: (p ++ r))) := by rw [e]; simp
    have hp : 0 < s.size ∧ (bt s 0 = 45 ∨ dgP (bt s 0) = true) := by
      rcases h0 with rfl | rfl
      · obtain ⟨c, w', rfl⟩ := List.exists_cons_of_ne_nil h1
        have e1 : L s = c :: (w' ++ (46 :: (p ++ r))) := e'
        exact ⟨size_pos e1, Or.inr (by rw [bt0 e1]; exact h2 c (List.mem_cons_self ..))⟩
      · have e1 : L s = 45 :: (w ++ (46 :: (p ++ r))) := e'
        exact ⟨size_pos e1, Or.inl (by rw [bt0 e1]; rfl)⟩
    rw [if_pos hp.1, if_pos hp.2]
    exact dec_read sg w p r s h0 h1 h2 h3 h4 h5 h6 (hr.not digU_59) e'
  | tok c w h0 h1 =>
    have e1 : L s = c :: (w ++ r) := e
    have hn := le_not c h0
    rw [if_pos (size_pos e1), bt0 e1, if_neg hn, if_pos h0]
    have k := takeW_app (fun c : UInt8 => tokP c.toNat) (c :: w) r h1 (hr.not tokU_59)
    have a1 : takB tokP s = B (c :: w) := L_inj (by rw [L_tak, e, L_B]; exact k.1)
    have a2 : drpB tokP s = B r := L_inj (by rw [L_drp, e, L_B]; exact k.2)
    rw [a1, a2]
  | quo q t h =>
    have e1 : L s = 34 :: (q ++ r) := e
    rw [if_pos (size_pos e1), bt0 e1, if_neg (by decide), if_neg (by decide +kernel), if_pos (by decide)]
    exact quoted_read q t r h (tl s) (by rw [L_tl, e1]; rfl)
  | byt _ h =>
    have e1 : L s = 58 :: (t ++ (58 :: r)) := by rw [e]; simp
    rw [if_pos (size_pos e1), bt0 e1, if_neg (by decide), if_neg (by decide +kernel), if_neg (by decide), if_pos (by decide)]
    have e2 : L (tl s) = t ++ (58 :: r) := by rw [L_tl, e1]; rfl
    have k := takeW_app (fun c : UInt8 => baP c.toNat) t (58 :: r) h (fun c r' h => by cases h; decide +kernel)
    have a1 : takB baP (tl s) = B t := L_inj (by rw [L_tak, e2, L_B]; exact k.1)
    have a2 : L (drpB baP (tl s)) = 58 :: r := by rw [L_drp, e2]; exact k.2
    have a3 : tl (drpB baP (tl s)) = B r := L_inj (by rw [L_tl, a2, L_B]; rfl)
    unfold rdBytes
    rw [if_pos (by rw [atF_cons a2]; rfl), a1, a3]
  | one =>
    have e1 : L s = 63 :: 49 :: r := e
    have e2 : L (tl s) = 49 :: r := by rw [L_tl, e1]; rfl
    have a3 : tl (tl s) = B r := L_inj (by rw [L_tl, e2, L_B]; rfl)
    rw [if_pos (size_pos e1), bt0 e1, if_neg (by decide), if_neg (by decide +kernel), if_neg (by decide), if_neg (by decide), if_pos (by decide)]
    unfold rdBool
    rw [if_pos (by rw [atF_cons e2]; rfl), a3]; rfl
  | zero =>
    have e1 : L s = 63 :: 48 :: r := e
    have e2 : L (tl s) = 48 :: r := by rw [L_tl, e1]; rfl
    have a3 : tl (tl s) = B r := L_inj (by rw [L_tl, e2, L_B]; rfl)
    rw [if_pos (size_pos e1), bt0 e1, if_neg (by decide), if_neg (by decide +kernel), if_neg (by decide), if_neg (by decide), if_pos (by decide)]
    unfold rdBool
    rw [if_neg (by rw [atF_cons e2]; decide), if_pos (by rw [atF_cons e2]; rfl), a3]; rfl
end Go.Proofs.YtjdbiicjfpgjkaaGreatDoor.Pl
/- Chapter 5: what the reader has read is such a text; parameters; whole items. -/
namespace Go.Proofs.YtjdbiicjfpgjkaaGreatDoor.Pl
open Go.RowKit Go.Proofs.YtjdbiicjfpgjkaaGreatDoor.Q Go.Proofs.YtjdbiicjfpgjkaaGreatDoor.Sf Go.Proofs.YtjdbiicjfpgjkaaGreatDoorW.PrintWords Go.Proofs.YtjdbiicjfpgjkaaGreatDoorW.PrintLast
set_option linter.unusedVariables false
set_option linter.unusedSimpArgs false
theorem u_eq {c d : UInt8} (h : (c.toNat : Int) = (d.toNat : Int)) : c = d := UInt8.toNat_inj.1 (by omega)
theorem cons_of (s : ByteArray) (h : 0 < s.size) : ∃ c r, L s = c :: r := by
  cases e : L s with
  | nil => exact absurd h (size_nil e)
  | cons c r => exact ⟨c, r, rfl⟩
theorem qt_inv : ∀ (d : Nat) (s : ByteArray) (xs : List Int) (o t : ByteArray), qF d s xs = some (o, t) → ∃ q m, L s = q ++ L t ∧ QT q m ∧ L o = L (strOfNums xs) ++ m
  | 0, s, xs, o, t, h => by rw [qF] at h; cases h
  | d + 1, s, xs, o, t, h => by
    rw [qF] at h
    by_cases h0 : 0 < s.size
    · rw [if_pos h0] at h
      obtain ⟨c, r, e⟩ := cons_of s h0
      have et : L (tl s) = r := by rw [L_tl, e]; rfl
      rw [bt0 e] at h
      by_cases c34 : (c.toNat : Int) = 34
      · rw [if_pos c34] at h
        obtain ⟨rfl, rfl⟩ := Prod.mk.inj (Option.some.inj h)
        have : c = 34 := u_eq c34
        subst this
        exact ⟨[34], [], by rw [et, e]; rfl, QT.stop, by simp⟩
      · rw [if_neg c34] at h
        by_cases bad : (c.toNat : Int) < 32 ∨ 126 < (c.toNat : Int) ∨ ((c.toNat : Int) = 92 ∧ ¬ (0 < (tl s).size ∧ wiP (bt (tl s) 0) ⟨#[34, 92]⟩ = true))
        · rw [if_pos bad] at h; cases h
        · rw [if_neg bad] at h
          by_cases c92 : (c.toNat : Int) = 92
          · rw [if_pos c92] at h
            have ok : 0 < (tl s).size ∧ wiP (bt (tl s) 0) ⟨#[34, 92]⟩ = true := Classical.byContradiction fun k => bad (Or.inr (Or.inr ⟨c92, k⟩))
            obtain ⟨c2, r2, e2⟩ := cons_of (tl s) ok.1
            have ok2 := ok.2
            rw [bt0 e2, wiQ] at ok2
            rw [bt0 e2] at h
            obtain ⟨q, m, a1, a2, a3⟩ := qt_inv d _ _ _ _ h
            have e3 : L (tl (tl s)) = r2 := by rw [L_tl, e2]; rfl
            have : c = 92 := u_eq c92
            subst this
            refine ⟨92 :: c2 :: q, c2 :: m, ?_, QT.esc c2 q m (of_decide_eq_true ok2) a2, ?_⟩
            · rw [e3] at a1; rw [e, ← et, e2, a1]; rfl
            · rw [a3, num_app xs c2 _ rfl]; simp
          · rw [if_neg c92] at h
            obtain ⟨q, m, a1, a2, a3⟩ := qt_inv d _ _ _ _ h
            refine ⟨c :: q, c :: m, ?_, QT.plain c q m (by omega) (by omega) (by omega) (by omega) a2, ?_⟩
            · rw [et] at a1; rw [e, a1]; rfl
            · rw [a3, num_app xs c _ rfl]; simp
    · rw [if_neg h0] at h; cases h
theorem quoted_inv {s t : ByteArray} {v : Int × Int × ByteArray} (h : rdQuoted s = some (v, t)) : ∃ q, L s = q ++ L t ∧ QT q (L v.2.2) ∧ v.1 = 3 ∧ v.2.1 = 0 := by
  unfold rdQuoted at h
  obtain ⟨⟨o, t'⟩, hq, hm⟩ := Option.map_eq_some_iff.1 h
  unfold mkQ at hm
  obtain ⟨rfl, rfl⟩ := Prod.mk.inj hm
  obtain ⟨q, m, a1, a2, a3⟩ := qt_inv _ _ _ _ _ hq
  refine ⟨q, a1, ?_, rfl, rfl⟩
  have : L (strOfNums []) = [] := rfl
  rw [this] at a3
  simpa [a3] using a2
theorem number_inv {s t : ByteArray} {v : Int × Int × ByteArray} (h : rdNumber s = some (v, t)) : ∃ u, L s = u ++ L t ∧ VT u v.1 v.2.1 (L v.2.2) := by
  obtain ⟨sg, h0, hs, hg⟩ : ∃ sg : List UInt8, (sg = [] ∨ sg = [45]) ∧ L s = sg ++ L (atR s 45) ∧ (if atF s 45 = true then (-1 : Int) else 1) = sgV sg := by
    unfold atR
    cases e : atF s 45 with
    | false => exact ⟨[], Or.inl rfl, rfl, rfl⟩
    | true =>
      obtain ⟨c, r, e1, e2⟩ := atF_ex e
      have : c = 45 := u_eq e2
      subst this
      exact ⟨[45], Or.inr rfl, by rw [if_pos rfl, L_tl, e1]; rfl, rfl⟩
  unfold rdNumber at h
  simp only [] at h
  rw [hg] at h
  have hw := L_tak dgP (atR s 45)
  have hd := L_drp dgP (atR s 45)
  have hsp := span_split (fun c : UInt8 => dgP c.toNat) (L (atR s 45))
  have hall := tak_all dgP (atR s 45)
  rw [← hw, ← hd] at hsp
  generalize takB dgP (atR s 45) = w at *
  generalize drpB dgP (atR s 45) = s2 at *
  by_cases hw0 : w.size = 0
  · rw [if_pos hw0] at h; cases h
  · rw [if_neg hw0] at h
    have hwn : L w ≠ [] := by rw [size_L] at hw0; intro e; rw [e] at hw0; exact hw0 rfl
    cases e : atF s2 46 with
    | true =>
      rw [e, if_pos rfl] at h
      obtain ⟨c, r, e1, e2⟩ := atF_ex e
      have : c = 46 := u_eq e2
      subst this
      have hw2 := L_tak dgP (tl s2)
      have hd2 := L_drp dgP (tl s2)
      have hsp2 := span_split (fun c : UInt8 => dgP c.toNat) (L (tl s2))
      have hall2 := tak_all dgP (tl s2)
      rw [← hw2, ← hd2] at hsp2
      have et : L (tl s2) = r := by rw [L_tl, e1]; rfl
      generalize takB dgP (tl s2) = p at *
      generalize drpB dgP (tl s2) = s3 at *
      by_cases hb : w.size > 12 ∨ p.size = 0 ∨ p.size > 3
      · rw [if_pos hb] at h; cases h
      · rw [if_neg hb] at h
        obtain ⟨rfl, rfl⟩ := Prod.mk.inj (Option.some.inj h)
        simp only [size_L] at hb
        refine ⟨sg ++ (L w ++ 46 :: L p), ?_, ?_⟩
        · rw [hs, ← hsp, e1, ← et, ← hsp2]; simp
        · have := VT.dec sg (L w) (L p) h0 hwn hall (by omega) (by intro k; rw [k] at hb; exact hb (Or.inr (Or.inl rfl))) hall2 (by omega)
          rw [numV_L, L_app, L_app, zer_L, size_L]
          exact this
    | false =>
      rw [e, if_neg (by decide)] at h
      by_cases hb : w.size > 15
      · rw [if_pos hb] at h; cases h
      · rw [if_neg hb] at h
        obtain ⟨rfl, rfl⟩ := Prod.mk.inj (Option.some.inj h)
        rw [size_L] at hb
        exact ⟨sg ++ L w, by rw [hs, ← hsp]; simp, VT.int sg (L w) h0 hwn hall (by omega)⟩
theorem le_tok (c : UInt8) (h : leP c.toNat = true ∨ (c.toNat : Int) = 42) : toU c = true := by
  have := allU (fun c : UInt8 => !(leP c.toNat || decide ((c.toNat : Int) = 42)) || toU c) (by decide +kernel) c
  simp only [Bool.or_eq_true, Bool.not_eq_true', Bool.or_eq_false_iff, decide_eq_false_iff_not] at this
  rcases this with ⟨a, b⟩ | a
  · rcases h with h | h
    · rw [h] at a; cases a
    · exact absurd h b
  · exact a
theorem value_inv {s t : ByteArray} {v : Int × Int × ByteArray} (h : rdValue s = some (v, t)) : ∃ u, L s = u ++ L t ∧ VT u v.1 v.2.1 (L v.2.2) := by
  unfold rdValue at h
  by_cases h0 : 0 < s.size
  · rw [if_pos h0] at h
    obtain ⟨c, r, e⟩ := cons_of s h0
    have et : L (tl s) = r := by rw [L_tl, e]; rfl
    rw [bt0 e] at h
    by_cases c1 : (c.toNat : Int) = 45 ∨ dgP c.toNat = true
    · rw [if_pos c1] at h; exact number_inv h
    rw [if_neg c1] at h
    by_cases c2 : leP c.toNat = true ∨ (c.toNat : Int) = 42
    · rw [if_pos c2] at h
      obtain ⟨rfl, rfl⟩ := Prod.mk.inj (Option.some.inj h)
      have hw := L_tak tokP s
      have hd := L_drp tokP s
      have hsp := span_split (fun c : UInt8 => tokP c.toNat) (L s)
      rw [← hw, ← hd] at hsp
      refine ⟨L (takB tokP s), hsp.symm, ?_⟩
      have hc : L (takB tokP s) = c :: r.takeWhile (fun c => tokP c.toNat) := by
        rw [hw, e, List.takeWhile_cons, show tokP c.toNat = true from le_tok c c2]; simp
      have hall : ∀ x ∈ L (takB tokP s), toU x = true := tak_all tokP s
      show VT (L (takB tokP s)) 4 0 (L (takB tokP s))
      rw [hc] at hall ⊢
      exact VT.tok c _ c2 hall
    rw [if_neg c2] at h
    by_cases c3 : (c.toNat : Int) = 34
    · rw [if_pos c3] at h
      have : c = 34 := u_eq c3
      subst this
      obtain ⟨q, a1, a2, a3, a4⟩ := quoted_inv h
      refine ⟨34 :: q, by rw [e, ← et, a1]; rfl, ?_⟩
      rw [a3, a4]; exact VT.quo q _ a2
    rw [if_neg c3] at h
    by_cases c4 : (c.toNat : Int) = 58
    · rw [if_pos c4] at h
      have : c = 58 := u_eq c4
      subst this
      unfold rdBytes at h
      have hw := L_tak baP (tl s)
      have hd := L_drp baP (tl s)
      have hsp := span_split (fun c : UInt8 => baP c.toNat) (L (tl s))
      have hall : ∀ x ∈ L (takB baP (tl s)), baU x = true := tak_all baP (tl s)
      rw [← hw, ← hd] at hsp
      cases e5 : atF (drpB baP (tl s)) 58 with
      | false => rw [e5, if_neg (by decide)] at h; cases h
      | true =>
        rw [e5, if_pos rfl] at h
        obtain ⟨rfl, rfl⟩ := Prod.mk.inj (Option.some.inj h)
        obtain ⟨c', r', f1, f2⟩ := atF_ex e5
        have : c' = 58 := u_eq f2
        subst this
        refine ⟨58 :: (L (takB baP (tl s)) ++ [58]), ?_, VT.byt _ hall⟩
        rw [L_tl, f1, e, ← et, ← hsp, f1]; simp
    rw [if_neg c4] at h
    by_cases c5 : (c.toNat : Int) = 63
    · rw [if_pos c5] at h
      have : c = 63 := u_eq c5
      subst this
      unfold rdBool at h
      cases e5 : atF (tl s) 49 with
      | true =>
        rw [e5, if_pos rfl] at h
        obtain ⟨rfl, rfl⟩ := Prod.mk.inj (Option.some.inj h)
        obtain ⟨c', r', f1, f2⟩ := atF_ex e5
        have : c' = 49 := u_eq f2
        subst this
        exact ⟨[63, 49], by rw [L_tl, f1, e, ← et, f1]; rfl, VT.one⟩
      | false =>
        rw [e5, if_neg (by decide)] at h
        cases e6 : atF (tl s) 48 with
        | true =>
          rw [e6, if_pos rfl] at h
          obtain ⟨rfl, rfl⟩ := Prod.mk.inj (Option.some.inj h)
          obtain ⟨c', r', f1, f2⟩ := atF_ex e6
          have : c' = 48 := u_eq f2
          subst this
          exact ⟨[63, 48], by rw [L_tl, f1, e, ← et, f1]; rfl, VT.zero⟩
        | false => rw [e6, if_neg (by decide)] at h; cases h
    · rw [if_neg c5] at h; cases h
  · rw [if_neg h0] at h; cases h
theorem key_first (c : UInt8) (h : smP c.toNat = true ∨ (c.toNat : Int) = 42) : keU c = true ∧ c ≠ 32 := by
  have := allU (fun c : UInt8 => !(smP c.toNat || decide ((c.toNat : Int) = 42)) || (keU c && !decide (c = 32))) (by decide +kernel) c
  simp only [Bool.or_eq_true, Bool.not_eq_true', Bool.or_eq_false_iff, decide_eq_false_iff_not, Bool.and_eq_true] at this
  rcases this with ⟨a, b⟩ | a
  · rcases h with h | h
    · rw [h] at a; cases a
    · exact absurd h b
  · exact a
theorem key_read (k r : List UInt8) (hk : KT k) (hr : ∀ c r', r = c :: r' → keU c = false) (s : ByteArray) (e : L s = k ++ r) : rdKey s = some (B k, B r) := by
  obtain ⟨c, w, rfl, h1, h2⟩ := hk
  have e1 : L s = c :: (w ++ r) := e
  unfold rdKey
  rw [if_pos ⟨size_pos e1, by rw [bt0 e1]; exact h1⟩]
  have k := takeW_app (fun c : UInt8 => keP c.toNat) (c :: w) r h2 hr
  have a1 : takB keP s = B (c :: w) := L_inj (by rw [L_tak, e, L_B]; exact k.1)
  have a2 : drpB keP s = B r := L_inj (by rw [L_drp, e, L_B]; exact k.2)
  rw [a1, a2]
theorem key_inv {s k t : ByteArray} (h : rdKey s = some (k, t)) : L s = L k ++ L t ∧ KT (L k) := by
  unfold rdKey at h
  by_cases h0 : 0 < s.size ∧ (smP (bt s 0) = true ∨ bt s 0 = 42)
  · rw [if_pos h0] at h
    obtain ⟨rfl, rfl⟩ := Prod.mk.inj (Option.some.inj h)
    obtain ⟨c, r, e⟩ := cons_of s h0.1
    have h1 := h0.2
    rw [bt0 e] at h1
    have hw := L_tak keP s
    have hd := L_drp keP s
    have hsp := span_split (fun c : UInt8 => keP c.toNat) (L s)
    rw [← hw, ← hd] at hsp
    have hall : ∀ x ∈ L (takB keP s), keU x = true := tak_all keP s
    refine ⟨hsp.symm, c, r.takeWhile (fun c => keP c.toNat), ?_, h1, hall⟩
    rw [hw, e, List.takeWhile_cons, show keP c.toNat = true from (key_first c h1).1]; simp
  · rw [if_neg h0] at h; cases h
/-- What text turns what parameters to what. -/
inductive PT : List UInt8 → List S60 → List S60 → Prop
  | nil (l : List S60) : PT [] l l
  | flag (b k u : List UInt8) (l l1 : List S60) (hb : ∀ c ∈ b, c = 32) (hk : KT k) (h : PT u (withP (B k) l ⟨B k, 6, 1, ⟨#[]⟩⟩) l1) : PT (59 :: (b ++ (k ++ u))) l l1
  | val (b k w u : List UInt8) (n i : Int) (t : List UInt8) (l l1 : List S60) (hb : ∀ c ∈ b, c = 32) (hk : KT k) (hv : VT w n i t) (h : PT u (withP (B k) l ⟨B k, n, i, B t⟩) l1) : PT (59 :: (b ++ (k ++ (61 :: (w ++ u))))) l l1
theorem PT.ends {u : List UInt8} {l l1 : List S60} (h : PT u l l1) : Ends u := by
  cases h with
  | nil => exact Ends.nil
  | flag => exact Ends.semi _
  | val => exact Ends.semi _
theorem spaces (b k r : List UInt8) (hb : ∀ c ∈ b, c = 32) (hk : KT k) (s : ByteArray) (e : L s = b ++ (k ++ r)) : L (drpB spP s) = k ++ r := by
  obtain ⟨c, w, rfl, h1, h2⟩ := hk
  rw [L_drp, e]
  refine (takeW_app (fun c : UInt8 => spP c.toNat) b ((c :: w) ++ r) (fun x hx => by rw [hb x hx]; decide) (fun c' r' h => ?_)).2
  obtain ⟨rfl, _⟩ := List.cons.inj h
  have := (key_first c h1).2
  unfold spP
  rw [beq_eq_false_iff_ne]
  intro k
  exact this (u_eq k)
theorem all_of_take {q : UInt8 → Bool} (l : List UInt8) : ∀ c ∈ l.takeWhile q, q c = true := fun c hc => mem_takeWhile q l c hc
theorem pt_inv : ∀ (d : Nat) (s : ByteArray) (l l1 : List S60) (t : ByteArray), pF d s l = some (l1, t) → ∃ u, L s = u ++ L t ∧ PT u l l1 ∧ atF t 59 = false
  | 0, s, l, l1, t, h => by rw [pF] at h; cases h
  | d + 1, s, l, l1, t, h => by
    rw [pF] at h
    cases e : atF s 59 with
    | false =>
      rw [e, if_neg (by decide)] at h
      obtain ⟨rfl, rfl⟩ := Prod.mk.inj (Option.some.inj h)
      exact ⟨[], rfl, PT.nil _, e⟩
    | true =>
      rw [e, if_pos rfl] at h
      obtain ⟨c, r, e1, e2⟩ := atF_ex e
      have : c = 59 := u_eq e2
      subst this
      have et : L (tl s) = r := by rw [L_tl, e1]; rfl
      obtain ⟨⟨k, t1⟩, hk, h⟩ := Option.bind_eq_some_iff.1 h
      simp only [] at h
      obtain ⟨a1, a2⟩ := key_inv hk
      have hsp := span_split (fun c : UInt8 => spP c.toNat) (L (tl s))
      rw [← L_drp spP (tl s), a1] at hsp
      have hb : ∀ c ∈ (L (tl s)).takeWhile (fun c : UInt8 => spP c.toNat), c = 32 := by
        intro c hc
        have := all_of_take (q := fun c : UInt8 => spP c.toNat) (L (tl s)) c hc
        unfold spP at this
        exact u_eq (beq_iff_eq.1 this)
      generalize List.takeWhile (fun c : UInt8 => spP c.toNat) (L (tl s)) = bl at hsp hb
      cases e3 : atF t1 61 with
      | true =>
        rw [e3, if_pos rfl] at h
        obtain ⟨⟨v, t2⟩, hv, h⟩ := Option.bind_eq_some_iff.1 h
        obtain ⟨c', r', f1, f2⟩ := atF_ex e3
        have : c' = 61 := u_eq f2
        subst this
        have et1 : L (tl t1) = r' := by rw [L_tl, f1]; rfl
        obtain ⟨w, b1, b2⟩ := value_inv hv
        obtain ⟨u, g1, g2, g3⟩ := pt_inv d _ _ _ _ h
        simp only [] at g1 g2
        refine ⟨59 :: (bl ++ (L k ++ (61 :: (w ++ u)))), ?_, PT.val _ _ w u v.1 v.2.1 (L v.2.2) _ _ hb a2 b2 (by rw [B_L, B_L]; exact g2), g3⟩
        rw [e1, ← et, ← hsp, f1, ← et1, b1, g1]
        simp
      | false =>
        rw [e3, if_neg (by decide)] at h
        obtain ⟨u, g1, g2, g3⟩ := pt_inv d _ _ _ _ h
        refine ⟨59 :: (bl ++ (L k ++ u)), ?_, PT.flag _ _ u _ _ hb a2 (by rw [B_L]; exact g2), g3⟩
        rw [e1, ← et, ← hsp, g1]
        simp
def Last0 (u : List UInt8) : Prop := ∃ u' c, u = u' ++ [c] ∧ c ≠ 32
theorem Last0.cons {u : List UInt8} (h : Last0 u) (a : List UInt8) : Last0 (a ++ u) := by obtain ⟨u', c, rfl, hc⟩ := h; exact ⟨a ++ u', c, by simp, hc⟩
theorem last_all (q : UInt8 → Bool) (hq : q 32 = false) (w : List UInt8) (hw : w ≠ []) (h : ∀ c ∈ w, q c = true) : Last0 w := by
  refine ⟨w.dropLast, w.getLast hw, (List.dropLast_concat_getLast hw).symm, fun e => ?_⟩
  have := h _ (List.getLast_mem hw)
  rw [e, hq] at this; cases this
theorem qt_last {q t : List UInt8} (h : QT q t) : Last0 q := by
  induction h with
  | stop => exact ⟨[], 34, rfl, by decide⟩
  | plain c q t _ _ _ _ _ ih => exact ih.cons [c]
  | esc c q t _ _ ih => exact ih.cons [92, c]
theorem vt_last {u : List UInt8} {n i : Int} {t : List UInt8} (h : VT u n i t) : Last0 u := by
  cases h with
  | int sg w h0 h1 h2 h3 => exact (last_all dgU (by decide) w h1 h2).cons sg
  | dec sg w p h0 h1 h2 h3 h4 h5 h6 => exact ((last_all dgU (by decide) p h4 h5).cons (sg ++ (w ++ [46]))) |> fun h => by simpa using h
  | tok c w h0 h1 => exact last_all toU (by decide +kernel) _ (by simp) h1
  | quo q t h => exact (qt_last h).cons [34]
  | byt h => exact ⟨58 :: t, 58, by simp, by decide⟩
  | one => exact ⟨[63], 49, rfl, by decide⟩
  | zero => exact ⟨[63], 48, rfl, by decide⟩
theorem vt_first {u : List UInt8} {n i : Int} {t : List UInt8} (h : VT u n i t) : ∃ c u', u = c :: u' ∧ c ≠ 32 := by
  cases h with
  | int sg w h0 h1 h2 h3 =>
    rcases h0 with rfl | rfl
    · obtain ⟨c, w', rfl⟩ := List.exists_cons_of_ne_nil h1
      exact ⟨c, w', rfl, fun e => by have := h2 c (List.mem_cons_self ..); subst e; revert this; decide⟩
    · exact ⟨45, w, rfl, by decide⟩
  | dec sg w p h0 h1 h2 h3 h4 h5 h6 =>
    rcases h0 with rfl | rfl
    · obtain ⟨c, w', rfl⟩ := List.exists_cons_of_ne_nil h1
      exact ⟨c, w' ++ 46 :: p, rfl, fun e => by have := h2 c (List.mem_cons_self ..); subst e; revert this; decide⟩
    · exact ⟨45, w ++ 46 :: p, rfl, by decide⟩
  | tok c w h0 h1 => exact ⟨c, w, rfl, fun e => by have := h1 c (List.mem_cons_self ..); subst e; revert this; decide +kernel⟩
  | quo q t h => exact ⟨34, q, rfl, by decide⟩
  | byt h => exact ⟨58, _, rfl, by decide⟩
  | one => exact ⟨63, _, rfl, by decide⟩
  | zero => exact ⟨63, _, rfl, by decide⟩
theorem kt_last {k : List UInt8} (h : KT k) : Last0 k := by
  obtain ⟨c, w, rfl, h1, h2⟩ := h
  exact last_all keU (by decide +kernel) _ (by simp) h2
theorem pt_last {u : List UInt8} {l l1 : List S60} (h : PT u l l1) : u = [] ∨ Last0 u := by
  induction h with
  | nil => exact Or.inl rfl
  | flag b k u l l1 hb hk h ih =>
    refine Or.inr ?_
    rcases ih with rfl | ih
    · have := (kt_last hk).cons (59 :: b); simpa using this
    · have := ih.cons (59 :: (b ++ k)); simpa using this
  | val b k w u n i t l l1 hb hk hv h ih =>
    refine Or.inr ?_
    rcases ih with rfl | ih
    · have := (vt_last hv).cons (59 :: (b ++ (k ++ [61]))); simpa using this
    · have := ih.cons (59 :: (b ++ (k ++ (61 :: w)))); simpa using this
/-- What text tells what item. -/
def IT (u : List UInt8) (n i : Int) (t : List UInt8) (l : List S60) : Prop := ∃ a b, u = a ++ b ∧ VT a n i t ∧ PT b [] l
theorem next_inv {s : ByteArray} {v : Int × Int × ByteArray} {l : List S60} {t : ByteArray} (h : rdNext s = some (v, l, t)) : ∃ u, L s = u ++ L t ∧ IT u v.1 v.2.1 (L v.2.2) l ∧ atF t 59 = false := by
  unfold rdNext at h
  obtain ⟨⟨v', t1⟩, h1, h⟩ := Option.bind_eq_some_iff.1 h
  obtain ⟨⟨l', t2⟩, h2, h⟩ := Option.bind_eq_some_iff.1 h
  have h := Option.some.inj h
  simp only [Prod.mk.injEq] at h
  obtain ⟨rfl, rfl, rfl⟩ := h
  obtain ⟨a, a1, a2⟩ := value_inv h1
  obtain ⟨b, b1, b2, b3⟩ := pt_inv _ _ _ _ _ h2
  exact ⟨a ++ b, by rw [a1, b1]; simp, ⟨a, b, rfl, a2, b2⟩, b3⟩
theorem trim_len (u : List UInt8) : (Lib.trimB u 32).length ≤ u.length := by
  unfold Lib.trimB Lib.trimLeftB Lib.trimRightB
  have h1 := (List.dropWhile_sublist (fun c : UInt8 => c == 32) (l := (u.reverse.dropWhile (· == 32)).reverse)).length_le
  have h2 := (List.dropWhile_sublist (fun c : UInt8 => c == 32) (l := u.reverse)).length_le
  simp only [List.length_reverse] at h1 h2
  omega
theorem IT.pos {u : List UInt8} {n i : Int} {t : List UInt8} {l : List S60} (h : IT u n i t l) : 0 < u.length := by
  obtain ⟨a, b, rfl, hv, hp⟩ := h
  obtain ⟨c, a', rfl, hc⟩ := vt_first hv
  simp
end Go.Proofs.YtjdbiicjfpgjkaaGreatDoor.Pl
/- Chapter 5: values' text, there and back. -/
namespace Go.Proofs.YtjdbiicjfpgjkaaGreatDoor.Pl
open Go.RowKit Go.Proofs.YtjdbiicjfpgjkaaGreatDoor.Q Go.Proofs.YtjdbiicjfpgjkaaGreatDoor.Sf Go.Proofs.YtjdbiicjfpgjkaaGreatDoorW.PrintWords Go.Proofs.YtjdbiicjfpgjkaaGreatDoorW.PrintLast
set_option linter.unusedVariables false
set_option linter.unusedSimpArgs false
theorem L_toList (s : ByteArray) : s.toList = L s := Lib.toList_data s
end Go.Proofs.YtjdbiicjfpgjkaaGreatDoor.Pl
/- Chapter 5: an item is the same as itself; how many parameters a text has. -/
namespace Go.Proofs.YtjdbiicjfpgjkaaGreatDoor.Pl
open Go.RowKit Go.Proofs.YtjdbiicjfpgjkaaGreatDoor.Q Go.Proofs.YtjdbiicjfpgjkaaGreatDoor.Sf Go.Proofs.YtjdbiicjfpgjkaaGreatDoorW.PrintWords Go.Proofs.YtjdbiicjfpgjkaaGreatDoorW.PrintLast
set_option linter.unusedVariables false
set_option linter.unusedSimpArgs false
theorem wrap_next (j : Nat) (h : j ≤ 100000) : wrap64 ((j : Int) + 1) = ((j + 1 : Nat) : Int) := by
  unfold wrap64; omega
theorem same_loop (l : List S60) (hl : l.length ≤ 100000) : ∀ (m j k : Nat), j + m = l.length → m < k → glacisref05_SameParams.l0 k l l (j : Int) = some true
  | 0, j, k, hm, hk => by
    obtain ⟨k, rfl⟩ : ∃ k', k = k' + 1 := ⟨k - 1, by omega⟩
    rw [glacisref05_SameParams.l0, if_neg (by omega)]
  | m + 1, j, k, hm, hk => by
    obtain ⟨k, rfl⟩ : ∃ k', k = k' + 1 := ⟨k - 1, by omega⟩
    rw [glacisref05_SameParams.l0, if_pos (by omega), if_pos (by omega), if_pos (by omega), if_neg (by simp), wrap_next j (by omega)]
    exact same_loop l hl m (j + 1) k (by omega) (by omega)
theorem same_refl (l : List S60) (hl : l.length ≤ 100000) (n i : Int) (t : ByteArray) (k : Nat) (hk : l.length < k) : glacisref05_Same.f k n i t l n i t l = some true := by
  unfold glacisref05_Same.f glacisref05_SameParams.f
  rw [if_pos rfl]
  have := same_loop l hl l.length 0 k (by omega) hk
  rw [show ((0 : Nat) : Int) = 0 from rfl] at this
  rw [this]
  simp only [Option.bind_some]
  rw [if_pos trivial, if_pos trivial, if_pos trivial]
  simp
theorem pt_count {u : List UInt8} {l l1 : List S60} (h : PT u l l1) : l1.length ≤ l.length + u.length := by
  induction h with
  | nil => simp
  | flag b k u l l1 hb hk h ih =>
    have := withP_len (B k) l ⟨B k, 6, 1, ⟨#[]⟩⟩
    simp only [List.length_cons, List.length_append]; omega
  | val b k w u n i t l l1 hb hk hv h ih =>
    have := withP_len (B k) l ⟨B k, n, i, B t⟩
    simp only [List.length_cons, List.length_append]; omega
theorem it_count {u : List UInt8} {n i : Int} {t : List UInt8} {l : List S60} (h : IT u n i t l) : l.length ≤ u.length := by
  obtain ⟨a, b, rfl, hv, hp⟩ := h
  have := pt_count hp
  simp at this ⊢; omega
end Go.Proofs.YtjdbiicjfpgjkaaGreatDoor.Pl
/- Chapter 5: what the document's own reader gives is what the program's reader gives. -/
namespace Go.Proofs.YtjdbiicjfpgjkaaGreatDoor.Pl
open Go.RowKit Go.Proofs.YtjdbiicjfpgjkaaGreatDoor.Q Go.Proofs.YtjdbiicjfpgjkaaGreatDoor.Sf Go.Proofs.YtjdbiicjfpgjkaaGreatDoorW.PrintWords Go.Proofs.YtjdbiicjfpgjkaaGreatDoorW.PrintLast
set_option linter.unusedVariables false
set_option linter.unusedSimpArgs false
theorem L_ext0 (s : ByteArray) (a : Nat) : L (s.extract 0 a) = (L s).take a := by
  unfold L
  rw [Lib.extract_data]; simp
theorem size_tl (s : ByteArray) : (tl s).size = s.size - 1 := by unfold tl; rw [ByteArray.size_extract]; omega
end Go.Proofs.YtjdbiicjfpgjkaaGreatDoor.Pl
/- Chapter 5: the document's own reader: parameters, items, fields. -/
namespace Go.Proofs.YtjdbiicjfpgjkaaGreatDoor.Pl
open Go.RowKit Go.Proofs.YtjdbiicjfpgjkaaGreatDoor.Q Go.Proofs.YtjdbiicjfpgjkaaGreatDoor.Sf Go.Proofs.YtjdbiicjfpgjkaaGreatDoorW.PrintWords Go.Proofs.YtjdbiicjfpgjkaaGreatDoorW.PrintLast
set_option linter.unusedVariables false
set_option linter.unusedSimpArgs false
theorem toList_inj {a b : ByteArray} : a.toList = b.toList ↔ a = b := ⟨fun h => L_inj (by rw [← L_toList, ← L_toList, h]), fun h => by rw [h]⟩
def refP (o : Option (List S60 × ByteArray)) : List S60 × ByteArray × Int := match o with | some (l, t) => (l, t, 0) | none => ([], ⟨#[]⟩, 50)
def refN (o : Option ((Int × Int × ByteArray) × List S60 × ByteArray)) : Int × Int × ByteArray × List S60 × ByteArray × Int := match o with | some (v, l, t) => (v.1, v.2.1, v.2.2, l, t, 0) | none => (0, 0, ⟨#[]⟩, [], ⟨#[]⟩, 50)
end Go.Proofs.YtjdbiicjfpgjkaaGreatDoor.Pl
/- Chapter 6: awake's calls, evaluated. -/
namespace Go.Proofs.YtjdbiicjfpgjkaaGreatDoor.Pl
open Go.RowKit Go.Proofs.YtjdbiicjfpgjkaaGreatDoor.Q Go.Proofs.YtjdbiicjfpgjkaaGreatDoor.Sf Go.Proofs.YtjdbiicjfpgjkaaGreatDoorW.PrintWords Go.Proofs.YtjdbiicjfpgjkaaGreatDoorW.PrintLast
set_option linter.unusedVariables false
set_option linter.unusedSimpArgs false
set_option maxRecDepth 100000
def la6 : List S34 := [⟨⟨#[]⟩, false, ⟨4, 0, ⟨#[97]⟩, []⟩, [], []⟩, ⟨⟨#[]⟩, true, ⟨0, 0, ⟨#[]⟩, []⟩, [⟨4, 0, ⟨#[98]⟩, []⟩, ⟨4, 0, ⟨#[99]⟩, []⟩], [⟨⟨#[100]⟩, 6, 1, ⟨#[]⟩⟩]⟩, ⟨⟨#[]⟩, false, ⟨3, 0, ⟨#[101]⟩, []⟩, [], []⟩]
def ld6 : List S34 := [⟨⟨#[97]⟩, true, ⟨0, 0, ⟨#[]⟩, []⟩, [⟨4, 0, ⟨#[120]⟩, []⟩], []⟩, ⟨⟨#[98]⟩, false, ⟨6, 1, ⟨#[]⟩, []⟩, [], []⟩]
theorem list_c : sfield_List.f 20 (⟨#[97, 44]⟩ : ByteArray) = some ([], 50) := by kernel_rfl
theorem list_a : sfield_List.f 20 (⟨#[97, 44, 32, 40, 98, 32, 99, 41, 59, 100, 32, 44, 32, 34, 101, 34]⟩ : ByteArray) = some (la6, 0) := by kernel_rfl
theorem dict_a : sfield_Dict.f 20 (⟨#[97, 61, 49, 44, 32, 98, 44, 32, 97, 61, 40, 120, 41]⟩ : ByteArray) = some (ld6, 0) := by kernel_rfl
theorem dictT_a : sfield_DictText.f 20 ld6 = some (⟨#[97, 61, 40, 120, 41, 44, 32, 98]⟩, 0) := by kernel_rfl
theorem awake6_20 : glacislaw06_awake.f 20 = some true := by
  unfold glacislaw06_awake.f
  rw [list_a, Option.bind_some, dict_a, Option.bind_some]
  show ((sfield_DictText.f 20 ld6).bind fun _ => _) = _
  rw [dictT_a, Option.bind_some, list_c, Option.bind_some]
  repeat rw [if_pos (by first | decide | rfl | (rw [Lib.toList_data]; rfl) | (rw [Lib.toList_data]))]
  rfl
theorem up6 {α : Type} {f : Nat → Option α} (hm : ∀ k, LeO (f k) (f (k + 1))) {k0 : Nat} {r : α} (h : f k0 = some r) : ∀ k, k0 ≤ k → f k = some r := by
  intro k hk
  induction k with
  | zero => obtain rfl : k0 = 0 := by omega
            exact h
  | succ k ih =>
    rcases Nat.lt_or_ge k k0 with c | c
    · obtain rfl : k0 = k + 1 := by omega
      exact h
    · exact hm k r (ih c)
theorem awake6 (k : Nat) (hk : 20 ≤ k) : glacislaw06_awake.f k = some true := up6 glacislaw06_awake.mono awake6_20 k hk
end Go.Proofs.YtjdbiicjfpgjkaaGreatDoor.Pl
/- Chapter 6: blanks, prefixes, as both readers spell them. -/
namespace Go.Proofs.YtjdbiicjfpgjkaaGreatDoor.Pl
open Go.RowKit Go.Proofs.YtjdbiicjfpgjkaaGreatDoor.Q Go.Proofs.YtjdbiicjfpgjkaaGreatDoor.Sf Go.Proofs.YtjdbiicjfpgjkaaGreatDoorW.PrintWords Go.Proofs.YtjdbiicjfpgjkaaGreatDoorW.PrintLast
set_option linter.unusedVariables false
set_option linter.unusedSimpArgs false
def wsP (c : Int) : Bool := c == 32 || c == 9
theorem eq_of_all (c : UInt8) : [(32 : UInt8)].contains c = spP c.toNat := by
  have := allU (fun c => decide ([(32 : UInt8)].contains c = spP c.toNat)) (by decide +kernel) c
  exact of_decide_eq_true this
theorem eq_of_all2 (c : UInt8) : [(32 : UInt8), 9].contains c = wsP c.toNat := by
  have := allU (fun c => decide ([(32 : UInt8), 9].contains c = wsP c.toNat)) (by decide +kernel) c
  exact of_decide_eq_true this
theorem trim1 (s : ByteArray) : trimLBA s ⟨#[32]⟩ = drpB spP s := by
  apply L_inj
  rw [L_drp]
  show ((⟨(Lib.trimLeftS (L s) [32]).toArray⟩ : ByteArray)).data.toList = _
  simp only [Lib.trimLeftS]
  congr 1
  funext c
  exact eq_of_all c
theorem trim2 (s : ByteArray) : trimLBA s ⟨#[32, 9]⟩ = drpB wsP s := by
  apply L_inj
  rw [L_drp]
  show ((⟨(Lib.trimLeftS (L s) [32, 9]).toArray⟩ : ByteArray)).data.toList = _
  simp only [Lib.trimLeftS]
  congr 1
  funext c
  exact eq_of_all2 c
theorem trimL1_f (s : ByteArray) (hs : s.size ≤ 281474976710656) : strings_TrimLeft.f s ⟨#[32]⟩ = some (drpB spP s) := by
  unfold strings_TrimLeft.f
  rw [if_pos ⟨.inl rfl, hs⟩, trim1]
theorem trimL2_f (s : ByteArray) (hs : s.size ≤ 281474976710656) : strings_TrimLeft.f s ⟨#[32, 9]⟩ = some (drpB wsP s) := by
  unfold strings_TrimLeft.f
  rw [if_pos ⟨.inr rfl, hs⟩, trim2]
theorem cut_f (s : ByteArray) (n : UInt8) : strings_CutPrefix.f s ⟨#[n]⟩ = some (if atF s n.toNat = true then (tl s, true) else (s, false)) := by
  unfold strings_CutPrefix.f stringslite_CutPrefix.f stringslite_HasPrefix.f
  have h1 : (⟨#[n]⟩ : ByteArray).size = 1 := rfl
  by_cases hz : 0 < s.size
  · obtain ⟨c, r, hc⟩ := cons_of s hz
    have e1 : (s.extract 0 1).toList = [c] := by rw [L_toList, L_ext0, hc]; rfl
    have e2 : (⟨#[n]⟩ : ByteArray).toList = [n] := by rw [L_toList]; rfl
    rw [if_pos (by rw [h1]; omega), if_pos (by rw [h1]; omega), if_pos (by rw [h1]; omega)]
    show ((some ((s.extract 0 1).toList == (⟨#[n]⟩ : ByteArray).toList)).bind _).bind _ = _
    rw [e1, e2, atF_cons hc]
    by_cases h : c = n
    · subst h
      simp only [Option.bind_some, beq_self_eq_true, if_true, decide_true]
      rw [if_pos (by rw [h1]; omega), if_pos (by rw [h1]; omega)]
      rfl
    · have h2 : ¬ ((c.toNat : Int) = (n.toNat : Int)) := fun e => h (u_eq e)
      have h3 : ([c] == [n]) = false := by simp [h]
      simp only [Option.bind_some, h3, h2, decide_false]
      rfl
  · have h0 : s.size = 0 := by omega
    have h2 : atF s n.toNat = false := decide_eq_false (fun h => hz h.1)
    rw [if_neg (by rw [h1]; omega), h2]
    rfl
theorem drp_size (p : Int → Bool) (s : ByteArray) : (drpB p s).size ≤ s.size := by
  unfold drpB
  rw [ByteArray.size_extract]
  omega
end Go.Proofs.YtjdbiicjfpgjkaaGreatDoor.Pl
/- Chapter 6: a member, as both readers read it. -/
namespace Go.Proofs.YtjdbiicjfpgjkaaGreatDoor.Pl
open Go.RowKit Go.Proofs.YtjdbiicjfpgjkaaGreatDoor.Q Go.Proofs.YtjdbiicjfpgjkaaGreatDoor.Sf Go.Proofs.YtjdbiicjfpgjkaaGreatDoorW.PrintWords Go.Proofs.YtjdbiicjfpgjkaaGreatDoorW.PrintLast
set_option linter.unusedVariables false
set_option linter.unusedSimpArgs false
def itm (v : Int × Int × ByteArray) (l : List S60) : S31 := ⟨v.1, v.2.1, v.2.2, l⟩
def mIn (its : List S31) (l : List S60) : S34 := ⟨⟨#[]⟩, true, ⟨0, 0, ⟨#[]⟩, []⟩, its, l⟩
def mIt (x : S31) : S34 := ⟨⟨#[]⟩, false, x, [], []⟩
/-- Items between brackets, behind the first one. -/
def rdInner : Nat → ByteArray → List S31 → Option ((List S31 × List S60) × ByteArray)
  | 0, _, _ => none
  | d + 1, s, its => if atF (drpB spP s) 41 = true then (rdParams (tl (drpB spP s))).bind fun p => some ((its, p.1), p.2)
    else (rdNext (drpB spP s)).bind fun x => if its ≠ [] ∧ drpB spP s = s then none else rdInner d x.2.2 (its ++ [itm x.1 x.2.1])
def rdMember (s : ByteArray) : Option (S34 × ByteArray) :=
  if atF s 40 = true then (rdInner s.size (tl s) []).bind fun x => some (mIn x.1.1 x.1.2, x.2) else (rdNext s).bind fun x => some (mIt (itm x.1 x.2.1), x.2.2)
def rdKeyed (s : ByteArray) : Option (S34 × ByteArray) :=
  (rdKey s).bind fun k => if atF k.2 61 = true then (rdMember (tl k.2)).bind fun x => some ({ x.1 with f0 := k.1 }, x.2)
    else (rdParams k.2).bind fun p => some (⟨k.1, false, ⟨6, 1, ⟨#[]⟩, p.1⟩, [], []⟩, p.2)
theorem next_lt {s : ByteArray} {v : Int × Int × ByteArray} {l : List S60} {t : ByteArray} (h : rdNext s = some (v, l, t)) : t.size < s.size ∧ l.length ≤ s.size := by
  obtain ⟨u, e, hi, _⟩ := next_inv h
  have h1 := hi.pos
  have h2 := it_count hi
  have h3 : s.size = u.length + t.size := by rw [size_L, size_L, e, List.length_append]
  omega
theorem params_le {s : ByteArray} {l : List S60} {t : ByteArray} (h : rdParams s = some (l, t)) : t.size ≤ s.size ∧ l.length ≤ s.size := by
  obtain ⟨u, e, hi, _⟩ := pt_inv _ _ _ _ _ h
  have h2 := pt_count hi
  have h3 : s.size = u.length + t.size := by rw [size_L, size_L, e, List.length_append]
  simp only [List.length_nil] at h2
  omega
theorem key_le {s k t : ByteArray} (h : rdKey s = some (k, t)) : t.size < s.size ∧ k.size ≤ s.size := by
  obtain ⟨e, c, w, hk, _⟩ := key_inv h
  have h3 : s.size = k.size + t.size := by rw [size_L, size_L k, size_L t, e, List.length_append]
  have h4 : 0 < k.size := by rw [size_L, hk]; simp
  omega
theorem atF_pos {s : ByteArray} {c : Int} (h : atF s c = true) : 0 < s.size := (of_decide_eq_true h).1
theorem inner_lt : ∀ (d : Nat) (s : ByteArray) (its : List S31) (q : List S31 × List S60) (r : ByteArray), rdInner d s its = some (q, r) →
    r.size < s.size ∧ q.2.length ≤ s.size ∧ q.1.length ≤ its.length + s.size ∧ ∀ x ∈ q.1, x ∈ its ∨ x.f3.length ≤ s.size
  | 0, _, _, _, _, h => by cases h
  | d + 1, s, its, q, r, h => by
    have hd := drp_size spP s
    rw [rdInner] at h
    split at h
    · rename_i ha
      obtain ⟨⟨l, t⟩, hp, h⟩ := Option.bind_eq_some_iff.1 h
      obtain ⟨rfl, rfl⟩ := Prod.mk.inj (Option.some.inj h)
      have h1 := params_le hp
      have h2 := atF_pos ha
      rw [size_tl] at h1
      dsimp only
      exact ⟨by omega, by omega, by omega, fun x hx => .inl hx⟩
    · obtain ⟨⟨v, l, t⟩, hp, h⟩ := Option.bind_eq_some_iff.1 h
      split at h
      · cases h
      · have h1 := next_lt hp
        obtain ⟨i1, i2, i3, i4⟩ := inner_lt d _ _ _ _ h
        dsimp only at i1 i2 i3 i4
        simp only [List.length_append, List.length_singleton] at i3
        refine ⟨by omega, by omega, by omega, fun x hx => ?_⟩
        rcases i4 x hx with h5 | h5
        · rcases List.mem_append.1 h5 with h6 | h6
          · exact .inl h6
          · rw [List.mem_singleton.1 h6]; exact .inr (by show l.length ≤ _; omega)
        · exact .inr (by omega)
/-- A member whose lists are no longer than a text. -/
def Fit (n : Nat) (m : S34) : Prop := m.f2.f3.length ≤ n ∧ m.f3.length ≤ n ∧ m.f4.length ≤ n ∧ (∀ i ∈ m.f3, i.f3.length ≤ n) ∧ m.f0.size ≤ n
theorem Fit.mono {n n' : Nat} {m : S34} (h : Fit n m) (hn : n ≤ n') : Fit n' m := ⟨by have := h.1; omega, by have := h.2.1; omega, by have := h.2.2.1; omega, fun i hi => by have := h.2.2.2.1 i hi; omega, by have := h.2.2.2.2; omega⟩
theorem member_lt {s : ByteArray} {m : S34} {r : ByteArray} (h : rdMember s = some (m, r)) : r.size < s.size ∧ Fit s.size m := by
  unfold rdMember at h
  split at h
  · rename_i ha
    obtain ⟨⟨⟨its, l⟩, t⟩, hp, h⟩ := Option.bind_eq_some_iff.1 h
    obtain ⟨rfl, rfl⟩ := Prod.mk.inj (Option.some.inj h)
    obtain ⟨i1, i2, i3, i4⟩ := inner_lt _ _ _ _ _ hp
    have h2 := atF_pos ha
    rw [size_tl] at i1 i2 i3 i4
    dsimp only at i1 i2 i3 i4
    simp only [List.length_nil] at i3
    refine ⟨by dsimp only; omega, by show (0 : Nat) ≤ _; omega, by show its.length ≤ _; omega, by show l.length ≤ _; omega, fun x hx => ?_, Nat.zero_le _⟩
    rcases i4 x hx with h5 | h5
    · cases h5
    · omega
  · obtain ⟨⟨v, l, t⟩, hp, h⟩ := Option.bind_eq_some_iff.1 h
    obtain ⟨rfl, rfl⟩ := Prod.mk.inj (Option.some.inj h)
    have h1 := next_lt hp
    exact ⟨h1.1, by show l.length ≤ _; have := h1.2; omega, Nat.zero_le _, Nat.zero_le _, (fun x hx => by cases hx), Nat.zero_le _⟩
theorem keyed_lt {s : ByteArray} {m : S34} {r : ByteArray} (h : rdKeyed s = some (m, r)) : r.size < s.size ∧ Fit s.size m := by
  unfold rdKeyed at h
  obtain ⟨⟨k, t⟩, hk, h⟩ := Option.bind_eq_some_iff.1 h
  have h1 := key_le hk
  split at h
  · rename_i ha
    obtain ⟨⟨m', r'⟩, hm, h⟩ := Option.bind_eq_some_iff.1 h
    obtain ⟨rfl, rfl⟩ := Prod.mk.inj (Option.some.inj h)
    have h2 := member_lt hm
    have h3 := atF_pos ha
    rw [size_tl] at h2
    dsimp only at h1 h2
    have h4 := h2.2.mono (n' := s.size) (by omega)
    exact ⟨by dsimp only; omega, h4.1, h4.2.1, h4.2.2.1, h4.2.2.2.1, h1.2⟩
  · obtain ⟨⟨l, t'⟩, hp, h⟩ := Option.bind_eq_some_iff.1 h
    obtain ⟨rfl, rfl⟩ := Prod.mk.inj (Option.some.inj h)
    have h2 := params_le hp
    dsimp only at h1 h2
    exact ⟨by dsimp only; omega, by show l.length ≤ _; omega, Nat.zero_le _, Nat.zero_le _, (fun x hx => by cases hx), h1.2⟩
end Go.Proofs.YtjdbiicjfpgjkaaGreatDoor.Pl
