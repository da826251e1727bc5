/- The law SfieldTells: contracts, words and plain lemmas that its proof reaches, part 4. Its conditions: the row's own. -/
import Derived.Test.YtjdbiicjfpgjkaaGreatDoorZt3
set_option maxHeartbeats 8000000
set_option maxRecDepth 100000
namespace Go.Proofs.YtjdbiicjfpgjkaaGreatDoor.Q
open Go.RowKit Go.Proofs.YtjdbiicjfpgjkaaGreatDoorW.PrintWords Go.Proofs.YtjdbiicjfpgjkaaGreatDoorW.PrintLast Go.Proofs.YtjdbiicjfpgjkaaGreatDoorW.PrintMore
set_option linter.unusedVariables false
set_option linter.unusedSimpArgs false
mutual
def glacisref05_number.j0 : Nat → ByteArray → Int → Option (ByteArray × Int × Int × ByteArray × ByteArray × Bool)
 | 0, _, _ => none
 | k + 1, x0, x5 => (glacisref05_digits.f k x0).bind fun t222 => (if t222 = 0 then (glacisref05_number.j1 k x0 x5 t222 true) else (glacisref05_number.j1 k x0 x5 t222 (decide (t222 > 15))))
def glacisref05_number.j1 : Nat → ByteArray → Int → Int → Bool → Option (ByteArray × Int × Int × ByteArray × ByteArray × Bool)
 | 0, _, _, _, _ => none
 | k + 1, x0, x5, x6, x22 => if x22 = true then (some ((⟨#[]⟩ : ByteArray), 0, 0, (⟨#[]⟩ : ByteArray), (⟨#[]⟩ : ByteArray), false)) else (if x6 = (x0.size : Int) then (glacisref05_number.j2 k x0 x5 x6 true) else (if 0 ≤ x6 then (if x6 < (x0.size : Int) then (glacisref05_number.j2 k x0 x5 x6 ((bt x0 x6) != 46)) else (none)) else (none)))
def glacisref05_number.j2 : Nat → ByteArray → Int → Int → Bool → Option (ByteArray × Int × Int × ByteArray × ByteArray × Bool)
 | 0, _, _, _, _ => none
 | k + 1, x0, x5, x6, x33 => if x33 = true then (if 0 ≤ x6 then (if x6 ≤ (x0.size : Int) then ((glacisref05_told.f k (x0.extract 0 (x6 : Int).toNat)).bind fun t223 => (some ((⟨#[]⟩ : ByteArray), 1, wrap64 (x5 * t223), (⟨#[]⟩ : ByteArray), x0.extract (x6 : Int).toNat x0.size, true))) else (none)) else (none)) else (if 0 ≤ (wrap64 (x6 + 1)) then (if (wrap64 (x6 + 1)) ≤ (x0.size : Int) then ((glacisref05_digits.f k (x0.extract ((wrap64 (x6 + 1)) : Int).toNat x0.size)).bind fun t224 => (if x6 > 12 then (glacisref05_number.j3 k x0 x5 x6 t224 true) else (if t224 < 1 then (glacisref05_number.j3 k x0 x5 x6 t224 true) else (glacisref05_number.j3 k x0 x5 x6 t224 (decide (t224 > 3)))))) else (none)) else (none))
def glacisref05_number.j3 : Nat → ByteArray → Int → Int → Int → Bool → Option (ByteArray × Int × Int × ByteArray × ByteArray × Bool)
 | 0, _, _, _, _, _ => none
 | k + 1, x0, x5, x6, x7, x58 => if x58 = true then (some ((⟨#[]⟩ : ByteArray), 0, 0, (⟨#[]⟩ : ByteArray), (⟨#[]⟩ : ByteArray), false)) else (if 0 ≤ x6 then (if x6 ≤ (x0.size : Int) then (if 0 ≤ (wrap64 (x6 + 1)) then (if (wrap64 (x6 + 1)) ≤ (wrap64 ((wrap64 (x6 + 1)) + x7)) then (if (wrap64 ((wrap64 (x6 + 1)) + x7)) ≤ (x0.size : Int) then (if (x0.extract 0 (x6 : Int).toNat).size + (x0.extract ((wrap64 (x6 + 1)) : Int).toNat ((wrap64 ((wrap64 (x6 + 1)) + x7)) : Int).toNat).size ≤ 9223372036854775807 then ((glacisref05_told.f k ((x0.extract 0 (x6 : Int).toNat) ++ (x0.extract ((wrap64 (x6 + 1)) : Int).toNat ((wrap64 ((wrap64 (x6 + 1)) + x7)) : Int).toNat))).bind fun t225 => (glacisref05_number.l0 k x0 x5 x6 x7 t225 x7)) else (none)) else (none)) else (none)) else (none)) else (none)) else (none))
def glacisref05_number.l0 : Nat → ByteArray → Int → Int → Int → Int → Int → Option (ByteArray × Int × Int × ByteArray × ByteArray × Bool)
 | 0, _, _, _, _, _, _ => none
 | k + 1, x0, x5, x6, x7, x8, x9 => if x9 < 3 then (glacisref05_number.l0 k x0 x5 x6 x7 (wrap64 (10 * x8)) (wrap64 (x9 + 1))) else (if 0 ≤ (wrap64 ((wrap64 (x6 + 1)) + x7)) then (if (wrap64 ((wrap64 (x6 + 1)) + x7)) ≤ (x0.size : Int) then (some ((⟨#[]⟩ : ByteArray), 2, wrap64 (x5 * x8), (⟨#[]⟩ : ByteArray), x0.extract ((wrap64 ((wrap64 (x6 + 1)) + x7)) : Int).toNat x0.size, true)) else (none)) else (none))
end
def glacisref05_number.f (k : Nat) (a0 : ByteArray) : Option (ByteArray × Int × Int × ByteArray × ByteArray × Bool) := if 0 < (a0.size : Int) then (if (bt a0 0) = 45 then (if 1 ≤ (a0.size : Int) then (glacisref05_number.j0 k (a0.extract 1 a0.size) (-1)) else (none)) else (glacisref05_number.j0 k a0 1)) else (none)
def glacisref05_number.T9 : Bool × List (List Nat × List Nat) := (true, [([], []), ([], []), ([], []), ([1, 2], [1, 2]), ([3], [3]), ([0, 4], [0, 4]), ([5], [5]), ([], []), ([], []), ([7, 8], [7, 8]), ([6, 4, 0, 1, 2, 3, 4, 5, 6], [6]), ([9, 10, 0, 1, 2, 3, 4, 5, 6, 7, 8, 9, 10], [9]), ([11, 0, 1, 2, 3, 4, 5, 6, 7, 8, 9, 10, 11], [])])
def glacisref05_number.B9 : List Nat := [0, 0, 0, 6, 14, 31, 63, 0, 0, 384, 127, 2047, 4095]
theorem glacisref05_number.tab9 : rtab .any (opsOf Tryz.f113 9) = glacisref05_number.T9 := by kernel_rfl
theorem glacisref05_number.bits9 : waitsOk glacisref05_number.T9.2 glacisref05_number.B9 = true := by kernel_rfl
def glacisref05_number.T13 : Bool × List (List Nat × List Nat) := (true, [([], []), ([], []), ([0, 1], [0, 1]), ([], []), ([], []), ([4], [4]), ([], []), ([6], [6]), ([], []), ([7, 8], [7, 8]), ([3, 5, 9], [3, 5, 9]), ([2, 10], [2, 10]), ([11], [11]), ([12, 12, 0, 1, 2, 3, 4, 5, 6, 7, 8, 9, 10, 11, 12], [12])])
def glacisref05_number.B13 : List Nat := [0, 0, 3, 0, 0, 16, 0, 64, 0, 448, 1016, 2047, 4095, 8191]
theorem glacisref05_number.tab13 : rtab .any (opsOf Tryz.f113 13) = glacisref05_number.T13 := by kernel_rfl
theorem glacisref05_number.bits13 : waitsOk glacisref05_number.T13.2 glacisref05_number.B13 = true := by kernel_rfl
def glacisref05_number.T18 : Bool × List (List Nat × List Nat) := (true, [([], []), ([], []), ([0, 1], [0, 1]), ([2], [2]), ([], []), ([], []), ([5], [5]), ([], []), ([6, 7], [6, 7]), ([4, 8], [4, 8]), ([3, 0, 1, 2, 3], [3]), ([9, 10, 0, 1, 2, 3, 4, 5, 6, 7, 8, 9, 10], [9]), ([11, 0, 1, 2, 3, 4, 5, 6, 7, 8, 9, 10, 11], [])])
def glacisref05_number.B18 : List Nat := [0, 0, 3, 7, 0, 0, 32, 0, 224, 496, 15, 2047, 4095]
theorem glacisref05_number.tab18 : rtab .any (opsOf Tryz.f113 18) = glacisref05_number.T18 := by kernel_rfl
theorem glacisref05_number.bits18 : waitsOk glacisref05_number.T18.2 glacisref05_number.B18 = true := by kernel_rfl
theorem glacisref05_number.calls (k : Nat) (a0 : ByteArray) (r1 : ByteArray) (r2 : Int) (r3 : Int) (r4 : ByteArray) (r5 : ByteArray) (r6 : Bool) (w : World) (h : glacisref05_number.f k a0 = some (r1, r2, r3, r4, r5, r6)) :
  Calls Tryz.prog 113 #[.string a0] w fun e w' => e = .returned (.tuple #[.agg #[.string r1, .int .i64 r2, .int .i64 r3, .string r4], .string r5, .bool r6]) ∧ Below w.heap.size w w' := by
 have hu60 := Tryz.underlying60
 have HB := Aside0.mk (Below.refl w.heap.size w)
 have H : (if 0 < (a0.size : Int) then (if (bt a0 0) = 45 then (if 1 ≤ (a0.size : Int) then (glacisref05_number.j0 k (a0.extract 1 a0.size) (-1)) else (none)) else (glacisref05_number.j0 k a0 1)) else (none)) = some (r1, r2, r3, r4, r5, r6) := h
 clear h
 replace H := ifs_ H; obtain ⟨c2, H⟩ := H
 have c2b0 := decide_eq_true c2
 have c2b1 : decide (0 < a0.size) = true := decide_eq_true (by omega)
 clear c2
 have HC4 := Aside0.mk H
 clear H
 go_enter Tryz.func113, Tryz.ntmps113
 go_upto_if 12 with (first | ((with_reducible refine gate_dst (N := 2) rfl ?_); refine box_event ?hg (N := 2) ?hd (cs := #[.string ⟨#[]⟩, .int .i64 0, .int .i64 0, .string ⟨#[]⟩]) (t := 60) ?hr ?_; (case hd => rfl); (case hg => rfl); (case hr => first | (go_simp; done) | (go_simp; rfl)); intro gb221 hg w5 hbox hb; have BK221 := Aside0.mk (hbox); have GW221 := Aside0.mk ((hg_ hg (bl_ HB.out))); have GE221 := Aside0.mk ((hg_ hg (bl_ HB.out))); replace HB := bs_ HB hb; clear hb hbox hg; have p3 : 0 ≤ (0 : Int) := (by omega); have q3 : 0 < a0.size := (by have : (0 : Int) < (a0.size : Int) := of_decide_eq_true (by assumption); omega); have hx3 : ∀ h : 0 < a0.size, ((a0[0]'h).toNat : Int) = bt a0 0 := bt_at a0 0; clear p3; have qi3 : (0 < (a0.size : Int)) = True := eq_true (of_decide_eq_true (by assumption)); replace q3 := eq_true q3))
 (try simp only [Act.put, List.setIfInBounds_toArray, List.set_cons_zero, List.set_cons_succ])
 go_cut [0, 5] (fun v0 v5 wc => ∃ (kq : Nat) (x0_3 : ByteArray) (x5_3 : Int), v0 = .string x0_3 ∧ v5 = .int .i64 x5_3 ∧ Aside0 (glacisref05_number.j0 kq x0_3 x5_3 = some (r1, r2, r3, r4, r5, r6)) ∧ Aside0 (kq ≤ k) ∧ Aside0 (wc.heap[gb221]? = some (.cells #[.string ⟨#[]⟩, .int .i64 0, .int .i64 0, .string ⟨#[]⟩] 60 (0, 0))) ∧ Aside0 (Below w.heap.size w wc))
 case first =>
  have H := HC4.out
  clear HC4
  by_cases c6 : (bt a0 0) = 45
  ·rw [if_pos c6] at H
   obtain ⟨c6b0, c6b1⟩ := eT_ c6
   clear c6
   (first | rw [c6b0] | (simp only [i64_w, i32_w]; rw [c6b0]) | skip)
   replace H := ifs_ H; obtain ⟨c7, H⟩ := H
   have c7b0 := eq_true c7
   have c7b1 := decide_eq_true c7
   clear c7
   have H' := Aside0.mk H
   clear H
   go_wp2
   go_meet
   case rel => exact ⟨_, (a0.extract 1 a0.size), ((-1)), (by first | rfl | simp [*]), (by first | rfl | simp [*]), H', ⟨by first | omega | exact Nat.le_refl _⟩, ⟨by (repeat refine kq_ ?_); exact BK221.out⟩, ⟨by repeat (first | (with_reducible first | exact HB.out | apply below_alloc | apply pw_below_drewN | apply below_drew1 | refine below_set ?_ GE221.out) | exact HB.out)⟩⟩
  rw [if_neg c6] at H
  obtain ⟨c6b0, c6b1⟩ := eF_ c6
  (first | rw [c6b0] | (simp only [i64_w, i32_w]; rw [c6b0]) | skip)
  have H' := Aside0.mk H
  clear H
  go_wp2
  go_meet
  case rel => exact ⟨_, (a0), (1), (by first | rfl | simp [*]), (by first | rfl | simp [*]), H', ⟨by first | omega | exact Nat.le_refl _⟩, ⟨by (repeat refine kq_ ?_); exact BK221.out⟩, ⟨by repeat (first | (with_reducible first | exact HB.out | apply below_alloc | apply pw_below_drewN | apply below_drew1 | refine below_set ?_ GE221.out) | exact HB.out)⟩⟩
 case rest =>
  clear HC4
  (try clear c1)
  obtain ⟨kq, x0_3, x5_3, rfl, rfl, HA, HJ3, BK221, HB⟩ := hcut
  cases kq with
  | zero => exact absurd HA.out (by simp [glacisref05_number.j0])
  | succ kj3 =>
   have H := HA.out
   clear HA
   simp only [glacisref05_number.j0] at H
   replace H := Option.bind_eq_some_iff.mp H
   obtain ⟨t222, A80, H⟩ := H
   (try dsimp only at H)
   have A8 := Aside0.mk A80
   clear A80
   have HC9 := Aside0.mk H
   clear H
   go_upto_region 6 with (first | ((with_reducible refine gate_callee (f := 125) rfl ?_); refine goesL_ (some 16) rfl rfl Tryz.func125 (by kernel_rfl) rfl #[.string x0_3] rfl (by simp only [List.map_toArray, List.map_cons, List.map_nil] <;> rfl) ?_; (with_reducible refine (glacisref05_digits.calls kj3 x0_3 t222 _ A8.out).mono ?_); rintro e w' ⟨rfl, ⟨nd, rfl⟩⟩; refine ⟨_, rfl, ?_⟩))
   (try simp only [Act.put, List.setIfInBounds_toArray, List.set_cons_zero, List.set_cons_succ])
   go_cut [22] (fun v22 wc => ∃ (kq : Nat) (x22_8 : Bool), v22 = .bool x22_8 ∧ Aside0 (glacisref05_number.j1 kq x0_3 x5_3 t222 x22_8 = some (r1, r2, r3, r4, r5, r6)) ∧ Aside0 (kq ≤ kj3) ∧ Aside0 (wc.heap[gb221]? = some (.cells #[.string ⟨#[]⟩, .int .i64 0, .int .i64 0, .string ⟨#[]⟩] 60 (0, 0))) ∧ Aside0 (Below w.heap.size w wc))
   case first =>
    have H := HC9.out
    clear HC9
    by_cases c10 : t222 = 0
    ·rw [if_pos c10] at H
     obtain ⟨c10b0, c10b1⟩ := eT_ c10
     clear c10
     (first | rw [c10b0] | (simp only [i64_w, i32_w]; rw [c10b0]) | skip)
     have H' := Aside0.mk H
     clear H
     go_wp2
     go_meet
     case rel => exact ⟨_, (true), (by first | rfl | simp [*]), H', ⟨by have := HJ3.out; first | omega | exact Nat.le_refl _⟩, ⟨by (repeat refine kq_ ?_); exact BK221.out⟩, ⟨by repeat (first | (with_reducible first | exact HB.out | apply below_alloc | apply pw_below_drewN | apply below_drew1 | refine below_set ?_ GE221.out) | exact HB.out)⟩⟩
    rw [if_neg c10] at H
    obtain ⟨c10b0, c10b1⟩ := eF_ c10
    (first | rw [c10b0] | (simp only [i64_w, i32_w]; rw [c10b0]) | skip)
    have H' := Aside0.mk H
    clear H
    go_wp2
    go_meet
    case rel => exact ⟨_, (decide (t222 > 15)), (by first | rfl | simp [*]), H', ⟨by have := HJ3.out; first | omega | exact Nat.le_refl _⟩, ⟨by (repeat refine kq_ ?_); exact BK221.out⟩, ⟨by repeat (first | (with_reducible first | exact HB.out | apply below_alloc | apply pw_below_drewN | apply below_drew1 | refine below_set ?_ GE221.out) | exact HB.out)⟩⟩
   case rest =>
    clear HC9
    (try clear c1)
    obtain ⟨kq, x22_8, rfl, HA, HJ8, BK221, HB⟩ := hcut
    cases kq with
    | zero => exact absurd HA.out (by simp [glacisref05_number.j1])
    | succ kj8 =>
     have H := HA.out
     clear HA
     simp only [glacisref05_number.j1] at H
     by_cases c11 : x22_8 = true
     ·subst c11
      rw [if_pos rfl] at H
      simp only [Option.some.injEq, Prod.mk.injEq] at H
      obtain ⟨rfl, rfl, rfl, rfl, rfl, rfl⟩ := H
      have hcz12_0 : wc.cell? ⟨gb221, 0, none⟩ = some (.string ⟨#[]⟩) := (blk_cell BK221.out 0).trans rfl
      have hcz12_1 : wc.cell? ⟨gb221, 1, none⟩ = some (.int .i64 0) := (blk_cell BK221.out 1).trans rfl
      have hcz12_2 : wc.cell? ⟨gb221, 2, none⟩ = some (.int .i64 0) := (blk_cell BK221.out 2).trans rfl
      have hcz12_3 : wc.cell? ⟨gb221, 3, none⟩ = some (.string ⟨#[]⟩) := (blk_cell BK221.out 3).trans rfl
      have hfz12_0 := blk_frozen BK221.out 0
      have hfz12_1 := blk_frozen BK221.out 1
      have hfz12_2 := blk_frozen BK221.out 2
      have hfz12_3 := blk_frozen BK221.out 3
      go_wp2
      refine bodyPost_ret (results_ctt rfl _ _ gb221 60 #[.string ⟨#[]⟩, .int .i64 0, .int .i64 0, .string ⟨#[]⟩] (0, 0) _ rfl (by (repeat refine kq_ ?_); apply put5_; (repeat refine kq_ ?_); exact BK221.out) Tryz.underlying60 rfl (by kernel_rfl)) rfl ?_
      exact ⟨by first | rfl | simp [*, errW_none, errW_some, q_ne_nil], by repeat (first | (with_reducible first | exact HB.out | apply below_alloc | apply pw_below_drewN | apply below_drew1 | refine below_set ?_ GE221.out) | exact HB.out)⟩
     replace c11 := Bool.eq_false_iff.mpr c11
     subst c11
     rw [if_neg (show ¬ (false = true) by decide)] at H
     have HC13 := Aside0.mk H
     clear H
     go_upto_region 8 with (fail)
     go_cut [33] (fun v33 wc => ∃ (kq : Nat) (x33_12 : Bool), v33 = .bool x33_12 ∧ Aside0 (glacisref05_number.j2 kq x0_3 x5_3 t222 x33_12 = some (r1, r2, r3, r4, r5, r6)) ∧ Aside0 (kq ≤ kj8) ∧ Aside0 (wc.heap[gb221]? = some (.cells #[.string ⟨#[]⟩, .int .i64 0, .int .i64 0, .string ⟨#[]⟩] 60 (0, 0))) ∧ Aside0 (Below w.heap.size w wc))
     case first =>
      have H := HC13.out
      clear HC13
      by_cases c14 : t222 = (x0_3.size : Int)
      ·rw [if_pos c14] at H
       obtain ⟨c14b0, c14b1⟩ := eT_ c14
       clear c14
       (first | rw [c14b0] | (simp only [i64_w, i32_w]; rw [c14b0]) | skip)
       have H' := Aside0.mk H
       clear H
       go_wp2
       go_meet
       case rel => exact ⟨_, (true), (by first | rfl | simp [*]), H', ⟨by have := HJ3.out; have := HJ8.out; first | omega | exact Nat.le_refl _⟩, ⟨by (repeat refine kq_ ?_); exact BK221.out⟩, ⟨by repeat (first | (with_reducible first | exact HB.out | apply below_alloc | apply pw_below_drewN | apply below_drew1 | refine below_set ?_ GE221.out) | exact HB.out)⟩⟩
      rw [if_neg c14] at H
      obtain ⟨c14b0, c14b1⟩ := eF_ c14
      (first | rw [c14b0] | (simp only [i64_w, i32_w]; rw [c14b0]) | skip)
      replace H := ifs_ H; obtain ⟨c15, H⟩ := H
      have c15b0 := decide_eq_true c15
      clear c15
      replace H := ifs_ H; obtain ⟨c16, H⟩ := H
      have c16b0 := decide_eq_true c16
      clear c16
      have H' := Aside0.mk H
      clear H
      have p17 : 0 ≤ (t222 : Int) := of_decide_eq_true (by assumption)
      have q17 : t222 < (x0_3.size : Int) := of_decide_eq_true (by assumption)
      have hx17 := bt_at x0_3 t222
      replace p17 := eq_true p17
      replace q17 := eq_true q17
      go_wp2
      go_meet
      case rel => exact ⟨_, (((bt x0_3 t222) != 46)), (by first | rfl | simp [*]), H', ⟨by have := HJ3.out; have := HJ8.out; first | omega | exact Nat.le_refl _⟩, ⟨by (repeat refine kq_ ?_); exact BK221.out⟩, ⟨by repeat (first | (with_reducible first | exact HB.out | apply below_alloc | apply pw_below_drewN | apply below_drew1 | refine below_set ?_ GE221.out) | exact HB.out)⟩⟩
     case rest =>
      clear HC13
      (try clear c1)
      obtain ⟨kq, x33_12, rfl, HA, HJ12, BK221, HB⟩ := hcut
      cases kq with
      | zero => exact absurd HA.out (by simp [glacisref05_number.j2])
      | succ kj12 =>
       have H := HA.out
       clear HA
       simp only [glacisref05_number.j2] at H
       by_cases c18 : x33_12 = true
       ·subst c18
        rw [if_pos rfl] at H
        replace H := ifs_ H; obtain ⟨c19, H⟩ := H
        have c19b0 := eq_true c19
        have c19b1 := decide_eq_true c19
        clear c19
        replace H := ifs_ H; obtain ⟨c20, H⟩ := H
        have c20b0 := eq_true c20
        have c20b1 := decide_eq_true c20
        clear c20
        replace H := Option.bind_eq_some_iff.mp H
        obtain ⟨t223, A210, H⟩ := H
        (try dsimp only at H)
        have A21 := Aside0.mk A210
        clear A210
        have c22b0 := eq_true (of_decide_eq_true (by assumption) : 0 ≤ t222)
        have c23b0 := eq_true (of_decide_eq_true (by assumption) : t222 ≤ (x0_3.size : Int))
        simp only [Option.some.injEq, Prod.mk.injEq] at H
        obtain ⟨rfl, rfl, rfl, rfl, rfl, rfl⟩ := H
        try go_wp2
        have n0_ := Aside0.mk (blk_drew BK221.out)
        have n1_ := Aside0.mk (below_drew1 HB.out)
        clear BK221
        clear HB
        have BK221 := n0_
        have HB := n1_
        clear n0_ n1_
        refine start_ (n := 13) (S := fun w' => True) (ds := []) #[false,false,false,false,false,false,false,false,false,false,false,false,false] (by kernel_rfl) rfl rfl trivial (fun hHeld => ?_); refine with_tabW glacisref05_number.tab9 glacisref05_number.bits9 (fun HT_ HW_ => ?_)
        generalize wc.drew = w24 at BK221 HB hHeld ⊢
        refine pure_ (i := 0) (N := some 34) (v := ?_) (a' := ?_) #[true,false,false,false,false,false,false,false,false,false,false,false,false] rfl rfl (any_of HT_.out (by kernel_rfl)) (fun _ _ _ h => h) (Or.inl ⟨by rfl, ?_⟩) ?_ ?_; rotate_left; (intro w'; go_simp; with_reducible rfl); rotate_left; (simp only [Act.put, List.setIfInBounds_toArray, List.set_cons_zero, List.set_cons_succ, i64_w, i32_w]; rfl)
        refine pure_ (i := 1) (N := some 35) (v := ?_) (a' := ?_) #[true,true,false,false,false,false,false,false,false,false,false,false,false] rfl rfl (any_of HT_.out (by kernel_rfl)) (fun _ _ _ h => h) (Or.inl ⟨by rfl, ?_⟩) ?_ ?_; rotate_left; (intro w'; go_simp; with_reducible rfl); rotate_left; (simp only [Act.put, List.setIfInBounds_toArray, List.set_cons_zero, List.set_cons_succ, i64_w, i32_w]; rfl)
        refine pure_ (i := 2) (N := some 36) (v := ?_) (a' := ?_) #[true,true,true,false,false,false,false,false,false,false,false,false,false] rfl rfl (any_of HT_.out (by kernel_rfl)) (fun _ _ _ h => h) (Or.inl ⟨by rfl, ?_⟩) ?_ ?_; rotate_left; (intro w'; go_simp; with_reducible rfl); rotate_left; (simp only [Act.put, List.setIfInBounds_toArray, List.set_cons_zero, List.set_cons_succ, i64_w, i32_w]; rfl)
        refine pure_ (i := 3) (N := some 37) (v := ?_) (a' := ?_) #[true,true,true,true,false,false,false,false,false,false,false,false,false] rfl rfl (any_of HT_.out (by kernel_rfl)) (fun _ _ _ h => h) (Or.inl ⟨by rfl, ?_⟩) ?_ ?_; rotate_left; (intro w'; go_simp; with_reducible rfl); rotate_left; (simp only [Act.put, List.setIfInBounds_toArray, List.set_cons_zero, List.set_cons_succ, i64_w, i32_w]; rfl)
        refine pure_ (i := 7) (N := some 41) (v := ?_) (a' := ?_) #[true,true,true,true,false,false,false,true,false,false,false,false,false] rfl rfl (any_of HT_.out (by kernel_rfl)) (fun _ _ _ h => h) (Or.inl ⟨by rfl, ?_⟩) ?_ ?_; rotate_left; (intro w'; go_simp; with_reducible rfl); rotate_left; (simp only [Act.put, List.setIfInBounds_toArray, List.set_cons_zero, List.set_cons_succ, i64_w, i32_w]; rfl)
        refine pure_ (i := 8) (N := some 42) (v := ?_) (a' := ?_) #[true,true,true,true,false,false,false,true,true,false,false,false,false] rfl rfl (any_of HT_.out (by kernel_rfl)) (fun _ _ _ h => h) (Or.inl ⟨by rfl, ?_⟩) ?_ ?_; rotate_left; (intro w'; go_simp; with_reducible rfl); rotate_left; (simp only [Act.put, List.setIfInBounds_toArray, List.set_cons_zero, List.set_cons_succ, i64_w, i32_w]; rfl)
        refine pure_ (i := 9) (N := some 43) (v := ?_) (a' := ?_) #[true,true,true,true,false,false,false,true,true,true,false,false,false] rfl rfl (any_of HT_.out (by kernel_rfl)) (fun _ _ _ h => h) (Or.inl ⟨by rfl, ?_⟩) ?_ ?_; rotate_left; (intro w'; go_simp; with_reducible rfl); rotate_left; (simp only [Act.put, List.setIfInBounds_toArray, List.set_cons_zero, List.set_cons_succ, i64_w, i32_w]; rfl)
        refine one_ (i := 4) (N := some 38) #[true,true,true,true,true,false,false,true,true,true,false,false,false] rfl rfl (one_of HT_.out (by kernel_rfl)) (by decide) (fun K hK => ?_)
        refine goes_ Tryz.func126 (by kernel_rfl) rfl #[.string (x0_3.extract 0 (t222 : Int).toNat)] (by rfl) rfl rfl (by simp only [List.map_toArray, List.map_cons, List.map_nil] <;> rfl) ?_
        with_reducible refine (glacisref05_told.calls kj12 (x0_3.extract 0 (t222 : Int).toNat) t223 _ A21.out).mono ?_
        rintro e w' ⟨rfl, ⟨nd, rfl⟩⟩
        refine ⟨_, rfl, ?_⟩
        refine hK.out _ _ trivial (fun hHeld => ?_)
        clear hK K
        refine norm_ (a' := ?_) ?_ ?_
        rotate_left
        ·show Act.put _ (some 38) _ = _
         simp only [Act.put, List.setIfInBounds_toArray, List.set_cons_zero, List.set_cons_succ, i64_w, i32_w]
         rfl
        refine pure_ (i := 5) (N := some 39) (v := ?_) (a' := ?_) #[true,true,true,true,true,true,false,true,true,true,false,false,false] rfl rfl (any_of HT_.out (by kernel_rfl)) (fun _ _ _ h => h) (Or.inl ⟨by rfl, ?_⟩) ?_ ?_; rotate_left; (intro w'; go_simp; with_reducible rfl); rotate_left; (simp only [Act.put, List.setIfInBounds_toArray, List.set_cons_zero, List.set_cons_succ, i64_w, i32_w]; rfl)
        refine pure_ (i := 6) (N := some 40) (v := ?_) (a' := ?_) #[true,true,true,true,true,true,true,true,true,true,false,false,false] rfl rfl (any_of HT_.out (by kernel_rfl)) (fun _ _ _ h => h) (Or.inl ⟨by rfl, ?_⟩) ?_ ?_; rotate_left; (intro w'; go_simp; with_reducible rfl); rotate_left; (simp only [Act.put, List.setIfInBounds_toArray, List.set_cons_zero, List.set_cons_succ, i64_w, i32_w]; rfl)
        refine one_ (i := 10) (N := none) #[true,true,true,true,true,true,true,true,true,true,true,false,false] rfl rfl (one_of HT_.out (by kernel_rfl)) (by decide) (fun K hK => ?_)
        have hs25 : w24.cell? ⟨gb221, 0, none⟩ = some (.string ⟨#[]⟩) := (blk_cell BK221.out 0).trans rfl
        have hfs25 := blk_frozen BK221.out 0
        have hs26 : w24.cell? ⟨gb221, 1, none⟩ = some (.int .i64 0) := (blk_cell BK221.out 1).trans rfl
        have hfs26 := blk_frozen BK221.out 1
        have hs27 : w24.cell? ⟨gb221, 2, none⟩ = some (.int .i64 0) := (blk_cell BK221.out 2).trans rfl
        have hfs27 := blk_frozen BK221.out 2
        have hs28 : w24.cell? ⟨gb221, 3, none⟩ = some (.string ⟨#[]⟩) := (blk_cell BK221.out 3).trans rfl
        have hfs28 := blk_frozen BK221.out 3
        refine skip_ (w1 := ?_) (by rfl) rfl ?_ ?_
        rotate_left
        ·go_simp
         rfl
        refine hK.out _ _ trivial (fun hHeld => ?_)
        clear hK K
        refine pure_ (i := 11) (N := some 3) (v := ?_) (a' := ?_) #[true,true,true,true,true,true,true,true,true,true,true,true,false] rfl rfl (any_of HT_.out (by kernel_rfl)) (fun _ _ _ h => h) (Or.inl ⟨by rfl, ?_⟩) ?_ ?_; rotate_left; (intro w'; go_simp; with_reducible rfl); rotate_left; (simp only [Act.put, List.setIfInBounds_toArray, List.set_cons_zero, List.set_cons_succ, i64_w, i32_w]; rfl)
        refine pure_ (i := 12) (N := some 4) (v := ?_) (a' := ?_) #[true,true,true,true,true,true,true,true,true,true,true,true,true] rfl rfl (any_of HT_.out (by kernel_rfl)) (fun _ _ _ h => h) (Or.inl ⟨by rfl, ?_⟩) ?_ ?_; rotate_left; (intro w'; go_simp; with_reducible rfl); rotate_left; (simp only [Act.put, List.setIfInBounds_toArray, List.set_cons_zero, List.set_cons_succ, i64_w, i32_w]; rfl)
        refine done_ (done_of HT_.out (by kernel_rfl)) ?_
        try go_wp2
        refine bodyPost_ret (results_ctt rfl _ _ gb221 60 #[.string ⟨#[]⟩, .int .i64 1, .int .i64 (wrap64 (x5_3 * t223)), .string ⟨#[]⟩] (0, 0) _ rfl (by (repeat refine kq_ ?_); apply put5_; (repeat refine kq_ ?_); exact BK221.out) Tryz.underlying60 rfl (by kernel_rfl)) rfl ?_
        exact ⟨by first | rfl | simp [*, errW_none, errW_some, q_ne_nil], by repeat (first | (with_reducible first | exact HB.out | apply below_alloc | apply pw_below_drewN | apply below_drew1 | refine below_set ?_ GE221.out) | exact HB.out)⟩
       replace c18 := Bool.eq_false_iff.mpr c18
       subst c18
       rw [if_neg (show ¬ (false = true) by decide)] at H
       obtain ⟨ji29, hji29⟩ : ∃ j_ : Int, (wrap64 (t222 + 1)) = j_ := ⟨_, rfl⟩
       replace H : (if 0 ≤ (ji29) then (if (ji29) ≤ (x0_3.size : Int) then ((glacisref05_digits.f kj12 (x0_3.extract ((ji29) : Int).toNat x0_3.size)).bind fun t224 => (if t222 > 12 then (glacisref05_number.j3 kj12 x0_3 x5_3 t222 t224 true) else (if t224 < 1 then (glacisref05_number.j3 kj12 x0_3 x5_3 t222 t224 true) else (glacisref05_number.j3 kj12 x0_3 x5_3 t222 t224 (decide (t224 > 3)))))) else (none)) else (none)) = some (r1, r2, r3, r4, r5, r6) := by first | (rw [hji29] at H; exact H) | (simp only [hji29] at H ⊢; exact H)
       have hji29w : (IntKind.i64.wrap (t222 + 1)) = ji29 := (i64_w _).trans hji29
       replace H := ifs_ H; obtain ⟨c30, H⟩ := H
       have c30b0 := eq_true c30
       have c30b1 := decide_eq_true c30
       clear c30
       replace H := ifs_ H; obtain ⟨c31, H⟩ := H
       have c31b0 := eq_true c31
       have c31b1 := decide_eq_true c31
       clear c31
       replace H := Option.bind_eq_some_iff.mp H
       obtain ⟨t224, A320, H⟩ := H
       (try dsimp only at H)
       have A32 := Aside0.mk A320
       clear A320
       have HC33 := Aside0.mk H
       clear H
       go_upto_region 11 with (first | ((with_reducible refine gate_callee (f := 125) rfl ?_); refine goesL_ (some 48) rfl rfl Tryz.func125 (by kernel_rfl) rfl #[.string (x0_3.extract ((ji29) : Int).toNat x0_3.size)] rfl (by (try simp only [List.map_toArray, List.map_cons, List.map_nil]); first | done | (simp only [hji29]; rfl) | rfl | (simp only [List.length_drop, List.length_take]; rfl)) ?_; (with_reducible refine (glacisref05_digits.calls kj12 (x0_3.extract ((ji29) : Int).toNat x0_3.size) t224 _ A32.out).mono ?_); rintro e w' ⟨rfl, ⟨nd, rfl⟩⟩; refine ⟨_, rfl, ?_⟩))
       (try simp only [Act.put, List.setIfInBounds_toArray, List.set_cons_zero, List.set_cons_succ])
       go_cut [58] (fun v58 wc => ∃ (kq : Nat) (x58_32 : Bool), v58 = .bool x58_32 ∧ Aside0 (glacisref05_number.j3 kq x0_3 x5_3 t222 t224 x58_32 = some (r1, r2, r3, r4, r5, r6)) ∧ Aside0 (kq ≤ kj12) ∧ Aside0 (wc.heap[gb221]? = some (.cells #[.string ⟨#[]⟩, .int .i64 0, .int .i64 0, .string ⟨#[]⟩] 60 (0, 0))) ∧ Aside0 (Below w.heap.size w wc))
       case first =>
        have H := HC33.out
        clear HC33
        by_cases c34 : t222 > 12
        ·rw [if_pos c34] at H
         have c34b0 : decide (12 < t222) = true := decide_eq_true c34
         clear c34
         (first | rw [c34b0] | (simp only [i64_w, i32_w]; rw [c34b0]) | skip)
         have H' := Aside0.mk H
         clear H
         go_wp2
         go_meet
         case rel => exact ⟨_, (true), (by first | rfl | simp [*]), H', ⟨by have := HJ3.out; have := HJ8.out; have := HJ12.out; first | omega | exact Nat.le_refl _⟩, ⟨by (repeat refine kq_ ?_); exact BK221.out⟩, ⟨by repeat (first | (with_reducible first | exact HB.out | apply below_alloc | apply pw_below_drewN | apply below_drew1 | refine below_set ?_ GE221.out) | exact HB.out)⟩⟩
        rw [if_neg c34] at H
        have c34b0 : decide (12 < t222) = false := decide_eq_false c34
        clear c34
        (first | rw [c34b0] | (simp only [i64_w, i32_w]; rw [c34b0]) | skip)
        by_cases c35 : t224 < 1
        ·rw [if_pos c35] at H
         have c35b0 := decide_eq_true c35
         clear c35
         have H' := Aside0.mk H
         clear H
         go_wp2
         go_meet
         case rel => exact ⟨_, (true), (by first | rfl | simp [*]), H', ⟨by have := HJ3.out; have := HJ8.out; have := HJ12.out; first | omega | exact Nat.le_refl _⟩, ⟨by (repeat refine kq_ ?_); exact BK221.out⟩, ⟨by repeat (first | (with_reducible first | exact HB.out | apply below_alloc | apply pw_below_drewN | apply below_drew1 | refine below_set ?_ GE221.out) | exact HB.out)⟩⟩
        rw [if_neg c35] at H
        have c35b0 := decide_eq_false c35
        clear c35
        have H' := Aside0.mk H
        clear H
        go_wp2
        go_meet
        case rel => exact ⟨_, (decide (t224 > 3)), (by first | rfl | simp [*]), H', ⟨by have := HJ3.out; have := HJ8.out; have := HJ12.out; first | omega | exact Nat.le_refl _⟩, ⟨by (repeat refine kq_ ?_); exact BK221.out⟩, ⟨by repeat (first | (with_reducible first | exact HB.out | apply below_alloc | apply pw_below_drewN | apply below_drew1 | refine below_set ?_ GE221.out) | exact HB.out)⟩⟩
       case rest =>
        clear HC33
        (try clear c1)
        obtain ⟨kq, x58_32, rfl, HA, HJ32, BK221, HB⟩ := hcut
        cases kq with
        | zero => exact absurd HA.out (by simp [glacisref05_number.j3])
        | succ kj32 =>
         have H := HA.out
         clear HA
         simp only [glacisref05_number.j3] at H
         by_cases c36 : x58_32 = true
         ·subst c36
          rw [if_pos rfl] at H
          simp only [Option.some.injEq, Prod.mk.injEq] at H
          obtain ⟨rfl, rfl, rfl, rfl, rfl, rfl⟩ := H
          have hcz37_0 : wc.cell? ⟨gb221, 0, none⟩ = some (.string ⟨#[]⟩) := (blk_cell BK221.out 0).trans rfl
          have hcz37_1 : wc.cell? ⟨gb221, 1, none⟩ = some (.int .i64 0) := (blk_cell BK221.out 1).trans rfl
          have hcz37_2 : wc.cell? ⟨gb221, 2, none⟩ = some (.int .i64 0) := (blk_cell BK221.out 2).trans rfl
          have hcz37_3 : wc.cell? ⟨gb221, 3, none⟩ = some (.string ⟨#[]⟩) := (blk_cell BK221.out 3).trans rfl
          have hfz37_0 := blk_frozen BK221.out 0
          have hfz37_1 := blk_frozen BK221.out 1
          have hfz37_2 := blk_frozen BK221.out 2
          have hfz37_3 := blk_frozen BK221.out 3
          go_wp2
          refine bodyPost_ret (results_ctt rfl _ _ gb221 60 #[.string ⟨#[]⟩, .int .i64 0, .int .i64 0, .string ⟨#[]⟩] (0, 0) _ rfl (by (repeat refine kq_ ?_); apply put5_; (repeat refine kq_ ?_); exact BK221.out) Tryz.underlying60 rfl (by kernel_rfl)) rfl ?_
          exact ⟨by first | rfl | (simp [errW_none, errW_some] <;> rfl) | (simp only [← hji29]; first | rfl | (simp [errW_none, errW_some] <;> rfl)) | (simp [*, errW_none, errW_some] <;> rfl) | (simp [q_ne_nil]; done), by repeat (first | (with_reducible first | exact HB.out | apply below_alloc | apply pw_below_drewN | apply below_drew1 | refine below_set ?_ GE221.out) | exact HB.out)⟩
         replace c36 := Bool.eq_false_iff.mpr c36
         subst c36
         rw [if_neg (show ¬ (false = true) by decide)] at H
         replace H := ifs_ H; obtain ⟨c38, H⟩ := H
         have c38b0 := eq_true c38
         have c38b1 := decide_eq_true c38
         clear c38
         replace H := ifs_ H; obtain ⟨c39, H⟩ := H
         have c39b0 := eq_true c39
         have c39b1 := decide_eq_true c39
         clear c39
         replace H : (if 0 ≤ (ji29) then (if (ji29) ≤ (wrap64 ((ji29) + t224)) then (if (wrap64 ((ji29) + t224)) ≤ (x0_3.size : Int) then (if (x0_3.extract 0 (t222 : Int).toNat).size + (x0_3.extract ((ji29) : Int).toNat ((wrap64 ((ji29) + t224)) : Int).toNat).size ≤ 9223372036854775807 then ((glacisref05_told.f kj32 ((x0_3.extract 0 (t222 : Int).toNat) ++ (x0_3.extract ((ji29) : Int).toNat ((wrap64 ((ji29) + t224)) : Int).toNat))).bind fun t225 => (glacisref05_number.l0 kj32 x0_3 x5_3 t222 t224 t225 t224)) else (none)) else (none)) else (none)) else (none)) = some (r1, r2, r3, r4, r5, r6) := by first | (rw [hji29] at H; exact H) | (simp only [hji29] at H ⊢; exact H)
         replace H := ifs_ H; obtain ⟨c41, H⟩ := H
         have c41b0 := eq_true c41
         have c41b1 := decide_eq_true c41
         clear c41
         replace H := ifs_ H; obtain ⟨c42, H⟩ := H
         have c42b0 := eq_true c42
         have c42b1 := decide_eq_true c42
         replace H := ifs_ H; obtain ⟨c43, H⟩ := H
         have c43b0 := eq_true c43
         have c43b1 := decide_eq_true c43
         replace H := ifs_ H; obtain ⟨c44, H⟩ := H
         have c44b0 := eq_true c44
         have c44b1 := decide_eq_true c44
         have c44e : (9223372036854775807 < (t222 : Int).toNat + ((wrap64 ((ji29) + t224)).toNat - (ji29 : Int).toNat)) = False := eq_false (by have h_ := c44; have g_ := of_eq_true c39b0; rw [ByteArray.size_extract, ByteArray.size_extract] at h_; omega)
         try have c44b2 : (9223372036854775807 < (x0_3.extract 0 (t222 : Int).toNat).size + (x0_3.extract ((ji29) : Int).toNat ((wrap64 ((ji29) + t224)) : Int).toNat).size) = False := eq_false (Nat.not_lt.2 c44)
         replace H := Option.bind_eq_some_iff.mp H
         obtain ⟨t225, A450, H⟩ := H
         (try dsimp only at H)
         have A45 := Aside0.mk A450
         clear A450
         have H' := Aside0.mk H
         clear H
         try go_wp2
         have n0_ := Aside0.mk (blk_drew BK221.out)
         have n1_ := Aside0.mk (below_drew1 HB.out)
         clear BK221
         clear HB
         have BK221 := n0_
         have HB := n1_
         clear n0_ n1_
         refine start_ (n := 14) (S := fun w' => True) (ds := []) #[false,false,false,false,false,false,false,false,false,false,false,false,false,false] (by kernel_rfl) rfl rfl trivial (fun hHeld => ?_); refine with_tabW glacisref05_number.tab13 glacisref05_number.bits13 (fun HT_ HW_ => ?_)
         generalize wc.drew = w46 at BK221 HB hHeld ⊢
         refine pure_ (i := 0) (N := some 60) (v := ?_) (a' := ?_) #[true,false,false,false,false,false,false,false,false,false,false,false,false,false] rfl rfl (any_of HT_.out (by kernel_rfl)) (fun _ _ _ h => h) (Or.inl ⟨by rfl, ?_⟩) ?_ ?_; rotate_left; (intro w'; go_simp; with_reducible rfl); rotate_left; (simp only [Act.put, List.setIfInBounds_toArray, List.set_cons_zero, List.set_cons_succ, i64_w, i32_w]; rfl)
         refine pure_ (i := 1) (N := some 61) (v := ?_) (a' := ?_) #[true,true,false,false,false,false,false,false,false,false,false,false,false,false] rfl rfl (any_of HT_.out (by kernel_rfl)) (fun _ _ _ h => h) (Or.inl ⟨by rfl, ?_⟩) ?_ ?_; rotate_left; (intro w'; go_simp; with_reducible rfl); rotate_left; (simp only [Act.put, List.setIfInBounds_toArray, List.set_cons_zero, List.set_cons_succ, i64_w, i32_w]; rfl)
         refine pure_ (i := 2) (N := some 62) (v := ?_) (a' := ?_) #[true,true,true,false,false,false,false,false,false,false,false,false,false,false] rfl rfl (any_of HT_.out (by kernel_rfl)) (fun _ _ _ h => h) (Or.inl ⟨by rfl, ?_⟩) ?_ ?_; rotate_left; (intro w'; go_simp; with_reducible rfl); rotate_left; (simp only [Act.put, List.setIfInBounds_toArray, List.set_cons_zero, List.set_cons_succ, i64_w, i32_w]; rfl)
         refine pure_ (i := 3) (N := some 63) (v := ?_) (a' := ?_) #[true,true,true,true,false,false,false,false,false,false,false,false,false,false] rfl rfl (any_of HT_.out (by kernel_rfl)) (fun _ _ _ h => h) (Or.inl ⟨by rfl, ?_⟩) ?_ ?_; rotate_left; (intro w'; go_simp; with_reducible rfl); rotate_left; (simp only [Act.put, List.setIfInBounds_toArray, List.set_cons_zero, List.set_cons_succ, i64_w, i32_w]; rfl)
         refine pure_ (i := 4) (N := some 64) (v := ?_) (a' := ?_) #[true,true,true,true,true,false,false,false,false,false,false,false,false,false] rfl rfl (any_of HT_.out (by kernel_rfl)) (fun _ _ _ h => h) (Or.inl ⟨by rfl, ?_⟩) ?_ ?_; rotate_left; (intro w'; go_simp; with_reducible rfl); rotate_left; (simp only [Act.put, List.setIfInBounds_toArray, List.set_cons_zero, List.set_cons_succ, i64_w, i32_w]; rfl)
         refine pure_ (i := 5) (N := some 65) (v := ?_) (a' := ?_) #[true,true,true,true,true,true,false,false,false,false,false,false,false,false] rfl rfl (any_of HT_.out (by kernel_rfl)) (fun _ _ _ h => h) (Or.inl ⟨by rfl, ?_⟩) ?_ ?_; rotate_left; (intro w'; go_simp; with_reducible rfl); rotate_left; (simp only [Act.put, List.setIfInBounds_toArray, List.set_cons_zero, List.set_cons_succ, i64_w, i32_w]; rfl)
         refine pure_ (i := 6) (N := some 66) (v := ?_) (a' := ?_) #[true,true,true,true,true,true,true,false,false,false,false,false,false,false] rfl rfl (any_of HT_.out (by kernel_rfl)) (fun _ _ _ h => h) (Or.inl ⟨by rfl, ?_⟩) ?_ ?_; rotate_left; (intro w'; go_simp; with_reducible rfl); rotate_left; (simp only [Act.put, List.setIfInBounds_toArray, List.set_cons_zero, List.set_cons_succ, i64_w, i32_w]; rfl)
         refine pure_ (i := 7) (N := some 67) (v := ?_) (a' := ?_) #[true,true,true,true,true,true,true,true,false,false,false,false,false,false] rfl rfl (any_of HT_.out (by kernel_rfl)) (fun _ _ _ h => h) (Or.inl ⟨by rfl, ?_⟩) ?_ ?_; rotate_left; (intro w'; go_simp; with_reducible rfl); rotate_left; (simp only [Act.put, List.setIfInBounds_toArray, List.set_cons_zero, List.set_cons_succ, i64_w, i32_w]; rfl)
         refine pure_ (i := 8) (N := some 68) (v := ?_) (a' := ?_) #[true,true,true,true,true,true,true,true,true,false,false,false,false,false] rfl rfl (any_of HT_.out (by kernel_rfl)) (fun _ _ _ h => h) (Or.inl ⟨by rfl, ?_⟩) ?_ ?_; rotate_left; (intro w'; go_simp; with_reducible rfl); rotate_left; (simp only [Act.put, List.setIfInBounds_toArray, List.set_cons_zero, List.set_cons_succ, i64_w, i32_w]; rfl)
         refine pure_ (i := 9) (N := some 69) (v := ?_) (a' := ?_) #[true,true,true,true,true,true,true,true,true,true,false,false,false,false] rfl rfl (any_of HT_.out (by kernel_rfl)) (fun _ _ _ h => h) (Or.inl ⟨by rfl, ?_⟩) ?_ ?_; rotate_left; (intro w'; go_simp; with_reducible rfl); rotate_left; (simp only [Act.put, List.setIfInBounds_toArray, List.set_cons_zero, List.set_cons_succ, i64_w, i32_w]; rfl)
         refine pure_ (i := 10) (N := some 70) (v := ?_) (a' := ?_) #[true,true,true,true,true,true,true,true,true,true,true,false,false,false] rfl rfl (any_of HT_.out (by kernel_rfl)) (fun _ _ _ h => h) (Or.inl ⟨by rfl, ?_⟩) ?_ ?_; rotate_left; (intro w'; go_simp; with_reducible rfl); rotate_left; (simp only [Act.put, List.setIfInBounds_toArray, List.set_cons_zero, List.set_cons_succ, i64_w, i32_w]; rfl)
         refine pure_ (i := 11) (N := some 71) (v := ?_) (a' := ?_) #[true,true,true,true,true,true,true,true,true,true,true,true,false,false] rfl rfl (any_of HT_.out (by kernel_rfl)) (fun _ _ _ h => h) (Or.inl ⟨by rfl, ?_⟩) ?_ ?_; rotate_left; (intro w'; go_simp; with_reducible rfl); rotate_left; (simp only [Act.put, List.setIfInBounds_toArray, List.set_cons_zero, List.set_cons_succ, i64_w, i32_w]; rfl)
         refine one_ (i := 12) (N := some 72) #[true,true,true,true,true,true,true,true,true,true,true,true,true,false] rfl rfl (one_of HT_.out (by kernel_rfl)) (by decide) (fun K hK => ?_)
         refine goes_ Tryz.func126 (by kernel_rfl) rfl #[.string ((x0_3.extract 0 (t222 : Int).toNat) ++ (x0_3.extract ((ji29) : Int).toNat ((wrap64 ((ji29) + t224)) : Int).toNat))] (by rfl) rfl rfl (by (try simp only [List.map_toArray, List.map_cons, List.map_nil]); first | done | (simp only [hji29]; rfl) | rfl | (simp only [List.length_drop, List.length_take]; rfl)) ?_
         with_reducible refine (glacisref05_told.calls kj32 ((x0_3.extract 0 (t222 : Int).toNat) ++ (x0_3.extract ((ji29) : Int).toNat ((wrap64 ((ji29) + t224)) : Int).toNat)) t225 _ A45.out).mono ?_
         rintro e w' ⟨rfl, ⟨nd, rfl⟩⟩
         refine ⟨_, rfl, ?_⟩
         refine hK.out _ _ trivial (fun hHeld => ?_)
         clear hK K
         refine norm_ (a' := ?_) ?_ ?_
         rotate_left
         ·show Act.put _ (some 72) _ = _
          simp only [Act.put, List.setIfInBounds_toArray, List.set_cons_zero, List.set_cons_succ, i64_w, i32_w]
          rfl
         refine pure_ (i := 13) (N := some 8) (v := ?_) (a' := ?_) #[true,true,true,true,true,true,true,true,true,true,true,true,true,true] rfl rfl (any_of HT_.out (by kernel_rfl)) (fun _ _ _ h => h) (Or.inl ⟨by rfl, ?_⟩) ?_ ?_; rotate_left; (intro w'; go_simp; with_reducible rfl); rotate_left; (simp only [Act.put, List.setIfInBounds_toArray, List.set_cons_zero, List.set_cons_succ, i64_w, i32_w]; rfl)
         refine done_ (done_of HT_.out (by kernel_rfl)) ?_
         try go_wp2
         go_loopg [8, 9] kj32 (fun kq v8 v9 w' => ∃ (x8_5 : Int) (x9_5 : Int), v8 = .int .i64 x8_5 ∧ v9 = .int .i64 x9_5 ∧ Aside0 (glacisref05_number.l0 kq x0_3 x5_3 t222 t224 x8_5 x9_5 = some (r1, r2, r3, r4, r5, r6)) ∧ Aside0 (kq ≤ kj32) ∧ Aside0 (w'.heap[gb221]? = some (.cells #[.string ⟨#[]⟩, .int .i64 0, .int .i64 0, .string ⟨#[]⟩] 60 (0, 0))) ∧ Aside0 (Below w.heap.size w w'))
         case atStart => exact ⟨(t225), (t224), (by first | rfl | simp [*]), (by first | rfl | simp [*]), H', ⟨Nat.le_refl _⟩, ⟨by (repeat refine kq_ ?_); exact BK221.out⟩, ⟨by repeat (first | (with_reducible first | exact HB.out | apply below_alloc | apply pw_below_drewN | apply below_drew1 | refine below_set ?_ GE221.out) | exact HB.out)⟩⟩
         case round =>
          clear H'
          (try clear c1)
          obtain ⟨x8_5, x9_5, rfl, rfl, HA, HK5, BK221, HB⟩ := hrel
          cases gk with
          | zero => exact absurd HA.out (by simp [glacisref05_number.l0])
          | succ k5 =>
           have H := HA.out
           clear HA
           simp only [glacisref05_number.l0] at H
           by_cases c47 : x9_5 < 3
           ·rw [if_pos c47] at H
            have c47b0 := decide_eq_true c47
            clear c47
            have H' := Aside0.mk H
            clear H
            go_wp2
            go_roundg k5
            case measure => have := HJ3.out; have := HJ8.out; have := HJ12.out; have := HJ32.out; have := HK5.out; omega
            case rel => exact ⟨(wrap64 (10 * x8_5)), (wrap64 (x9_5 + 1)), (by first | rfl | simp [*]), (by first | rfl | simp [*]), H', ⟨by have := HJ3.out; have := HJ8.out; have := HJ12.out; have := HJ32.out; have := HK5.out; omega⟩, ⟨by (repeat refine kq_ ?_); exact BK221.out⟩, ⟨by repeat (first | (with_reducible first | exact HB.out | apply below_alloc | apply pw_below_drewN | apply below_drew1 | refine below_set ?_ GE221.out) | exact HB.out)⟩⟩
           rw [if_neg c47] at H
           have c47b0 := decide_eq_false c47
           clear c47
           obtain ⟨ji48, hji48⟩ : ∃ j_ : Int, (wrap64 ((ji29) + t224)) = j_ := ⟨_, rfl⟩
           replace H : (if 0 ≤ (ji48) then (if (ji48) ≤ (x0_3.size : Int) then (some ((⟨#[]⟩ : ByteArray), 2, wrap64 (x5_3 * x8_5), (⟨#[]⟩ : ByteArray), x0_3.extract ((ji48) : Int).toNat x0_3.size, true)) else (none)) else (none)) = some (r1, r2, r3, r4, r5, r6) := by first | (rw [hji48] at H; exact H) | (simp only [hji29, hji48] at H ⊢; exact H)
           have hji48w : (IntKind.i64.wrap ((ji29) + t224)) = ji48 := (i64_w _).trans hji48
           replace H := ifs_ H; obtain ⟨c49, H⟩ := H
           have c49b0 := eq_true c49
           have c49b1 := decide_eq_true c49
           clear c49
           replace H := ifs_ H; obtain ⟨c50, H⟩ := H
           have c50b0 := eq_true c50
           have c50b1 := decide_eq_true c50
           clear c50
           simp only [Option.some.injEq, Prod.mk.injEq] at H
           obtain ⟨rfl, rfl, rfl, rfl, rfl, rfl⟩ := H
           try go_wp2
           have n0_ := Aside0.mk (blk_drew BK221.out)
           have n1_ := Aside0.mk (below_drew1 HB.out)
           clear BK221
           clear HB
           have BK221 := n0_
           have HB := n1_
           clear n0_ n1_
           refine start_ (n := 13) (S := fun w' => True) (ds := []) #[false,false,false,false,false,false,false,false,false,false,false,false,false] (by kernel_rfl) rfl rfl trivial (fun hHeld => ?_); refine with_tabW glacisref05_number.tab18 glacisref05_number.bits18 (fun HT_ HW_ => ?_)
           generalize wr.drew = w51 at BK221 HB hHeld ⊢
           refine pure_ (i := 0) (N := some 80) (v := ?_) (a' := ?_) #[true,false,false,false,false,false,false,false,false,false,false,false,false] rfl rfl (any_of HT_.out (by kernel_rfl)) (fun _ _ _ h => h) (Or.inl ⟨by rfl, ?_⟩) ?_ ?_; rotate_left; (intro w'; go_simp; with_reducible rfl); rotate_left; (simp only [Act.put, List.setIfInBounds_toArray, List.set_cons_zero, List.set_cons_succ, i64_w, i32_w]; rfl)
           refine pure_ (i := 1) (N := some 81) (v := ?_) (a' := ?_) #[true,true,false,false,false,false,false,false,false,false,false,false,false] rfl rfl (any_of HT_.out (by kernel_rfl)) (fun _ _ _ h => h) (Or.inl ⟨by rfl, ?_⟩) ?_ ?_; rotate_left; (intro w'; go_simp; with_reducible rfl); rotate_left; (simp only [Act.put, List.setIfInBounds_toArray, List.set_cons_zero, List.set_cons_succ, i64_w, i32_w]; rfl)
           refine pure_ (i := 2) (N := some 82) (v := ?_) (a' := ?_) #[true,true,true,false,false,false,false,false,false,false,false,false,false] rfl rfl (any_of HT_.out (by kernel_rfl)) (fun _ _ _ h => h) (Or.inl ⟨by rfl, ?_⟩) ?_ ?_; rotate_left; (intro w'; go_simp; with_reducible rfl); rotate_left; (simp only [Act.put, List.setIfInBounds_toArray, List.set_cons_zero, List.set_cons_succ, i64_w, i32_w]; rfl)
           refine pure_ (i := 3) (N := some 83) (v := ?_) (a' := ?_) #[true,true,true,true,false,false,false,false,false,false,false,false,false] rfl rfl (any_of HT_.out (by kernel_rfl)) (fun _ _ _ h => h) (Or.inl ⟨by rfl, ?_⟩) ?_ ?_; rotate_left; (intro w'; go_simp; with_reducible rfl); rotate_left; (simp only [Act.put, List.setIfInBounds_toArray, List.set_cons_zero, List.set_cons_succ, i64_w, i32_w]; rfl)
           refine pure_ (i := 4) (N := some 84) (v := ?_) (a' := ?_) #[true,true,true,true,true,false,false,false,false,false,false,false,false] rfl rfl (any_of HT_.out (by kernel_rfl)) (fun _ _ _ h => h) (Or.inl ⟨by rfl, ?_⟩) ?_ ?_; rotate_left; (intro w'; go_simp; with_reducible rfl); rotate_left; (simp only [Act.put, List.setIfInBounds_toArray, List.set_cons_zero, List.set_cons_succ, i64_w, i32_w]; rfl)
           refine pure_ (i := 5) (N := some 85) (v := ?_) (a' := ?_) #[true,true,true,true,true,true,false,false,false,false,false,false,false] rfl rfl (any_of HT_.out (by kernel_rfl)) (fun _ _ _ h => h) (Or.inl ⟨by rfl, ?_⟩) ?_ ?_; rotate_left; (intro w'; go_simp; with_reducible rfl); rotate_left; (simp only [Act.put, List.setIfInBounds_toArray, List.set_cons_zero, List.set_cons_succ, i64_w, i32_w]; rfl)
           refine pure_ (i := 6) (N := some 86) (v := ?_) (a' := ?_) #[true,true,true,true,true,true,true,false,false,false,false,false,false] rfl rfl (any_of HT_.out (by kernel_rfl)) (fun _ _ _ h => h) (Or.inl ⟨by rfl, ?_⟩) ?_ ?_; rotate_left; (intro w'; go_simp; with_reducible rfl); rotate_left; (simp only [Act.put, List.setIfInBounds_toArray, List.set_cons_zero, List.set_cons_succ, i64_w, i32_w]; rfl)
           refine pure_ (i := 7) (N := some 87) (v := ?_) (a' := ?_) #[true,true,true,true,true,true,true,true,false,false,false,false,false] rfl rfl (any_of HT_.out (by kernel_rfl)) (fun _ _ _ h => h) (Or.inl ⟨by rfl, ?_⟩) ?_ ?_; rotate_left; (intro w'; go_simp; with_reducible rfl); rotate_left; (simp only [Act.put, List.setIfInBounds_toArray, List.set_cons_zero, List.set_cons_succ, i64_w, i32_w]; rfl)
           refine pure_ (i := 8) (N := some 88) (v := ?_) (a' := ?_) #[true,true,true,true,true,true,true,true,true,false,false,false,false] rfl rfl (any_of HT_.out (by kernel_rfl)) (fun _ _ _ h => h) (Or.inl ⟨by rfl, ?_⟩) ?_ ?_; rotate_left; (intro w'; go_simp; with_reducible rfl); rotate_left; (simp only [Act.put, List.setIfInBounds_toArray, List.set_cons_zero, List.set_cons_succ, i64_w, i32_w]; rfl)
           refine pure_ (i := 9) (N := some 89) (v := ?_) (a' := ?_) #[true,true,true,true,true,true,true,true,true,true,false,false,false] rfl rfl (any_of HT_.out (by kernel_rfl)) (fun _ _ _ h => h) (Or.inl ⟨by rfl, ?_⟩) ?_ ?_; rotate_left; (intro w'; go_simp; with_reducible rfl); rotate_left; (simp only [Act.put, List.setIfInBounds_toArray, List.set_cons_zero, List.set_cons_succ, i64_w, i32_w]; rfl)
           refine one_ (i := 10) (N := none) #[true,true,true,true,true,true,true,true,true,true,true,false,false] rfl rfl (one_of HT_.out (by kernel_rfl)) (by decide) (fun K hK => ?_)
           have hs52 : w51.cell? ⟨gb221, 0, none⟩ = some (.string ⟨#[]⟩) := (blk_cell BK221.out 0).trans rfl
           have hfs52 := blk_frozen BK221.out 0
           have hs53 : w51.cell? ⟨gb221, 1, none⟩ = some (.int .i64 0) := (blk_cell BK221.out 1).trans rfl
           have hfs53 := blk_frozen BK221.out 1
           have hs54 : w51.cell? ⟨gb221, 2, none⟩ = some (.int .i64 0) := (blk_cell BK221.out 2).trans rfl
           have hfs54 := blk_frozen BK221.out 2
           have hs55 : w51.cell? ⟨gb221, 3, none⟩ = some (.string ⟨#[]⟩) := (blk_cell BK221.out 3).trans rfl
           have hfs55 := blk_frozen BK221.out 3
           refine skip_ (w1 := ?_) (by rfl) rfl ?_ ?_
           rotate_left
           ·go_simp
            rfl
           refine hK.out _ _ trivial (fun hHeld => ?_)
           clear hK K
           refine pure_ (i := 11) (N := some 3) (v := ?_) (a' := ?_) #[true,true,true,true,true,true,true,true,true,true,true,true,false] rfl rfl (any_of HT_.out (by kernel_rfl)) (fun _ _ _ h => h) (Or.inl ⟨by rfl, ?_⟩) ?_ ?_; rotate_left; (intro w'; go_simp; with_reducible rfl); rotate_left; (simp only [Act.put, List.setIfInBounds_toArray, List.set_cons_zero, List.set_cons_succ, i64_w, i32_w]; rfl)
           refine pure_ (i := 12) (N := some 4) (v := ?_) (a' := ?_) #[true,true,true,true,true,true,true,true,true,true,true,true,true] rfl rfl (any_of HT_.out (by kernel_rfl)) (fun _ _ _ h => h) (Or.inl ⟨by rfl, ?_⟩) ?_ ?_; rotate_left; (intro w'; go_simp; with_reducible rfl); rotate_left; (simp only [Act.put, List.setIfInBounds_toArray, List.set_cons_zero, List.set_cons_succ, i64_w, i32_w]; rfl)
           refine done_ (done_of HT_.out (by kernel_rfl)) ?_
           try go_wp2
           refine bodyPost_ret (results_ctt rfl _ _ gb221 60 #[.string ⟨#[]⟩, .int .i64 2, .int .i64 (wrap64 (x5_3 * x8_5)), .string ⟨#[]⟩] (0, 0) _ rfl (by (repeat refine kq_ ?_); apply put5_; (repeat refine kq_ ?_); exact BK221.out) Tryz.underlying60 rfl (by kernel_rfl)) rfl ?_
           exact ⟨by first | rfl | (simp [errW_none, errW_some] <;> rfl) | (simp only [← hji29, ← hji29, ← hji48]; first | rfl | (simp [errW_none, errW_some] <;> rfl)) | (simp [*, errW_none, errW_some] <;> rfl) | (simp [q_ne_nil]; done), by repeat (first | (with_reducible first | exact HB.out | apply below_alloc | apply pw_below_drewN | apply below_drew1 | refine below_set ?_ GE221.out) | exact HB.out)⟩
mutual
def glacisref05_quoted.l0 : Nat → ByteArray → ByteArray → Int → Option (ByteArray × Int × Int × ByteArray × ByteArray × Bool)
 | 0, _, _, _ => none
 | k + 1, x0, x5, x6 => if x6 < (x0.size : Int) then (if 0 ≤ x6 then (if (bt x0 x6) = 34 then (if 0 ≤ (wrap64 (x6 + 1)) then (if (wrap64 (x6 + 1)) ≤ (x0.size : Int) then (some ((⟨#[]⟩ : ByteArray), 3, 0, x5, x0.extract ((wrap64 (x6 + 1)) : Int).toNat x0.size, true)) else (none)) else (none)) else (if (bt x0 x6) < 32 then (glacisref05_quoted.j1 k x0 x5 x6 true) else (glacisref05_quoted.j1 k x0 x5 x6 (decide ((bt x0 x6) > 126))))) else (none)) else (some ((⟨#[]⟩ : ByteArray), 0, 0, (⟨#[]⟩ : ByteArray), (⟨#[]⟩ : ByteArray), false))
def glacisref05_quoted.j1 : Nat → ByteArray → ByteArray → Int → Bool → Option (ByteArray × Int × Int × ByteArray × ByteArray × Bool)
 | 0, _, _, _, _ => none
 | k + 1, x0, x5, x6, x32 => if x32 = true then (some ((⟨#[]⟩ : ByteArray), 0, 0, (⟨#[]⟩ : ByteArray), (⟨#[]⟩ : ByteArray), false)) else (if 0 ≤ x6 then (if x6 < (x0.size : Int) then (if (bt x0 x6) = 92 then (if (wrap64 (x6 + 1)) = (x0.size : Int) then (some ((⟨#[]⟩ : ByteArray), 0, 0, (⟨#[]⟩ : ByteArray), (⟨#[]⟩ : ByteArray), false)) else (if 0 ≤ (wrap64 (x6 + 1)) then (if (wrap64 (x6 + 1)) < (x0.size : Int) then (if (bt x0 (wrap64 (x6 + 1))) = 34 then (if (wrap64 (x6 + 1)) ≤ (wrap64 ((wrap64 (x6 + 1)) + 1)) then (if (wrap64 ((wrap64 (x6 + 1)) + 1)) ≤ (x0.size : Int) then (if x5.size + (x0.extract ((wrap64 (x6 + 1)) : Int).toNat ((wrap64 ((wrap64 (x6 + 1)) + 1)) : Int).toNat).size ≤ 9223372036854775807 then (glacisref05_quoted.l0 k x0 (x5 ++ (x0.extract ((wrap64 (x6 + 1)) : Int).toNat ((wrap64 ((wrap64 (x6 + 1)) + 1)) : Int).toNat)) (wrap64 ((wrap64 (x6 + 1)) + 1))) else (none)) else (none)) else (none)) else (if (bt x0 (wrap64 (x6 + 1))) = 92 then (if (wrap64 (x6 + 1)) ≤ (wrap64 ((wrap64 (x6 + 1)) + 1)) then (if (wrap64 ((wrap64 (x6 + 1)) + 1)) ≤ (x0.size : Int) then (if x5.size + (x0.extract ((wrap64 (x6 + 1)) : Int).toNat ((wrap64 ((wrap64 (x6 + 1)) + 1)) : Int).toNat).size ≤ 9223372036854775807 then (glacisref05_quoted.l0 k x0 (x5 ++ (x0.extract ((wrap64 (x6 + 1)) : Int).toNat ((wrap64 ((wrap64 (x6 + 1)) + 1)) : Int).toNat)) (wrap64 ((wrap64 (x6 + 1)) + 1))) else (none)) else (none)) else (none)) else (some ((⟨#[]⟩ : ByteArray), 0, 0, (⟨#[]⟩ : ByteArray), (⟨#[]⟩ : ByteArray), false)))) else (none)) else (none))) else (if x6 ≤ (wrap64 (x6 + 1)) then (if (wrap64 (x6 + 1)) ≤ (x0.size : Int) then (if x5.size + (x0.extract (x6 : Int).toNat ((wrap64 (x6 + 1)) : Int).toNat).size ≤ 9223372036854775807 then (glacisref05_quoted.l0 k x0 (x5 ++ (x0.extract (x6 : Int).toNat ((wrap64 (x6 + 1)) : Int).toNat)) (wrap64 (x6 + 1))) else (none)) else (none)) else (none))) else (none)) else (none))
end
def glacisref05_quoted.f (k : Nat) (a0 : ByteArray) : Option (ByteArray × Int × Int × ByteArray × ByteArray × Bool) := glacisref05_quoted.l0 k a0 (⟨#[]⟩ : ByteArray) 1
def glacisref05_quoted.T6 : Bool × List (List Nat × List Nat) := (true, [([], []), ([0], [0]), ([], []), ([], []), ([3], [3]), ([2, 4], [2, 4]), ([1, 0, 1], [1]), ([5, 6, 0, 1, 2, 3, 4, 5, 6], [5]), ([7, 0, 1, 2, 3, 4, 5, 6, 7], [])])
def glacisref05_quoted.B6 : List Nat := [0, 1, 0, 0, 8, 28, 3, 127, 255]
theorem glacisref05_quoted.tab6 : rtab .any (opsOf Tryz.f114 6) = glacisref05_quoted.T6 := by kernel_rfl
theorem glacisref05_quoted.bits6 : waitsOk glacisref05_quoted.T6.2 glacisref05_quoted.B6 = true := by kernel_rfl
theorem glacisref05_quoted.calls (k : Nat) (a0 : ByteArray) (r1 : ByteArray) (r2 : Int) (r3 : Int) (r4 : ByteArray) (r5 : ByteArray) (r6 : Bool) (w : World) (h : glacisref05_quoted.f k a0 = some (r1, r2, r3, r4, r5, r6)) :
  Calls Tryz.prog 114 #[.string a0] w fun e w' => e = .returned (.tuple #[.agg #[.string r1, .int .i64 r2, .int .i64 r3, .string r4], .string r5, .bool r6]) ∧ Below w.heap.size w w' := by
 have hu60 := Tryz.underlying60
 have HB := Aside0.mk (Below.refl w.heap.size w)
 have H : (glacisref05_quoted.l0 k a0 (⟨#[]⟩ : ByteArray) 1) = some (r1, r2, r3, r4, r5, r6) := h
 clear h
 have H' := Aside0.mk H
 clear H
 go_enter Tryz.func114, Tryz.ntmps114
 go_wp2_with (first | ((with_reducible refine gate_dst (N := 2) rfl ?_); refine box_event ?hg (N := 2) ?hd (cs := #[.string ⟨#[]⟩, .int .i64 0, .int .i64 0, .string ⟨#[]⟩]) (t := 60) ?hr ?_; (case hd => rfl); (case hg => rfl); (case hr => first | (go_simp; done) | (go_simp; rfl)); intro gb226 hg w2 hbox hb; have BK226 := Aside0.mk (hbox); have GW226 := Aside0.mk ((hg_ hg (bl_ HB.out))); have GE226 := Aside0.mk ((hg_ hg (bl_ HB.out))); replace HB := bs_ HB hb; clear hb hbox hg))
 go_loopg [5, 6] k (fun kq v5 v6 w' => ∃ (x5_1 : ByteArray) (x6_1 : Int) (x227000_1 : ByteArray) (x227001_1 : Int) (x227002_1 : Int) (x227003_1 : ByteArray), v5 = .string x5_1 ∧ v6 = .int .i64 x6_1 ∧ Aside0 (glacisref05_quoted.l0 kq a0 x5_1 x6_1 = some (r1, r2, r3, r4, r5, r6)) ∧ Aside0 (kq ≤ k) ∧ Aside0 (w'.heap[gb226]? = some (.cells #[.string x227000_1, .int .i64 x227001_1, .int .i64 x227002_1, .string x227003_1] 60 (0, 0))) ∧ Aside0 (Below w.heap.size w w'))
 case atStart => exact ⟨((⟨#[]⟩ : ByteArray)), (1), ((⟨#[]⟩ : ByteArray)), (0), (0), ((⟨#[]⟩ : ByteArray)), (by first | rfl | simp [*]), (by first | rfl | simp [*]), H', ⟨Nat.le_refl _⟩, ⟨by (repeat refine kq_ ?_); exact BK226.out⟩, ⟨by repeat (first | (with_reducible first | exact HB.out | apply below_alloc | apply pw_below_drewN | apply below_drew1 | refine below_set ?_ GE226.out) | exact HB.out)⟩⟩
 case round =>
  clear H'
  (try clear c1)
  obtain ⟨x5_1, x6_1, x227000_1, x227001_1, x227002_1, x227003_1, rfl, rfl, HA, HK1, BK226, HB⟩ := hrel
  cases gk with
  | zero => exact absurd HA.out (by simp [glacisref05_quoted.l0])
  | succ k1 =>
   have H := HA.out
   clear HA
   simp only [glacisref05_quoted.l0] at H
   by_cases c3 : x6_1 < (a0.size : Int)
   rotate_left
   ·rw [if_neg c3] at H
    have c3b0 := decide_eq_false c3
    clear c3
    simp only [Option.some.injEq, Prod.mk.injEq] at H
    obtain ⟨rfl, rfl, rfl, rfl, rfl, rfl⟩ := H
    have hcz47_0 : wr.cell? ⟨gb226, 0, none⟩ = some (.string x227000_1) := (blk_cell BK226.out 0).trans rfl
    have hcz47_1 : wr.cell? ⟨gb226, 1, none⟩ = some (.int .i64 x227001_1) := (blk_cell BK226.out 1).trans rfl
    have hcz47_2 : wr.cell? ⟨gb226, 2, none⟩ = some (.int .i64 x227002_1) := (blk_cell BK226.out 2).trans rfl
    have hcz47_3 : wr.cell? ⟨gb226, 3, none⟩ = some (.string x227003_1) := (blk_cell BK226.out 3).trans rfl
    have hfz47_0 := blk_frozen BK226.out 0
    have hfz47_1 := blk_frozen BK226.out 1
    have hfz47_2 := blk_frozen BK226.out 2
    have hfz47_3 := blk_frozen BK226.out 3
    go_wp2
    refine bodyPost_ret (results_ctt rfl _ _ gb226 60 #[.string ⟨#[]⟩, .int .i64 0, .int .i64 0, .string ⟨#[]⟩] (0, 0) _ rfl (by (repeat refine kq_ ?_); apply put5_; (repeat refine kq_ ?_); exact BK226.out) Tryz.underlying60 rfl (by kernel_rfl)) rfl ?_
    exact ⟨by first | rfl | simp [*, errW_none, errW_some, q_ne_nil], by repeat (first | (with_reducible first | exact HB.out | apply below_alloc | apply pw_below_drewN | apply below_drew1 | refine below_set ?_ GE226.out) | exact HB.out)⟩
   rw [if_pos c3] at H
   have c3b0 := decide_eq_true c3
   clear c3
   replace H := ifs_ H; obtain ⟨c4, H⟩ := H
   have c4b0 := decide_eq_true c4
   clear c4
   by_cases c6 : (bt a0 x6_1) = 34
   ·rw [if_pos c6] at H
    obtain ⟨c6b0, c6b1⟩ := eT_ c6
    clear c6
    obtain ⟨ji7, hji7⟩ : ∃ j_ : Int, (wrap64 (x6_1 + 1)) = j_ := ⟨_, rfl⟩
    replace H : (if 0 ≤ (ji7) then (if (ji7) ≤ (a0.size : Int) then (some ((⟨#[]⟩ : ByteArray), 3, 0, x5_1, a0.extract ((ji7) : Int).toNat a0.size, true)) else (none)) else (none)) = some (r1, r2, r3, r4, r5, r6) := by first | (rw [hji7] at H; exact H) | (simp only [hji7] at H ⊢; exact H)
    have hji7w : (IntKind.i64.wrap (x6_1 + 1)) = ji7 := (i64_w _).trans hji7
    replace H := ifs_ H; obtain ⟨c8, H⟩ := H
    have c8b0 := eq_true c8
    have c8b1 := decide_eq_true c8
    clear c8
    replace H := ifs_ H; obtain ⟨c9, H⟩ := H
    have c9b0 := eq_true c9
    have c9b1 := decide_eq_true c9
    clear c9
    simp only [Option.some.injEq, Prod.mk.injEq] at H
    obtain ⟨rfl, rfl, rfl, rfl, rfl, rfl⟩ := H
    have p5 : 0 ≤ (x6_1 : Int) := of_decide_eq_true (by assumption)
    have q5 : x6_1 < (a0.size : Int) := of_decide_eq_true (by assumption)
    have hx5 := bt_at a0 x6_1
    replace p5 := eq_true p5
    replace q5 := eq_true q5
    try go_wp2
    have n0_ := Aside0.mk (blk_drew BK226.out)
    have n1_ := Aside0.mk (below_drew1 HB.out)
    clear BK226
    clear HB
    have BK226 := n0_
    have HB := n1_
    clear n0_ n1_
    refine start_ (n := 9) (S := fun w' => True) (ds := []) #[false,false,false,false,false,false,false,false,false] (by kernel_rfl) rfl rfl trivial (fun hHeld => ?_); refine with_tabW glacisref05_quoted.tab6 glacisref05_quoted.bits6 (fun HT_ HW_ => ?_)
    generalize wr.drew = w10 at BK226 HB hHeld ⊢
    refine pure_ (i := 0) (N := some 17) (v := ?_) (a' := ?_) #[true,false,false,false,false,false,false,false,false] rfl rfl (any_of HT_.out (by kernel_rfl)) (fun _ _ _ h => h) (Or.inl ⟨by rfl, ?_⟩) ?_ ?_; rotate_left; (intro w'; go_simp; with_reducible rfl); rotate_left; (simp only [Act.put, List.setIfInBounds_toArray, List.set_cons_zero, List.set_cons_succ, i64_w, i32_w]; rfl)
    refine pure_ (i := 1) (N := some 18) (v := ?_) (a' := ?_) #[true,true,false,false,false,false,false,false,false] rfl rfl (any_of HT_.out (by kernel_rfl)) (fun _ _ _ h => h) (Or.inl ⟨by rfl, ?_⟩) ?_ ?_; rotate_left; (intro w'; go_simp; with_reducible rfl); rotate_left; (simp only [Act.put, List.setIfInBounds_toArray, List.set_cons_zero, List.set_cons_succ, i64_w, i32_w]; rfl)
    refine pure_ (i := 2) (N := some 19) (v := ?_) (a' := ?_) #[true,true,true,false,false,false,false,false,false] rfl rfl (any_of HT_.out (by kernel_rfl)) (fun _ _ _ h => h) (Or.inl ⟨by rfl, ?_⟩) ?_ ?_; rotate_left; (intro w'; go_simp; with_reducible rfl); rotate_left; (simp only [Act.put, List.setIfInBounds_toArray, List.set_cons_zero, List.set_cons_succ, i64_w, i32_w]; rfl)
    refine pure_ (i := 3) (N := some 20) (v := ?_) (a' := ?_) #[true,true,true,true,false,false,false,false,false] rfl rfl (any_of HT_.out (by kernel_rfl)) (fun _ _ _ h => h) (Or.inl ⟨by rfl, ?_⟩) ?_ ?_; rotate_left; (intro w'; go_simp; with_reducible rfl); rotate_left; (simp only [Act.put, List.setIfInBounds_toArray, List.set_cons_zero, List.set_cons_succ, i64_w, i32_w]; rfl)
    refine pure_ (i := 4) (N := some 21) (v := ?_) (a' := ?_) #[true,true,true,true,true,false,false,false,false] rfl rfl (any_of HT_.out (by kernel_rfl)) (fun _ _ _ h => h) (Or.inl ⟨by rfl, ?_⟩) ?_ ?_; rotate_left; (intro w'; go_simp; with_reducible rfl); rotate_left; (simp only [Act.put, List.setIfInBounds_toArray, List.set_cons_zero, List.set_cons_succ, i64_w, i32_w]; rfl)
    refine pure_ (i := 5) (N := some 22) (v := ?_) (a' := ?_) #[true,true,true,true,true,true,false,false,false] rfl rfl (any_of HT_.out (by kernel_rfl)) (fun _ _ _ h => h) (Or.inl ⟨by rfl, ?_⟩) ?_ ?_; rotate_left; (intro w'; go_simp; with_reducible rfl); rotate_left; (simp only [Act.put, List.setIfInBounds_toArray, List.set_cons_zero, List.set_cons_succ, i64_w, i32_w]; rfl)
    refine one_ (i := 6) (N := none) #[true,true,true,true,true,true,true,false,false] rfl rfl (one_of HT_.out (by kernel_rfl)) (by decide) (fun K hK => ?_)
    have hs11 : w10.cell? ⟨gb226, 0, none⟩ = some (.string x227000_1) := (blk_cell BK226.out 0).trans rfl
    have hfs11 := blk_frozen BK226.out 0
    have hs12 : w10.cell? ⟨gb226, 1, none⟩ = some (.int .i64 x227001_1) := (blk_cell BK226.out 1).trans rfl
    have hfs12 := blk_frozen BK226.out 1
    have hs13 : w10.cell? ⟨gb226, 2, none⟩ = some (.int .i64 x227002_1) := (blk_cell BK226.out 2).trans rfl
    have hfs13 := blk_frozen BK226.out 2
    have hs14 : w10.cell? ⟨gb226, 3, none⟩ = some (.string x227003_1) := (blk_cell BK226.out 3).trans rfl
    have hfs14 := blk_frozen BK226.out 3
    refine skip_ (w1 := ?_) (by rfl) rfl ?_ ?_
    rotate_left
    ·go_simp
     rfl
    refine hK.out _ _ trivial (fun hHeld => ?_)
    clear hK K
    refine pure_ (i := 7) (N := some 3) (v := ?_) (a' := ?_) #[true,true,true,true,true,true,true,true,false] rfl rfl (any_of HT_.out (by kernel_rfl)) (fun _ _ _ h => h) (Or.inl ⟨by rfl, ?_⟩) ?_ ?_; rotate_left; (intro w'; go_simp; with_reducible rfl); rotate_left; (simp only [Act.put, List.setIfInBounds_toArray, List.set_cons_zero, List.set_cons_succ, i64_w, i32_w]; rfl)
    refine pure_ (i := 8) (N := some 4) (v := ?_) (a' := ?_) #[true,true,true,true,true,true,true,true,true] rfl rfl (any_of HT_.out (by kernel_rfl)) (fun _ _ _ h => h) (Or.inl ⟨by rfl, ?_⟩) ?_ ?_; rotate_left; (intro w'; go_simp; with_reducible rfl); rotate_left; (simp only [Act.put, List.setIfInBounds_toArray, List.set_cons_zero, List.set_cons_succ, i64_w, i32_w]; rfl)
    refine done_ (done_of HT_.out (by kernel_rfl)) ?_
    try go_wp2
    refine bodyPost_ret (results_ctt rfl _ _ gb226 60 #[.string ⟨#[]⟩, .int .i64 3, .int .i64 0, .string x5_1] (0, 0) _ rfl (by (repeat refine kq_ ?_); apply put5_; (repeat refine kq_ ?_); exact BK226.out) Tryz.underlying60 rfl (by kernel_rfl)) rfl ?_
    exact ⟨by first | rfl | (simp [errW_none, errW_some] <;> rfl) | (simp only [← hji7]; first | rfl | (simp [errW_none, errW_some] <;> rfl)) | (simp [*, errW_none, errW_some] <;> rfl) | (simp [q_ne_nil]; done), by repeat (first | (with_reducible first | exact HB.out | apply below_alloc | apply pw_below_drewN | apply below_drew1 | refine below_set ?_ GE226.out) | exact HB.out)⟩
   rw [if_neg c6] at H
   obtain ⟨c6b0, c6b1⟩ := eF_ c6
   have HC15 := Aside0.mk H
   clear H
   have p5 : 0 ≤ (x6_1 : Int) := of_decide_eq_true (by assumption)
   have q5 : x6_1 < (a0.size : Int) := of_decide_eq_true (by assumption)
   have hx5 := bt_at a0 x6_1
   replace p5 := eq_true p5
   replace q5 := eq_true q5
   go_upto_region 7 with (fail)
   go_cut [32] (fun v32 wc => ∃ (kq : Nat) (x32_14 : Bool), v32 = .bool x32_14 ∧ Aside0 (glacisref05_quoted.j1 kq a0 x5_1 x6_1 x32_14 = some (r1, r2, r3, r4, r5, r6)) ∧ Aside0 (kq ≤ k1) ∧ Aside0 (wc.heap[gb226]? = some (.cells #[.string x227000_1, .int .i64 x227001_1, .int .i64 x227002_1, .string x227003_1] 60 (0, 0))) ∧ Aside0 (Below w.heap.size w wc))
   case first =>
    have H := HC15.out
    clear HC15
    by_cases c17 : (bt a0 x6_1) < 32
    ·rw [if_pos c17] at H
     have c17b0 := decide_eq_true c17
     clear c17
     (first | rw [c17b0] | (simp only [i64_w, i32_w]; rw [c17b0]) | skip)
     have H' := Aside0.mk H
     clear H
     have p16 : 0 ≤ (x6_1 : Int) := of_decide_eq_true (by assumption)
     have q16 : x6_1 < (a0.size : Int) := of_decide_eq_true (by assumption)
     have hx16 := bt_at a0 x6_1
     replace p16 := eq_true p16
     replace q16 := eq_true q16
     go_wp2
     go_meet
     case rel => exact ⟨_, (true), (by first | rfl | simp [*]), H', ⟨by have := HK1.out; first | omega | exact Nat.le_refl _⟩, ⟨by (repeat refine kq_ ?_); exact BK226.out⟩, ⟨by repeat (first | (with_reducible first | exact HB.out | apply below_alloc | apply pw_below_drewN | apply below_drew1 | refine below_set ?_ GE226.out) | exact HB.out)⟩⟩
    rw [if_neg c17] at H
    have c17b0 := decide_eq_false c17
    clear c17
    (first | rw [c17b0] | (simp only [i64_w, i32_w]; rw [c17b0]) | skip)
    have H' := Aside0.mk H
    clear H
    have p16 : 0 ≤ (x6_1 : Int) := of_decide_eq_true (by assumption)
    have q16 : x6_1 < (a0.size : Int) := of_decide_eq_true (by assumption)
    have hx16 := bt_at a0 x6_1
    replace p16 := eq_true p16
    replace q16 := eq_true q16
    have p18 : 0 ≤ (x6_1 : Int) := of_decide_eq_true (by assumption)
    have q18 : x6_1 < (a0.size : Int) := of_decide_eq_true (by assumption)
    have hx18 := bt_at a0 x6_1
    replace p18 := eq_true p18
    replace q18 := eq_true q18
    go_wp2
    go_meet
    case rel => exact ⟨_, (decide ((bt a0 x6_1) > 126)), (by first | rfl | simp [*]), H', ⟨by have := HK1.out; first | omega | exact Nat.le_refl _⟩, ⟨by (repeat refine kq_ ?_); exact BK226.out⟩, ⟨by repeat (first | (with_reducible first | exact HB.out | apply below_alloc | apply pw_below_drewN | apply below_drew1 | refine below_set ?_ GE226.out) | exact HB.out)⟩⟩
   case rest =>
    clear HC15
    (try clear c1)
    obtain ⟨kq, x32_14, rfl, HA, HJ14, BK226, HB⟩ := hcut
    cases kq with
    | zero => exact absurd HA.out (by simp [glacisref05_quoted.j1])
    | succ kj14 =>
     have H := HA.out
     clear HA
     simp only [glacisref05_quoted.j1] at H
     by_cases c19 : x32_14 = true
     ·subst c19
      rw [if_pos rfl] at H
      simp only [Option.some.injEq, Prod.mk.injEq] at H
      obtain ⟨rfl, rfl, rfl, rfl, rfl, rfl⟩ := H
      have hcz20_0 : wc.cell? ⟨gb226, 0, none⟩ = some (.string x227000_1) := (blk_cell BK226.out 0).trans rfl
      have hcz20_1 : wc.cell? ⟨gb226, 1, none⟩ = some (.int .i64 x227001_1) := (blk_cell BK226.out 1).trans rfl
      have hcz20_2 : wc.cell? ⟨gb226, 2, none⟩ = some (.int .i64 x227002_1) := (blk_cell BK226.out 2).trans rfl
      have hcz20_3 : wc.cell? ⟨gb226, 3, none⟩ = some (.string x227003_1) := (blk_cell BK226.out 3).trans rfl
      have hfz20_0 := blk_frozen BK226.out 0
      have hfz20_1 := blk_frozen BK226.out 1
      have hfz20_2 := blk_frozen BK226.out 2
      have hfz20_3 := blk_frozen BK226.out 3
      go_wp2
      refine bodyPost_ret (results_ctt rfl _ _ gb226 60 #[.string ⟨#[]⟩, .int .i64 0, .int .i64 0, .string ⟨#[]⟩] (0, 0) _ rfl (by (repeat refine kq_ ?_); apply put5_; (repeat refine kq_ ?_); exact BK226.out) Tryz.underlying60 rfl (by kernel_rfl)) rfl ?_
      exact ⟨by first | rfl | simp [*, errW_none, errW_some, q_ne_nil], by repeat (first | (with_reducible first | exact HB.out | apply below_alloc | apply pw_below_drewN | apply below_drew1 | refine below_set ?_ GE226.out) | exact HB.out)⟩
     replace c19 := Bool.eq_false_iff.mpr c19
     subst c19
     rw [if_neg (show ¬ (false = true) by decide)] at H
     replace H := ifs_ H; obtain ⟨c21, H⟩ := H
     have c21b0 := decide_eq_true c21
     clear c21
     replace H := ifs_ H; obtain ⟨c22, H⟩ := H
     have c22b0 := decide_eq_true c22
     clear c22
     by_cases c24 : (bt a0 x6_1) = 92
     rotate_left
     ·rw [if_neg c24] at H
      obtain ⟨c24b0, c24b1⟩ := eF_ c24
      have c43b0 := eq_true (of_decide_eq_true (by assumption) : 0 ≤ x6_1)
      replace H := ifs_ H; obtain ⟨c44, H⟩ := H
      have c44b0 := eq_true c44
      have c44b1 := decide_eq_true c44
      replace H := ifs_ H; obtain ⟨c45, H⟩ := H
      have c45b0 := eq_true c45
      have c45b1 := decide_eq_true c45
      replace H := ifs_ H; obtain ⟨c46, H⟩ := H
      have c46b0 := eq_true c46
      have c46b1 := decide_eq_true c46
      try have c46b2 : (9223372036854775807 < x5_1.size + (a0.extract (x6_1 : Int).toNat ((wrap64 (x6_1 + 1)) : Int).toNat).size) = False := eq_false (Nat.not_lt.2 c46)
      have H' := Aside0.mk H
      clear H
      have p23 : 0 ≤ (x6_1 : Int) := of_decide_eq_true (by assumption)
      have q23 : x6_1 < (a0.size : Int) := of_decide_eq_true (by assumption)
      have hx23 := bt_at a0 x6_1
      replace p23 := eq_true p23
      replace q23 := eq_true q23
      go_wp2
      go_roundg kj14
      case measure => have := HK1.out; have := HJ14.out; omega
      case rel => exact ⟨(x5_1 ++ (a0.extract (x6_1 : Int).toNat ((wrap64 (x6_1 + 1)) : Int).toNat)), (wrap64 (x6_1 + 1)), (x227000_1), (x227001_1), (x227002_1), (x227003_1), (by first | rfl | simp [*]), (by first | rfl | simp [*]), H', ⟨by have := HK1.out; have := HJ14.out; omega⟩, ⟨by (repeat refine kq_ ?_); exact BK226.out⟩, ⟨by repeat (first | (with_reducible first | exact HB.out | apply below_alloc | apply pw_below_drewN | apply below_drew1 | refine below_set ?_ GE226.out) | exact HB.out)⟩⟩
     rw [if_pos c24] at H
     obtain ⟨c24b0, c24b1⟩ := eT_ c24
     clear c24
     by_cases c25 : (wrap64 (x6_1 + 1)) = (a0.size : Int)
     ·rw [if_pos c25] at H
      obtain ⟨c25b0, c25b1⟩ := eT_ c25
      clear c25
      simp only [Option.some.injEq, Prod.mk.injEq] at H
      obtain ⟨rfl, rfl, rfl, rfl, rfl, rfl⟩ := H
      have p23 : 0 ≤ (x6_1 : Int) := of_decide_eq_true (by assumption)
      have q23 : x6_1 < (a0.size : Int) := of_decide_eq_true (by assumption)
      have hx23 := bt_at a0 x6_1
      replace p23 := eq_true p23
      replace q23 := eq_true q23
      have hcz26_0 : wc.cell? ⟨gb226, 0, none⟩ = some (.string x227000_1) := (blk_cell BK226.out 0).trans rfl
      have hcz26_1 : wc.cell? ⟨gb226, 1, none⟩ = some (.int .i64 x227001_1) := (blk_cell BK226.out 1).trans rfl
      have hcz26_2 : wc.cell? ⟨gb226, 2, none⟩ = some (.int .i64 x227002_1) := (blk_cell BK226.out 2).trans rfl
      have hcz26_3 : wc.cell? ⟨gb226, 3, none⟩ = some (.string x227003_1) := (blk_cell BK226.out 3).trans rfl
      have hfz26_0 := blk_frozen BK226.out 0
      have hfz26_1 := blk_frozen BK226.out 1
      have hfz26_2 := blk_frozen BK226.out 2
      have hfz26_3 := blk_frozen BK226.out 3
      go_wp2
      refine bodyPost_ret (results_ctt rfl _ _ gb226 60 #[.string ⟨#[]⟩, .int .i64 0, .int .i64 0, .string ⟨#[]⟩] (0, 0) _ rfl (by (repeat refine kq_ ?_); apply put5_; (repeat refine kq_ ?_); exact BK226.out) Tryz.underlying60 rfl (by kernel_rfl)) rfl ?_
      exact ⟨by first | rfl | simp [*, errW_none, errW_some, q_ne_nil], by repeat (first | (with_reducible first | exact HB.out | apply below_alloc | apply pw_below_drewN | apply below_drew1 | refine below_set ?_ GE226.out) | exact HB.out)⟩
     rw [if_neg c25] at H
     obtain ⟨c25b0, c25b1⟩ := eF_ c25
     obtain ⟨ji27, hji27⟩ : ∃ j_ : Int, (wrap64 (x6_1 + 1)) = j_ := ⟨_, rfl⟩
     replace H : (if 0 ≤ (ji27) then (if (ji27) < (a0.size : Int) then (if (bt a0 (ji27)) = 34 then (if (ji27) ≤ (wrap64 ((ji27) + 1)) then (if (wrap64 ((ji27) + 1)) ≤ (a0.size : Int) then (if x5_1.size + (a0.extract ((ji27) : Int).toNat ((wrap64 ((ji27) + 1)) : Int).toNat).size ≤ 9223372036854775807 then (glacisref05_quoted.l0 kj14 a0 (x5_1 ++ (a0.extract ((ji27) : Int).toNat ((wrap64 ((ji27) + 1)) : Int).toNat)) (wrap64 ((ji27) + 1))) else (none)) else (none)) else (none)) else (if (bt a0 (ji27)) = 92 then (if (ji27) ≤ (wrap64 ((ji27) + 1)) then (if (wrap64 ((ji27) + 1)) ≤ (a0.size : Int) then (if x5_1.size + (a0.extract ((ji27) : Int).toNat ((wrap64 ((ji27) + 1)) : Int).toNat).size ≤ 9223372036854775807 then (glacisref05_quoted.l0 kj14 a0 (x5_1 ++ (a0.extract ((ji27) : Int).toNat ((wrap64 ((ji27) + 1)) : Int).toNat)) (wrap64 ((ji27) + 1))) else (none)) else (none)) else (none)) else (some ((⟨#[]⟩ : ByteArray), 0, 0, (⟨#[]⟩ : ByteArray), (⟨#[]⟩ : ByteArray), false)))) else (none)) else (none)) = some (r1, r2, r3, r4, r5, r6) := by first | (rw [hji27] at H; exact H) | (simp only [hji27] at H ⊢; exact H)
     (try rw [hji27] at c25b0)
     (try rw [hji27] at c25b1)
     have hji27w : (IntKind.i64.wrap (x6_1 + 1)) = ji27 := (i64_w _).trans hji27
     replace H := ifs_ H; obtain ⟨c28, H⟩ := H
     have c28b0 := decide_eq_true c28
     clear c28
     replace H := ifs_ H; obtain ⟨c29, H⟩ := H
     have c29b0 := decide_eq_true c29
     clear c29
     by_cases c31 : (bt a0 (ji27)) = 34
     ·rw [if_pos c31] at H
      obtain ⟨c31b0, c31b1⟩ := eT_ c31
      clear c31
      have c32b0 := eq_true (of_decide_eq_true (by assumption) : 0 ≤ (ji27))
      replace H := ifs_ H; obtain ⟨c33, H⟩ := H
      have c33b0 := eq_true c33
      have c33b1 := decide_eq_true c33
      replace H := ifs_ H; obtain ⟨c34, H⟩ := H
      have c34b0 := eq_true c34
      have c34b1 := decide_eq_true c34
      replace H := ifs_ H; obtain ⟨c35, H⟩ := H
      have c35b0 := eq_true c35
      have c35b1 := decide_eq_true c35
      try have c35b2 : (9223372036854775807 < x5_1.size + (a0.extract ((ji27) : Int).toNat ((wrap64 ((ji27) + 1)) : Int).toNat).size) = False := eq_false (Nat.not_lt.2 c35)
      have H' := Aside0.mk H
      clear H
      have p23 : 0 ≤ (x6_1 : Int) := of_decide_eq_true (by assumption)
      have q23 : x6_1 < (a0.size : Int) := of_decide_eq_true (by assumption)
      have hx23 := bt_at a0 x6_1
      replace p23 := eq_true p23
      replace q23 := eq_true q23
      have p30 : 0 ≤ ((ji27) : Int) := of_decide_eq_true (by assumption)
      have q30 : (ji27) < (a0.size : Int) := of_decide_eq_true (by assumption)
      have hx30 := bt_at a0 (ji27)
      replace p30 := eq_true p30
      replace q30 := eq_true q30
      go_wp2
      go_roundg kj14
      case measure => have := HK1.out; have := HJ14.out; omega
      case rel => exact ⟨(x5_1 ++ (a0.extract ((ji27) : Int).toNat ((wrap64 ((ji27) + 1)) : Int).toNat)), (wrap64 ((ji27) + 1)), (x227000_1), (x227001_1), (x227002_1), (x227003_1), (by first | rfl | (simp; done) | (simp only [← hji27] <;> (first | rfl | simp)) | (simp [*]; done) | (simp [q_ne_nil]; done)), (by first | rfl | (simp; done) | (simp only [← hji27] <;> (first | rfl | simp)) | (simp [*]; done) | (simp [q_ne_nil]; done)), H', ⟨by have := HK1.out; have := HJ14.out; omega⟩, ⟨by (repeat refine kq_ ?_); exact BK226.out⟩, ⟨by repeat (first | (with_reducible first | exact HB.out | apply below_alloc | apply pw_below_drewN | apply below_drew1 | refine below_set ?_ GE226.out) | exact HB.out)⟩⟩
     rw [if_neg c31] at H
     obtain ⟨c31b0, c31b1⟩ := eF_ c31
     by_cases c37 : (bt a0 (ji27)) = 92
     ·rw [if_pos c37] at H
      obtain ⟨c37b0, c37b1⟩ := eT_ c37
      clear c37
      have c38b0 := eq_true (of_decide_eq_true (by assumption) : 0 ≤ (ji27))
      replace H := ifs_ H; obtain ⟨c39, H⟩ := H
      have c39b0 := eq_true c39
      have c39b1 := decide_eq_true c39
      replace H := ifs_ H; obtain ⟨c40, H⟩ := H
      have c40b0 := eq_true c40
      have c40b1 := decide_eq_true c40
      replace H := ifs_ H; obtain ⟨c41, H⟩ := H
      have c41b0 := eq_true c41
      have c41b1 := decide_eq_true c41
      try have c41b2 : (9223372036854775807 < x5_1.size + (a0.extract ((ji27) : Int).toNat ((wrap64 ((ji27) + 1)) : Int).toNat).size) = False := eq_false (Nat.not_lt.2 c41)
      have H' := Aside0.mk H
      clear H
      have p23 : 0 ≤ (x6_1 : Int) := of_decide_eq_true (by assumption)
      have q23 : x6_1 < (a0.size : Int) := of_decide_eq_true (by assumption)
      have hx23 := bt_at a0 x6_1
      replace p23 := eq_true p23
      replace q23 := eq_true q23
      have p30 : 0 ≤ ((ji27) : Int) := of_decide_eq_true (by assumption)
      have q30 : (ji27) < (a0.size : Int) := of_decide_eq_true (by assumption)
      have hx30 := bt_at a0 (ji27)
      replace p30 := eq_true p30
      replace q30 := eq_true q30
      have p36 : 0 ≤ ((ji27) : Int) := of_decide_eq_true (by assumption)
      have q36 : (ji27) < (a0.size : Int) := of_decide_eq_true (by assumption)
      have hx36 := bt_at a0 (ji27)
      replace p36 := eq_true p36
      replace q36 := eq_true q36
      go_wp2
      go_roundg kj14
      case measure => have := HK1.out; have := HJ14.out; omega
      case rel => exact ⟨(x5_1 ++ (a0.extract ((ji27) : Int).toNat ((wrap64 ((ji27) + 1)) : Int).toNat)), (wrap64 ((ji27) + 1)), (x227000_1), (x227001_1), (x227002_1), (x227003_1), (by first | rfl | (simp; done) | (simp only [← hji27] <;> (first | rfl | simp)) | (simp [*]; done) | (simp [q_ne_nil]; done)), (by first | rfl | (simp; done) | (simp only [← hji27] <;> (first | rfl | simp)) | (simp [*]; done) | (simp [q_ne_nil]; done)), H', ⟨by have := HK1.out; have := HJ14.out; omega⟩, ⟨by (repeat refine kq_ ?_); exact BK226.out⟩, ⟨by repeat (first | (with_reducible first | exact HB.out | apply below_alloc | apply pw_below_drewN | apply below_drew1 | refine below_set ?_ GE226.out) | exact HB.out)⟩⟩
     rw [if_neg c37] at H
     obtain ⟨c37b0, c37b1⟩ := eF_ c37
     simp only [Option.some.injEq, Prod.mk.injEq] at H
     obtain ⟨rfl, rfl, rfl, rfl, rfl, rfl⟩ := H
     have p23 : 0 ≤ (x6_1 : Int) := of_decide_eq_true (by assumption)
     have q23 : x6_1 < (a0.size : Int) := of_decide_eq_true (by assumption)
     have hx23 := bt_at a0 x6_1
     replace p23 := eq_true p23
     replace q23 := eq_true q23
     have p30 : 0 ≤ ((ji27) : Int) := of_decide_eq_true (by assumption)
     have q30 : (ji27) < (a0.size : Int) := of_decide_eq_true (by assumption)
     have hx30 := bt_at a0 (ji27)
     replace p30 := eq_true p30
     replace q30 := eq_true q30
     have p36 : 0 ≤ ((ji27) : Int) := of_decide_eq_true (by assumption)
     have q36 : (ji27) < (a0.size : Int) := of_decide_eq_true (by assumption)
     have hx36 := bt_at a0 (ji27)
     replace p36 := eq_true p36
     replace q36 := eq_true q36
     have hcz42_0 : wc.cell? ⟨gb226, 0, none⟩ = some (.string x227000_1) := (blk_cell BK226.out 0).trans rfl
     have hcz42_1 : wc.cell? ⟨gb226, 1, none⟩ = some (.int .i64 x227001_1) := (blk_cell BK226.out 1).trans rfl
     have hcz42_2 : wc.cell? ⟨gb226, 2, none⟩ = some (.int .i64 x227002_1) := (blk_cell BK226.out 2).trans rfl
     have hcz42_3 : wc.cell? ⟨gb226, 3, none⟩ = some (.string x227003_1) := (blk_cell BK226.out 3).trans rfl
     have hfz42_0 := blk_frozen BK226.out 0
     have hfz42_1 := blk_frozen BK226.out 1
     have hfz42_2 := blk_frozen BK226.out 2
     have hfz42_3 := blk_frozen BK226.out 3
     go_wp2
     refine bodyPost_ret (results_ctt rfl _ _ gb226 60 #[.string ⟨#[]⟩, .int .i64 0, .int .i64 0, .string ⟨#[]⟩] (0, 0) _ rfl (by (repeat refine kq_ ?_); apply put5_; (repeat refine kq_ ?_); exact BK226.out) Tryz.underlying60 rfl (by kernel_rfl)) rfl ?_
     exact ⟨by first | rfl | (simp [errW_none, errW_some] <;> rfl) | (simp only [← hji27]; first | rfl | (simp [errW_none, errW_some] <;> rfl)) | (simp [*, errW_none, errW_some] <;> rfl) | (simp [q_ne_nil]; done), by repeat (first | (with_reducible first | exact HB.out | apply below_alloc | apply pw_below_drewN | apply below_drew1 | refine below_set ?_ GE226.out) | exact HB.out)⟩
def glacisref01_In.l0 : Nat → Int → ByteArray → Int → Option (Bool)
 | 0, _, _, _ => none
 | k + 1, x0, x1, x5 => if x5 < (x1.size : Int) then (if 0 ≤ x5 then (if (bt x1 x5) = x0 then (some true) else (glacisref01_In.l0 k x0 x1 (wrap64 (x5 + 1)))) else (none)) else (some false)
def glacisref01_In.f (k : Nat) (a0 : Int) (a1 : ByteArray) : Option (Bool) := glacisref01_In.l0 k a0 a1 0
theorem glacisref01_In.mono_l : ∀ k, (∀ y0 y1 y2, LeO (glacisref01_In.l0 k y0 y1 y2) (glacisref01_In.l0 (k + 1) y0 y1 y2))
 | 0 => fun _ _ _ r h => by simp [glacisref01_In.l0] at h
 | k + 1 => by
  have ih0 := glacisref01_In.mono_l k
  intro y0 y1 y2
  unfold glacisref01_In.l0
  repeat' first
  | (with_reducible exact ih0 _ _ _)
  | (with_reducible exact LeO.refl _)
  | (with_reducible exact LeO.none _)
  | (with_reducible refine LeO.ite ?_ ?_)
  | (with_reducible refine LeO.bind ?_ (fun _ => ?_))
  | exact ih0 _ _ _
  | exact LeO.none _
  | refine LeO.ite ?_ ?_
  | refine LeO.bind ?_ (fun _ => ?_)
theorem glacisref01_In.mono : ∀ a0 a1 k, LeO (glacisref01_In.f k a0 a1) (glacisref01_In.f (k + 1) a0 a1) := by
 intro a0 a1 k
 have ih0 := glacisref01_In.mono_l k
 unfold glacisref01_In.f
 repeat' first
   | (with_reducible exact ih0 _ _ _)
   | (with_reducible exact LeO.refl _)
   | (with_reducible exact LeO.none _)
   | (with_reducible refine LeO.ite ?_ ?_)
   | (with_reducible refine LeO.bind ?_ (fun _ => ?_))
   | exact ih0 _ _ _
   | exact LeO.none _
   | refine LeO.ite ?_ ?_
   | refine LeO.bind ?_ (fun _ => ?_)
theorem glacisref01_In.calls (k : Nat) (a0 : Int) (a1 : ByteArray) (r : Bool) (w : World) (h : glacisref01_In.f k a0 a1 = some r) :
  Calls Tryz.prog 138 #[.int .u8 a0, .string a1] w fun e w' => e = .returned (.bool r) ∧ Drawn0 w w' := by
 have H : (glacisref01_In.l0 k a0 a1 0) = some r := h
 clear h
 have H' := Aside0.mk H
 clear H
 go_enter Tryz.func138, Tryz.ntmps138
 go_wp2
 go_loopg [5] k (fun kq v5 w' => ∃ (x5_1 : Int), v5 = .int .i64 x5_1 ∧ Aside0 (glacisref01_In.l0 kq a0 a1 x5_1 = some r) ∧ Aside0 (kq ≤ k) ∧ Drawn0 w w')
 case atStart => exact ⟨(0), (by first | rfl | simp [*]), H', ⟨Nat.le_refl _⟩, by repeat (first | exact Drawn0.refl _ | apply Drawn0.step)⟩
 case round =>
  clear H'
  (try clear c1)
  obtain ⟨x5_1, rfl, HA, HK1, ⟨m1, rfl⟩⟩ := hrel
  cases gk with
  | zero => exact absurd HA.out (by simp [glacisref01_In.l0])
  | succ k1 =>
   have H := HA.out
   clear HA
   simp only [glacisref01_In.l0] at H
   by_cases c3 : x5_1 < (a1.size : Int)
   rotate_left
   ·rw [if_neg c3] at H
    have c3b0 := decide_eq_false c3
    clear c3
    obtain rfl := Option.some.inj H
    go_wp2
    go_ret
    exact ⟨by first | rfl | simp [*], by repeat (first | exact Drawn0.refl _ | apply Drawn0.step)⟩
   rw [if_pos c3] at H
   have c3b0 := decide_eq_true c3
   clear c3
   replace H := ifs_ H; obtain ⟨c4, H⟩ := H
   have c4b0 := decide_eq_true c4
   clear c4
   by_cases c6 : (bt a1 x5_1) = a0
   ·rw [if_pos c6] at H
    obtain ⟨c6b0, c6b1⟩ := eT_ c6
    clear c6
    obtain rfl := Option.some.inj H
    have p5 : 0 ≤ (x5_1 : Int) := of_decide_eq_true (by assumption)
    have q5 : x5_1 < (a1.size : Int) := of_decide_eq_true (by assumption)
    have hx5 := bt_at a1 x5_1
    replace p5 := eq_true p5
    replace q5 := eq_true q5
    go_wp2
    go_ret
    exact ⟨by first | rfl | simp [*], by repeat (first | exact Drawn0.refl _ | apply Drawn0.step)⟩
   rw [if_neg c6] at H
   obtain ⟨c6b0, c6b1⟩ := eF_ c6
   have H' := Aside0.mk H
   clear H
   have p5 : 0 ≤ (x5_1 : Int) := of_decide_eq_true (by assumption)
   have q5 : x5_1 < (a1.size : Int) := of_decide_eq_true (by assumption)
   have hx5 := bt_at a1 x5_1
   replace p5 := eq_true p5
   replace q5 := eq_true q5
   go_wp2
   go_roundg k1
   case measure => have := HK1.out; omega
   case rel => exact ⟨(wrap64 (x5_1 + 1)), (by first | rfl | simp [*]), H', ⟨by have := HK1.out; omega⟩, by repeat (first | exact Drawn0.refl _ | apply Drawn0.step)⟩
def glacisref01_Tchar.f (k : Nat) (a0 : Int) : Option (Bool) := (glacisref01_Letter.f a0).bind fun t227 => ((glacisref01_Digit.f a0).bind fun t228 => ((glacisref01_In.f k a0 (⟨#[33, 35, 36, 37, 38, 39, 42, 43, 45, 46, 94, 95, 124, 126]⟩ : ByteArray)).bind fun t229 => (if t229 = true then (if t227 = true then (some true) else (if t228 = true then (some true) else (some true))) else (if t227 = true then (some true) else (if t228 = true then (some true) else (some (a0 == 96)))))))
theorem glacisref01_Tchar.mono : ∀ a0 k, LeO (glacisref01_Tchar.f k a0) (glacisref01_Tchar.f (k + 1) a0) := by
 intro a0 k
 unfold glacisref01_Tchar.f
 repeat' first
   | (with_reducible exact glacisref01_In.mono _ _ _)
   | (with_reducible exact LeO.refl _)
   | (with_reducible exact LeO.none _)
   | (with_reducible refine LeO.ite ?_ ?_)
   | (with_reducible refine LeO.bind ?_ (fun _ => ?_))
   | exact glacisref01_In.mono _ _ _
   | exact LeO.none _
   | refine LeO.ite ?_ ?_
   | refine LeO.bind ?_ (fun _ => ?_)
theorem glacisref01_Tchar.calls (k : Nat) (a0 : Int) (r : Bool) (w : World) (h : glacisref01_Tchar.f k a0 = some r) :
  Calls Tryz.prog 127 #[.int .u8 a0] w fun e w' => e = .returned (.bool r) ∧ Drawn0 w w' := by
 have H : ((glacisref01_Letter.f a0).bind fun t227 => ((glacisref01_Digit.f a0).bind fun t228 => ((glacisref01_In.f k a0 (⟨#[33, 35, 36, 37, 38, 39, 42, 43, 45, 46, 94, 95, 124, 126]⟩ : ByteArray)).bind fun t229 => (if t229 = true then (if t227 = true then (some true) else (if t228 = true then (some true) else (some true))) else (if t227 = true then (some true) else (if t228 = true then (some true) else (some (a0 == 96)))))))) = some r := h
 clear h
 replace H := Option.bind_eq_some_iff.mp H
 obtain ⟨t227, A20, H⟩ := H
 (try dsimp only at H)
 have A2 := Aside0.mk A20
 clear A20
 replace H := Option.bind_eq_some_iff.mp H
 obtain ⟨t228, A30, H⟩ := H
 (try dsimp only at H)
 have A3 := Aside0.mk A30
 clear A30
 replace H := Option.bind_eq_some_iff.mp H
 obtain ⟨t229, A40, H⟩ := H
 (try dsimp only at H)
 have A4 := Aside0.mk A40
 clear A40
 by_cases c5 : t229 = true
 ·subst c5
  rw [if_pos rfl] at H
  by_cases c6 : t227 = true
  ·subst c6
   rw [if_pos rfl] at H
   obtain rfl := Option.some.inj H
   go_enter Tryz.func127, Tryz.ntmps127
   go_wp2_with (first | ((with_reducible refine gate_callee (f := 111) rfl ?_); refine goesL_ (some 7) rfl rfl Tryz.func111 (by kernel_rfl) rfl #[.int .u8 a0] rfl (by simp only [List.map_toArray, List.map_cons, List.map_nil] <;> rfl) ?_; (with_reducible refine (glacisref01_Letter.calls a0 true _ A2.out).mono ?_); rintro e w' ⟨rfl, ⟨nd, rfl⟩⟩; refine ⟨_, rfl, ?_⟩) | ((with_reducible refine gate_callee (f := 112) rfl ?_); refine goesL_ (some 9) rfl rfl Tryz.func112 (by kernel_rfl) rfl #[.int .u8 a0] rfl (by simp only [List.map_toArray, List.map_cons, List.map_nil] <;> rfl) ?_; (with_reducible refine (glacisref01_Digit.calls a0 t228 _ A3.out).mono ?_); rintro e w' ⟨rfl, ⟨nd, rfl⟩⟩; refine ⟨_, rfl, ?_⟩) | ((with_reducible refine gate_callee (f := 138) rfl ?_); refine goesL_ (some 11) rfl rfl Tryz.func138 (by kernel_rfl) rfl #[.int .u8 a0, .string ⟨#[33, 35, 36, 37, 38, 39, 42, 43, 45, 46, 94, 95, 124, 126]⟩] rfl (by simp only [List.map_toArray, List.map_cons, List.map_nil] <;> rfl) ?_; (with_reducible refine (glacisref01_In.calls k a0 (⟨#[33, 35, 36, 37, 38, 39, 42, 43, 45, 46, 94, 95, 124, 126]⟩ : ByteArray) true _ A4.out).mono ?_); rintro e w' ⟨rfl, ⟨nd, rfl⟩⟩; refine ⟨_, rfl, ?_⟩))
   go_ret
   exact ⟨by first | rfl | simp [*], by repeat (first | exact Drawn0.refl _ | apply Drawn0.step)⟩
  replace c6 := Bool.eq_false_iff.mpr c6
  subst c6
  rw [if_neg (show ¬ (false = true) by decide)] at H
  by_cases c7 : t228 = true
  ·subst c7
   rw [if_pos rfl] at H
   obtain rfl := Option.some.inj H
   go_enter Tryz.func127, Tryz.ntmps127
   go_wp2_with (first | ((with_reducible refine gate_callee (f := 111) rfl ?_); refine goesL_ (some 7) rfl rfl Tryz.func111 (by kernel_rfl) rfl #[.int .u8 a0] rfl (by simp only [List.map_toArray, List.map_cons, List.map_nil] <;> rfl) ?_; (with_reducible refine (glacisref01_Letter.calls a0 false _ A2.out).mono ?_); rintro e w' ⟨rfl, ⟨nd, rfl⟩⟩; refine ⟨_, rfl, ?_⟩) | ((with_reducible refine gate_callee (f := 112) rfl ?_); refine goesL_ (some 9) rfl rfl Tryz.func112 (by kernel_rfl) rfl #[.int .u8 a0] rfl (by simp only [List.map_toArray, List.map_cons, List.map_nil] <;> rfl) ?_; (with_reducible refine (glacisref01_Digit.calls a0 true _ A3.out).mono ?_); rintro e w' ⟨rfl, ⟨nd, rfl⟩⟩; refine ⟨_, rfl, ?_⟩) | ((with_reducible refine gate_callee (f := 138) rfl ?_); refine goesL_ (some 11) rfl rfl Tryz.func138 (by kernel_rfl) rfl #[.int .u8 a0, .string ⟨#[33, 35, 36, 37, 38, 39, 42, 43, 45, 46, 94, 95, 124, 126]⟩] rfl (by simp only [List.map_toArray, List.map_cons, List.map_nil] <;> rfl) ?_; (with_reducible refine (glacisref01_In.calls k a0 (⟨#[33, 35, 36, 37, 38, 39, 42, 43, 45, 46, 94, 95, 124, 126]⟩ : ByteArray) true _ A4.out).mono ?_); rintro e w' ⟨rfl, ⟨nd, rfl⟩⟩; refine ⟨_, rfl, ?_⟩))
   go_ret
   exact ⟨by first | rfl | simp [*], by repeat (first | exact Drawn0.refl _ | apply Drawn0.step)⟩
  replace c7 := Bool.eq_false_iff.mpr c7
  subst c7
  rw [if_neg (show ¬ (false = true) by decide)] at H
  obtain rfl := Option.some.inj H
  go_enter Tryz.func127, Tryz.ntmps127
  go_wp2_with (first | ((with_reducible refine gate_callee (f := 111) rfl ?_); refine goesL_ (some 7) rfl rfl Tryz.func111 (by kernel_rfl) rfl #[.int .u8 a0] rfl (by simp only [List.map_toArray, List.map_cons, List.map_nil] <;> rfl) ?_; (with_reducible refine (glacisref01_Letter.calls a0 false _ A2.out).mono ?_); rintro e w' ⟨rfl, ⟨nd, rfl⟩⟩; refine ⟨_, rfl, ?_⟩) | ((with_reducible refine gate_callee (f := 112) rfl ?_); refine goesL_ (some 9) rfl rfl Tryz.func112 (by kernel_rfl) rfl #[.int .u8 a0] rfl (by simp only [List.map_toArray, List.map_cons, List.map_nil] <;> rfl) ?_; (with_reducible refine (glacisref01_Digit.calls a0 false _ A3.out).mono ?_); rintro e w' ⟨rfl, ⟨nd, rfl⟩⟩; refine ⟨_, rfl, ?_⟩) | ((with_reducible refine gate_callee (f := 138) rfl ?_); refine goesL_ (some 11) rfl rfl Tryz.func138 (by kernel_rfl) rfl #[.int .u8 a0, .string ⟨#[33, 35, 36, 37, 38, 39, 42, 43, 45, 46, 94, 95, 124, 126]⟩] rfl (by simp only [List.map_toArray, List.map_cons, List.map_nil] <;> rfl) ?_; (with_reducible refine (glacisref01_In.calls k a0 (⟨#[33, 35, 36, 37, 38, 39, 42, 43, 45, 46, 94, 95, 124, 126]⟩ : ByteArray) true _ A4.out).mono ?_); rintro e w' ⟨rfl, ⟨nd, rfl⟩⟩; refine ⟨_, rfl, ?_⟩))
  go_ret
  exact ⟨by first | rfl | simp [*], by repeat (first | exact Drawn0.refl _ | apply Drawn0.step)⟩
 replace c5 := Bool.eq_false_iff.mpr c5
 subst c5
 rw [if_neg (show ¬ (false = true) by decide)] at H
 by_cases c8 : t227 = true
 ·subst c8
  rw [if_pos rfl] at H
  obtain rfl := Option.some.inj H
  go_enter Tryz.func127, Tryz.ntmps127
  go_wp2_with (first | ((with_reducible refine gate_callee (f := 111) rfl ?_); refine goesL_ (some 7) rfl rfl Tryz.func111 (by kernel_rfl) rfl #[.int .u8 a0] rfl (by simp only [List.map_toArray, List.map_cons, List.map_nil] <;> rfl) ?_; (with_reducible refine (glacisref01_Letter.calls a0 true _ A2.out).mono ?_); rintro e w' ⟨rfl, ⟨nd, rfl⟩⟩; refine ⟨_, rfl, ?_⟩) | ((with_reducible refine gate_callee (f := 112) rfl ?_); refine goesL_ (some 9) rfl rfl Tryz.func112 (by kernel_rfl) rfl #[.int .u8 a0] rfl (by simp only [List.map_toArray, List.map_cons, List.map_nil] <;> rfl) ?_; (with_reducible refine (glacisref01_Digit.calls a0 t228 _ A3.out).mono ?_); rintro e w' ⟨rfl, ⟨nd, rfl⟩⟩; refine ⟨_, rfl, ?_⟩) | ((with_reducible refine gate_callee (f := 138) rfl ?_); refine goesL_ (some 11) rfl rfl Tryz.func138 (by kernel_rfl) rfl #[.int .u8 a0, .string ⟨#[33, 35, 36, 37, 38, 39, 42, 43, 45, 46, 94, 95, 124, 126]⟩] rfl (by simp only [List.map_toArray, List.map_cons, List.map_nil] <;> rfl) ?_; (with_reducible refine (glacisref01_In.calls k a0 (⟨#[33, 35, 36, 37, 38, 39, 42, 43, 45, 46, 94, 95, 124, 126]⟩ : ByteArray) false _ A4.out).mono ?_); rintro e w' ⟨rfl, ⟨nd, rfl⟩⟩; refine ⟨_, rfl, ?_⟩))
  go_ret
  exact ⟨by first | rfl | simp [*], by repeat (first | exact Drawn0.refl _ | apply Drawn0.step)⟩
 replace c8 := Bool.eq_false_iff.mpr c8
 subst c8
 rw [if_neg (show ¬ (false = true) by decide)] at H
 by_cases c9 : t228 = true
 ·subst c9
  rw [if_pos rfl] at H
  obtain rfl := Option.some.inj H
  go_enter Tryz.func127, Tryz.ntmps127
  go_wp2_with (first | ((with_reducible refine gate_callee (f := 111) rfl ?_); refine goesL_ (some 7) rfl rfl Tryz.func111 (by kernel_rfl) rfl #[.int .u8 a0] rfl (by simp only [List.map_toArray, List.map_cons, List.map_nil] <;> rfl) ?_; (with_reducible refine (glacisref01_Letter.calls a0 false _ A2.out).mono ?_); rintro e w' ⟨rfl, ⟨nd, rfl⟩⟩; refine ⟨_, rfl, ?_⟩) | ((with_reducible refine gate_callee (f := 112) rfl ?_); refine goesL_ (some 9) rfl rfl Tryz.func112 (by kernel_rfl) rfl #[.int .u8 a0] rfl (by simp only [List.map_toArray, List.map_cons, List.map_nil] <;> rfl) ?_; (with_reducible refine (glacisref01_Digit.calls a0 true _ A3.out).mono ?_); rintro e w' ⟨rfl, ⟨nd, rfl⟩⟩; refine ⟨_, rfl, ?_⟩) | ((with_reducible refine gate_callee (f := 138) rfl ?_); refine goesL_ (some 11) rfl rfl Tryz.func138 (by kernel_rfl) rfl #[.int .u8 a0, .string ⟨#[33, 35, 36, 37, 38, 39, 42, 43, 45, 46, 94, 95, 124, 126]⟩] rfl (by simp only [List.map_toArray, List.map_cons, List.map_nil] <;> rfl) ?_; (with_reducible refine (glacisref01_In.calls k a0 (⟨#[33, 35, 36, 37, 38, 39, 42, 43, 45, 46, 94, 95, 124, 126]⟩ : ByteArray) false _ A4.out).mono ?_); rintro e w' ⟨rfl, ⟨nd, rfl⟩⟩; refine ⟨_, rfl, ?_⟩))
  go_ret
  exact ⟨by first | rfl | simp [*], by repeat (first | exact Drawn0.refl _ | apply Drawn0.step)⟩
 replace c9 := Bool.eq_false_iff.mpr c9
 subst c9
 rw [if_neg (show ¬ (false = true) by decide)] at H
 obtain rfl := Option.some.inj H
 go_enter Tryz.func127, Tryz.ntmps127
 go_wp2_with (first | ((with_reducible refine gate_callee (f := 111) rfl ?_); refine goesL_ (some 7) rfl rfl Tryz.func111 (by kernel_rfl) rfl #[.int .u8 a0] rfl (by simp only [List.map_toArray, List.map_cons, List.map_nil] <;> rfl) ?_; (with_reducible refine (glacisref01_Letter.calls a0 false _ A2.out).mono ?_); rintro e w' ⟨rfl, ⟨nd, rfl⟩⟩; refine ⟨_, rfl, ?_⟩) | ((with_reducible refine gate_callee (f := 112) rfl ?_); refine goesL_ (some 9) rfl rfl Tryz.func112 (by kernel_rfl) rfl #[.int .u8 a0] rfl (by simp only [List.map_toArray, List.map_cons, List.map_nil] <;> rfl) ?_; (with_reducible refine (glacisref01_Digit.calls a0 false _ A3.out).mono ?_); rintro e w' ⟨rfl, ⟨nd, rfl⟩⟩; refine ⟨_, rfl, ?_⟩) | ((with_reducible refine gate_callee (f := 138) rfl ?_); refine goesL_ (some 11) rfl rfl Tryz.func138 (by kernel_rfl) rfl #[.int .u8 a0, .string ⟨#[33, 35, 36, 37, 38, 39, 42, 43, 45, 46, 94, 95, 124, 126]⟩] rfl (by simp only [List.map_toArray, List.map_cons, List.map_nil] <;> rfl) ?_; (with_reducible refine (glacisref01_In.calls k a0 (⟨#[33, 35, 36, 37, 38, 39, 42, 43, 45, 46, 94, 95, 124, 126]⟩ : ByteArray) false _ A4.out).mono ?_); rintro e w' ⟨rfl, ⟨nd, rfl⟩⟩; refine ⟨_, rfl, ?_⟩))
 go_ret
 exact ⟨by first | rfl | simp [*], by repeat (first | exact Drawn0.refl _ | apply Drawn0.step)⟩
def glacisref05_tokens.f (k : Nat) (a0 : Int) : Option (Bool) := (glacisref01_Tchar.f k a0).bind fun t230 => (if t230 = true then (some true) else (if a0 = 58 then (some true) else (some (a0 == 47))))
theorem glacisref05_tokens.mono : ∀ a0 k, LeO (glacisref05_tokens.f k a0) (glacisref05_tokens.f (k + 1) a0) := by
 intro a0 k
 unfold glacisref05_tokens.f
 repeat' first
   | (with_reducible exact glacisref01_Tchar.mono _ _)
   | (with_reducible exact LeO.refl _)
   | (with_reducible exact LeO.none _)
   | (with_reducible refine LeO.ite ?_ ?_)
   | (with_reducible refine LeO.bind ?_ (fun _ => ?_))
   | exact glacisref01_Tchar.mono _ _
   | exact LeO.none _
   | refine LeO.ite ?_ ?_
   | refine LeO.bind ?_ (fun _ => ?_)
theorem glacisref05_tokens.calls (k : Nat) (a0 : Int) (r : Bool) (w : World) (h : glacisref05_tokens.f k a0 = some r) :
  Calls Tryz.prog 115 #[.int .u8 a0] w fun e w' => e = .returned (.bool r) ∧ Drawn0 w w' := by
 have H : ((glacisref01_Tchar.f k a0).bind fun t230 => (if t230 = true then (some true) else (if a0 = 58 then (some true) else (some (a0 == 47))))) = some r := h
 clear h
 replace H := Option.bind_eq_some_iff.mp H
 obtain ⟨t230, A20, H⟩ := H
 (try dsimp only at H)
 have A2 := Aside0.mk A20
 clear A20
 by_cases c3 : t230 = true
 ·subst c3
  rw [if_pos rfl] at H
  obtain rfl := Option.some.inj H
  go_enter Tryz.func115, Tryz.ntmps115
  go_wp2_with (first | ((with_reducible refine gate_callee (f := 127) rfl ?_); refine goesL_ (some 5) rfl rfl Tryz.func127 (by kernel_rfl) rfl #[.int .u8 a0] rfl (by simp only [List.map_toArray, List.map_cons, List.map_nil] <;> rfl) ?_; (with_reducible refine (glacisref01_Tchar.calls k a0 true _ A2.out).mono ?_); rintro e w' ⟨rfl, ⟨nd, rfl⟩⟩; refine ⟨_, rfl, ?_⟩))
  go_ret
  exact ⟨by first | rfl | simp [*], by repeat (first | exact Drawn0.refl _ | apply Drawn0.step)⟩
 replace c3 := Bool.eq_false_iff.mpr c3
 subst c3
 rw [if_neg (show ¬ (false = true) by decide)] at H
 by_cases c4 : a0 = 58
 ·rw [if_pos c4] at H
  obtain ⟨c4b0, c4b1⟩ := eT_ c4
  clear c4
  obtain rfl := Option.some.inj H
  go_enter Tryz.func115, Tryz.ntmps115
  go_wp2_with (first | ((with_reducible refine gate_callee (f := 127) rfl ?_); refine goesL_ (some 5) rfl rfl Tryz.func127 (by kernel_rfl) rfl #[.int .u8 a0] rfl (by simp only [List.map_toArray, List.map_cons, List.map_nil] <;> rfl) ?_; (with_reducible refine (glacisref01_Tchar.calls k a0 false _ A2.out).mono ?_); rintro e w' ⟨rfl, ⟨nd, rfl⟩⟩; refine ⟨_, rfl, ?_⟩))
  go_ret
  exact ⟨by first | rfl | simp [*], by repeat (first | exact Drawn0.refl _ | apply Drawn0.step)⟩
 rw [if_neg c4] at H
 obtain ⟨c4b0, c4b1⟩ := eF_ c4
 obtain rfl := Option.some.inj H
 go_enter Tryz.func115, Tryz.ntmps115
 go_wp2_with (first | ((with_reducible refine gate_callee (f := 127) rfl ?_); refine goesL_ (some 5) rfl rfl Tryz.func127 (by kernel_rfl) rfl #[.int .u8 a0] rfl (by simp only [List.map_toArray, List.map_cons, List.map_nil] <;> rfl) ?_; (with_reducible refine (glacisref01_Tchar.calls k a0 false _ A2.out).mono ?_); rintro e w' ⟨rfl, ⟨nd, rfl⟩⟩; refine ⟨_, rfl, ?_⟩))
 go_ret
 exact ⟨by first | rfl | simp [*], by repeat (first | exact Drawn0.refl _ | apply Drawn0.step)⟩
def glacisref05_base.f (a0 : Int) : Option (Bool) := (glacisref01_Letter.f a0).bind fun t231 => ((glacisref01_Digit.f a0).bind fun t232 => (if t231 = true then (some true) else (if t232 = true then (some true) else (if a0 = 43 then (some true) else (if a0 = 47 then (some true) else (some (a0 == 61)))))))
theorem glacisref05_base.calls (a0 : Int) (r : Bool) (w : World) (h : glacisref05_base.f a0 = some r) :
  Calls Tryz.prog 116 #[.int .u8 a0] w fun e w' => e = .returned (.bool r) ∧ Drawn0 w w' := by
 have H : ((glacisref01_Letter.f a0).bind fun t231 => ((glacisref01_Digit.f a0).bind fun t232 => (if t231 = true then (some true) else (if t232 = true then (some true) else (if a0 = 43 then (some true) else (if a0 = 47 then (some true) else (some (a0 == 61)))))))) = some r := h
 clear h
 replace H := Option.bind_eq_some_iff.mp H
 obtain ⟨t231, A20, H⟩ := H
 (try dsimp only at H)
 have A2 := Aside0.mk A20
 clear A20
 replace H := Option.bind_eq_some_iff.mp H
 obtain ⟨t232, A30, H⟩ := H
 (try dsimp only at H)
 have A3 := Aside0.mk A30
 clear A30
 by_cases c4 : t231 = true
 ·subst c4
  rw [if_pos rfl] at H
  obtain rfl := Option.some.inj H
  go_enter Tryz.func116, Tryz.ntmps116
  go_wp2_with (first | ((with_reducible refine gate_callee (f := 111) rfl ?_); refine goesL_ (some 6) rfl rfl Tryz.func111 (by kernel_rfl) rfl #[.int .u8 a0] rfl (by simp only [List.map_toArray, List.map_cons, List.map_nil] <;> rfl) ?_; (with_reducible refine (glacisref01_Letter.calls a0 true _ A2.out).mono ?_); rintro e w' ⟨rfl, ⟨nd, rfl⟩⟩; refine ⟨_, rfl, ?_⟩) | ((with_reducible refine gate_callee (f := 112) rfl ?_); refine goesL_ (some 8) rfl rfl Tryz.func112 (by kernel_rfl) rfl #[.int .u8 a0] rfl (by simp only [List.map_toArray, List.map_cons, List.map_nil] <;> rfl) ?_; (with_reducible refine (glacisref01_Digit.calls a0 t232 _ A3.out).mono ?_); rintro e w' ⟨rfl, ⟨nd, rfl⟩⟩; refine ⟨_, rfl, ?_⟩))
  go_ret
  exact ⟨by first | rfl | simp [*], by repeat (first | exact Drawn0.refl _ | apply Drawn0.step)⟩
 replace c4 := Bool.eq_false_iff.mpr c4
 subst c4
 rw [if_neg (show ¬ (false = true) by decide)] at H
 by_cases c5 : t232 = true
 ·subst c5
  rw [if_pos rfl] at H
  obtain rfl := Option.some.inj H
  go_enter Tryz.func116, Tryz.ntmps116
  go_wp2_with (first | ((with_reducible refine gate_callee (f := 111) rfl ?_); refine goesL_ (some 6) rfl rfl Tryz.func111 (by kernel_rfl) rfl #[.int .u8 a0] rfl (by simp only [List.map_toArray, List.map_cons, List.map_nil] <;> rfl) ?_; (with_reducible refine (glacisref01_Letter.calls a0 false _ A2.out).mono ?_); rintro e w' ⟨rfl, ⟨nd, rfl⟩⟩; refine ⟨_, rfl, ?_⟩) | ((with_reducible refine gate_callee (f := 112) rfl ?_); refine goesL_ (some 8) rfl rfl Tryz.func112 (by kernel_rfl) rfl #[.int .u8 a0] rfl (by simp only [List.map_toArray, List.map_cons, List.map_nil] <;> rfl) ?_; (with_reducible refine (glacisref01_Digit.calls a0 true _ A3.out).mono ?_); rintro e w' ⟨rfl, ⟨nd, rfl⟩⟩; refine ⟨_, rfl, ?_⟩))
  go_ret
  exact ⟨by first | rfl | simp [*], by repeat (first | exact Drawn0.refl _ | apply Drawn0.step)⟩
 replace c5 := Bool.eq_false_iff.mpr c5
 subst c5
 rw [if_neg (show ¬ (false = true) by decide)] at H
 by_cases c6 : a0 = 43
 ·rw [if_pos c6] at H
  obtain ⟨c6b0, c6b1⟩ := eT_ c6
  clear c6
  obtain rfl := Option.some.inj H
  go_enter Tryz.func116, Tryz.ntmps116
  go_wp2_with (first | ((with_reducible refine gate_callee (f := 111) rfl ?_); refine goesL_ (some 6) rfl rfl Tryz.func111 (by kernel_rfl) rfl #[.int .u8 a0] rfl (by simp only [List.map_toArray, List.map_cons, List.map_nil] <;> rfl) ?_; (with_reducible refine (glacisref01_Letter.calls a0 false _ A2.out).mono ?_); rintro e w' ⟨rfl, ⟨nd, rfl⟩⟩; refine ⟨_, rfl, ?_⟩) | ((with_reducible refine gate_callee (f := 112) rfl ?_); refine goesL_ (some 8) rfl rfl Tryz.func112 (by kernel_rfl) rfl #[.int .u8 a0] rfl (by simp only [List.map_toArray, List.map_cons, List.map_nil] <;> rfl) ?_; (with_reducible refine (glacisref01_Digit.calls a0 false _ A3.out).mono ?_); rintro e w' ⟨rfl, ⟨nd, rfl⟩⟩; refine ⟨_, rfl, ?_⟩))
  go_ret
  exact ⟨by first | rfl | simp [*], by repeat (first | exact Drawn0.refl _ | apply Drawn0.step)⟩
 rw [if_neg c6] at H
 obtain ⟨c6b0, c6b1⟩ := eF_ c6
 by_cases c7 : a0 = 47
 ·rw [if_pos c7] at H
  obtain ⟨c7b0, c7b1⟩ := eT_ c7
  clear c7
  obtain rfl := Option.some.inj H
  go_enter Tryz.func116, Tryz.ntmps116
  go_wp2_with (first | ((with_reducible refine gate_callee (f := 111) rfl ?_); refine goesL_ (some 6) rfl rfl Tryz.func111 (by kernel_rfl) rfl #[.int .u8 a0] rfl (by simp only [List.map_toArray, List.map_cons, List.map_nil] <;> rfl) ?_; (with_reducible refine (glacisref01_Letter.calls a0 false _ A2.out).mono ?_); rintro e w' ⟨rfl, ⟨nd, rfl⟩⟩; refine ⟨_, rfl, ?_⟩) | ((with_reducible refine gate_callee (f := 112) rfl ?_); refine goesL_ (some 8) rfl rfl Tryz.func112 (by kernel_rfl) rfl #[.int .u8 a0] rfl (by simp only [List.map_toArray, List.map_cons, List.map_nil] <;> rfl) ?_; (with_reducible refine (glacisref01_Digit.calls a0 false _ A3.out).mono ?_); rintro e w' ⟨rfl, ⟨nd, rfl⟩⟩; refine ⟨_, rfl, ?_⟩))
  go_ret
  exact ⟨by first | rfl | simp [*], by repeat (first | exact Drawn0.refl _ | apply Drawn0.step)⟩
 rw [if_neg c7] at H
 obtain ⟨c7b0, c7b1⟩ := eF_ c7
 obtain rfl := Option.some.inj H
 go_enter Tryz.func116, Tryz.ntmps116
 go_wp2_with (first | ((with_reducible refine gate_callee (f := 111) rfl ?_); refine goesL_ (some 6) rfl rfl Tryz.func111 (by kernel_rfl) rfl #[.int .u8 a0] rfl (by simp only [List.map_toArray, List.map_cons, List.map_nil] <;> rfl) ?_; (with_reducible refine (glacisref01_Letter.calls a0 false _ A2.out).mono ?_); rintro e w' ⟨rfl, ⟨nd, rfl⟩⟩; refine ⟨_, rfl, ?_⟩) | ((with_reducible refine gate_callee (f := 112) rfl ?_); refine goesL_ (some 8) rfl rfl Tryz.func112 (by kernel_rfl) rfl #[.int .u8 a0] rfl (by simp only [List.map_toArray, List.map_cons, List.map_nil] <;> rfl) ?_; (with_reducible refine (glacisref01_Digit.calls a0 false _ A3.out).mono ?_); rintro e w' ⟨rfl, ⟨nd, rfl⟩⟩; refine ⟨_, rfl, ?_⟩))
 go_ret
 exact ⟨by first | rfl | simp [*], by repeat (first | exact Drawn0.refl _ | apply Drawn0.step)⟩
mutual
def glacisref05_value.j0 : Nat → ByteArray → Bool → Bool → Option (ByteArray × Int × Int × ByteArray × ByteArray × Bool)
 | 0, _, _, _ => none
 | k + 1, x0, x5, x18 => if x18 = true then ((glacisref05_number.f k x0).bind fun bt236 => (some (bt236.1, bt236.2.1, bt236.2.2.1, bt236.2.2.2.1, bt236.2.2.2.2.1, bt236.2.2.2.2.2))) else (if 0 < (x0.size : Int) then (if (bt x0 0) = 34 then ((glacisref05_quoted.f k x0).bind fun bt242 => (some (bt242.1, bt242.2.1, bt242.2.2.1, bt242.2.2.2.1, bt242.2.2.2.2.1, bt242.2.2.2.2.2))) else (if x5 = true then (glacisref05_value.j1 k x0 true) else (glacisref05_value.j1 k x0 ((bt x0 0) == 42)))) else (none))
def glacisref05_value.j1 : Nat → ByteArray → Bool → Option (ByteArray × Int × Int × ByteArray × ByteArray × Bool)
 | 0, _, _ => none
 | k + 1, x0, x39 => if x39 = true then (glacisref05_value.l0 k x0 1) else (if 0 < (x0.size : Int) then (if (bt x0 0) = 58 then (glacisref05_value.l1 k x0 1) else (if (bt x0 0) = 63 then (if (x0.size : Int) < 2 then (some ((⟨#[]⟩ : ByteArray), 0, 0, (⟨#[]⟩ : ByteArray), (⟨#[]⟩ : ByteArray), false)) else (if 1 < (x0.size : Int) then (if (bt x0 1) = 48 then (if 2 ≤ (x0.size : Int) then (some ((⟨#[]⟩ : ByteArray), 6, ((bt x0 1) - 48) % 256, (⟨#[]⟩ : ByteArray), x0.extract 2 x0.size, true)) else (none)) else (if (bt x0 1) = 49 then (if 2 ≤ (x0.size : Int) then (some ((⟨#[]⟩ : ByteArray), 6, ((bt x0 1) - 48) % 256, (⟨#[]⟩ : ByteArray), x0.extract 2 x0.size, true)) else (none)) else (some ((⟨#[]⟩ : ByteArray), 0, 0, (⟨#[]⟩ : ByteArray), (⟨#[]⟩ : ByteArray), false)))) else (none))) else (some ((⟨#[]⟩ : ByteArray), 0, 0, (⟨#[]⟩ : ByteArray), (⟨#[]⟩ : ByteArray), false)))) else (none))
def glacisref05_value.l0 : Nat → ByteArray → Int → Option (ByteArray × Int × Int × ByteArray × ByteArray × Bool)
 | 0, _, _ => none
 | k + 1, x0, x7 => if x7 < (x0.size : Int) then (if 0 ≤ x7 then ((glacisref05_tokens.f k (bt x0 x7)).bind fun t248 => (if t248 = true then (glacisref05_value.l0 k x0 (wrap64 (x7 + 1))) else (if x7 ≤ (x0.size : Int) then (some ((⟨#[]⟩ : ByteArray), 4, 0, x0.extract 0 (x7 : Int).toNat, x0.extract (x7 : Int).toNat x0.size, true)) else (none)))) else (none)) else (if 0 ≤ x7 then (if x7 ≤ (x0.size : Int) then (some ((⟨#[]⟩ : ByteArray), 4, 0, x0.extract 0 (x7 : Int).toNat, x0.extract (x7 : Int).toNat x0.size, true)) else (none)) else (none))
def glacisref05_value.l1 : Nat → ByteArray → Int → Option (ByteArray × Int × Int × ByteArray × ByteArray × Bool)
 | 0, _, _ => none
 | k + 1, x0, x8 => if x8 < (x0.size : Int) then (if 0 ≤ x8 then ((glacisref05_base.f (bt x0 x8)).bind fun t249 => (if t249 = true then (glacisref05_value.l1 k x0 (wrap64 (x8 + 1))) else (if x8 = (x0.size : Int) then (some ((⟨#[]⟩ : ByteArray), 0, 0, (⟨#[]⟩ : ByteArray), (⟨#[]⟩ : ByteArray), false)) else (if (bt x0 x8) = 58 then (if 1 ≤ x8 then (if x8 ≤ (x0.size : Int) then (if 0 ≤ (wrap64 (x8 + 1)) then (if (wrap64 (x8 + 1)) ≤ (x0.size : Int) then (some ((⟨#[]⟩ : ByteArray), 5, 0, x0.extract 1 (x8 : Int).toNat, x0.extract ((wrap64 (x8 + 1)) : Int).toNat x0.size, true)) else (none)) else (none)) else (none)) else (none)) else (some ((⟨#[]⟩ : ByteArray), 0, 0, (⟨#[]⟩ : ByteArray), (⟨#[]⟩ : ByteArray), false)))))) else (none)) else (if x8 = (x0.size : Int) then (some ((⟨#[]⟩ : ByteArray), 0, 0, (⟨#[]⟩ : ByteArray), (⟨#[]⟩ : ByteArray), false)) else (if 0 ≤ x8 then (none) else (none)))
end
def glacisref05_value.f (k : Nat) (a0 : ByteArray) : Option (ByteArray × Int × Int × ByteArray × ByteArray × Bool) := if a0.toList = ([] : List UInt8) then (some ((⟨#[]⟩ : ByteArray), 0, 0, (⟨#[]⟩ : ByteArray), (⟨#[]⟩ : ByteArray), false)) else (if 0 < (a0.size : Int) then ((glacisref01_Letter.f (bt a0 0)).bind fun t234 => ((glacisref01_Digit.f (bt a0 0)).bind fun t235 => (if (bt a0 0) = 45 then (glacisref05_value.j0 k a0 t234 true) else (glacisref05_value.j0 k a0 t234 t235)))) else (none))
def glacisref05_value.T13 : Bool × List (List Nat × List Nat) := (true, [([], []), ([], []), ([0, 1], [0, 1]), ([2], [2]), ([], []), ([], []), ([4, 5], [4, 5]), ([3, 0, 1, 2, 3], [3]), ([6, 7, 0, 1, 2, 3, 4, 5, 6, 7], [6]), ([8, 0, 1, 2, 3, 4, 5, 6, 7, 8], [])])
def glacisref05_value.B13 : List Nat := [0, 0, 3, 7, 0, 0, 48, 15, 255, 511]
theorem glacisref05_value.tab13 : rtab .any (opsOf Tryz.f98 13) = glacisref05_value.T13 := by kernel_rfl
theorem glacisref05_value.bits13 : waitsOk glacisref05_value.T13.2 glacisref05_value.B13 = true := by kernel_rfl
def glacisref05_value.T20 : Bool × List (List Nat × List Nat) := (true, [([], []), ([], []), ([0, 1], [0, 1]), ([2], [2]), ([], []), ([], []), ([5], [5]), ([4, 6], [4, 6]), ([3, 0, 1, 2, 3], [3]), ([7, 8, 0, 1, 2, 3, 4, 5, 6, 7, 8], [7]), ([9, 0, 1, 2, 3, 4, 5, 6, 7, 8, 9], [])])
def glacisref05_value.B20 : List Nat := [0, 0, 3, 7, 0, 0, 32, 112, 15, 511, 1023]
theorem glacisref05_value.tab20 : rtab .any (opsOf Tryz.f98 20) = glacisref05_value.T20 := by kernel_rfl
theorem glacisref05_value.bits20 : waitsOk glacisref05_value.T20.2 glacisref05_value.B20 = true := by kernel_rfl
def glacisref05_value.T24 : Bool × List (List Nat × List Nat) := (true, [([], []), ([0], [0]), ([1], [1]), ([2], [2]), ([3], [3]), ([], []), ([5], [5]), ([4, 0, 1, 2, 3, 4], [4]), ([6, 7, 0, 1, 2, 3, 4, 5, 6, 7], [6]), ([8, 0, 1, 2, 3, 4, 5, 6, 7, 8], [])])
def glacisref05_value.B24 : List Nat := [0, 1, 3, 7, 15, 0, 32, 31, 255, 511]
theorem glacisref05_value.tab24 : rtab .any (opsOf Tryz.f98 24) = glacisref05_value.T24 := by kernel_rfl
theorem glacisref05_value.bits24 : waitsOk glacisref05_value.T24.2 glacisref05_value.B24 = true := by kernel_rfl
theorem glacisref05_value.calls (k : Nat) (a0 : ByteArray) (r1 : ByteArray) (r2 : Int) (r3 : Int) (r4 : ByteArray) (r5 : ByteArray) (r6 : Bool) (w : World) (h : glacisref05_value.f k a0 = some (r1, r2, r3, r4, r5, r6)) :
  Calls Tryz.prog 98 #[.string a0] w fun e w' => e = .returned (.tuple #[.agg #[.string r1, .int .i64 r2, .int .i64 r3, .string r4], .string r5, .bool r6]) ∧ Below w.heap.size w w' := by
 have hu60 := Tryz.underlying60
 have HB := Aside0.mk (Below.refl w.heap.size w)
 have H : (if a0.toList = ([] : List UInt8) then (some ((⟨#[]⟩ : ByteArray), 0, 0, (⟨#[]⟩ : ByteArray), (⟨#[]⟩ : ByteArray), false)) else (if 0 < (a0.size : Int) then ((glacisref01_Letter.f (bt a0 0)).bind fun t234 => ((glacisref01_Digit.f (bt a0 0)).bind fun t235 => (if (bt a0 0) = 45 then (glacisref05_value.j0 k a0 t234 true) else (glacisref05_value.j0 k a0 t234 t235)))) else (none))) = some (r1, r2, r3, r4, r5, r6) := h
 clear h
 by_cases c2 : a0.toList = ([] : List UInt8)
 ·rw [if_pos c2] at H
  obtain ⟨c2b0, c2b1⟩ := eT_ c2
  clear c2
  simp only [Option.some.injEq, Prod.mk.injEq] at H
  obtain ⟨rfl, rfl, rfl, rfl, rfl, rfl⟩ := H
  go_enter Tryz.func98, Tryz.ntmps98
  go_wp2_with (first | ((with_reducible refine gate_dst (N := 2) rfl ?_); refine box_event ?hg (N := 2) ?hd (cs := #[.string ⟨#[]⟩, .int .i64 0, .int .i64 0, .string ⟨#[]⟩]) (t := 60) ?hr ?_; (case hd => rfl); (case hg => rfl); (case hr => first | (go_simp; done) | (go_simp; rfl)); intro gb233 hg w3 hbox hb; have BK233 := Aside0.mk (hbox); have GW233 := Aside0.mk ((hg_ hg (bl_ HB.out))); have GE233 := Aside0.mk ((hg_ hg (bl_ HB.out))); replace HB := bs_ HB hb; clear hb hbox hg; obtain ⟨hcz4_0, hcz4_1, hcz4_2, hcz4_3⟩ := c4_ BK233.out; obtain ⟨hfz4_0, hfz4_1, hfz4_2, hfz4_3⟩ := f4_ BK233.out))
  refine bodyPost_ret (results_ctt rfl _ _ gb233 60 #[.string ⟨#[]⟩, .int .i64 0, .int .i64 0, .string ⟨#[]⟩] (0, 0) _ rfl (by (repeat refine kq_ ?_); apply put5_; (repeat refine kq_ ?_); exact BK233.out) Tryz.underlying60 rfl (by kernel_rfl)) rfl ?_
  exact ⟨by first | rfl | simp [*, errW_none, errW_some, q_ne_nil], by repeat (first | (with_reducible first | exact HB.out | apply below_alloc | apply pw_below_drewN | apply below_drew1 | refine below_set ?_ GE233.out) | exact HB.out)⟩
 rw [if_neg c2] at H
 obtain ⟨c2b0, c2b1⟩ := eF_ c2
 replace H := ifs_ H; obtain ⟨c5, H⟩ := H
 have c5b0 := decide_eq_true c5
 have c5b1 : decide (0 < a0.size) = true := decide_eq_true (by omega)
 clear c5
 replace H := Option.bind_eq_some_iff.mp H
 obtain ⟨t234, A70, H⟩ := H
 (try dsimp only at H)
 have A7 := Aside0.mk A70
 clear A70
 replace H := Option.bind_eq_some_iff.mp H
 obtain ⟨t235, A90, H⟩ := H
 (try dsimp only at H)
 have A9 := Aside0.mk A90
 clear A90
 have HC10 := Aside0.mk H
 clear H
 go_enter Tryz.func98, Tryz.ntmps98
 go_upto_region 5 with (first | ((with_reducible refine gate_dst (N := 2) rfl ?_); refine box_event ?hg (N := 2) ?hd (cs := #[.string ⟨#[]⟩, .int .i64 0, .int .i64 0, .string ⟨#[]⟩]) (t := 60) ?hr ?_; (case hd => rfl); (case hg => rfl); (case hr => first | (go_simp; done) | (go_simp; rfl)); intro gb233 hg w11 hbox hb; have BK233 := Aside0.mk (hbox); have GW233 := Aside0.mk ((hg_ hg (bl_ HB.out))); have GE233 := Aside0.mk ((hg_ hg (bl_ HB.out))); replace HB := bs_ HB hb; clear hb hbox hg; have p6 : 0 ≤ (0 : Int) := (by omega); have q6 : 0 < a0.size := (by have : (0 : Int) < (a0.size : Int) := of_decide_eq_true (by assumption); omega); have hx6 : ∀ h : 0 < a0.size, ((a0[0]'h).toNat : Int) = bt a0 0 := bt_at a0 0; clear p6; have qi6 : (0 < (a0.size : Int)) = True := eq_true (of_decide_eq_true (by assumption)); replace q6 := eq_true q6) | ((with_reducible refine gate_callee (f := 111) rfl ?_); refine goesL_ (some 14) rfl rfl Tryz.func111 (by kernel_rfl) rfl #[.int .u8 (bt a0 0)] rfl (by simp only [List.map_toArray, List.map_cons, List.map_nil] <;> rfl) ?_; (with_reducible refine (glacisref01_Letter.calls (bt a0 0) t234 _ A7.out).mono ?_); rintro e w' ⟨rfl, ⟨nd, rfl⟩⟩; refine ⟨_, rfl, ?_⟩; have p8 : 0 ≤ (0 : Int) := (by omega); have q8 : 0 < a0.size := (by have : (0 : Int) < (a0.size : Int) := of_decide_eq_true (by assumption); omega); have hx8 : ∀ h : 0 < a0.size, ((a0[0]'h).toNat : Int) = bt a0 0 := bt_at a0 0; clear p8; have qi8 : (0 < (a0.size : Int)) = True := eq_true (of_decide_eq_true (by assumption)); replace q8 := eq_true q8) | ((with_reducible refine gate_callee (f := 112) rfl ?_); refine goesL_ (some 17) rfl rfl Tryz.func112 (by kernel_rfl) rfl #[.int .u8 (bt a0 0)] rfl (by simp only [List.map_toArray, List.map_cons, List.map_nil] <;> rfl) ?_; (with_reducible refine (glacisref01_Digit.calls (bt a0 0) t235 _ A9.out).mono ?_); rintro e w' ⟨rfl, ⟨nd, rfl⟩⟩; refine ⟨_, rfl, ?_⟩))
 (try simp only [Act.put, List.setIfInBounds_toArray, List.set_cons_zero, List.set_cons_succ])
 go_cut [18] (fun v18 wc => ∃ (kq : Nat) (x18_9 : Bool), v18 = .bool x18_9 ∧ Aside0 (glacisref05_value.j0 kq a0 t234 x18_9 = some (r1, r2, r3, r4, r5, r6)) ∧ Aside0 (kq ≤ k) ∧ Aside0 (wc.heap[gb233]? = some (.cells #[.string ⟨#[]⟩, .int .i64 0, .int .i64 0, .string ⟨#[]⟩] 60 (0, 0))) ∧ Aside0 (Below w.heap.size w wc))
 case first =>
  have H := HC10.out
  clear HC10
  by_cases c13 : (bt a0 0) = 45
  ·rw [if_pos c13] at H
   obtain ⟨c13b0, c13b1⟩ := eT_ c13
   clear c13
   (first | rw [c13b0] | (simp only [i64_w, i32_w]; rw [c13b0]) | skip)
   have H' := Aside0.mk H
   clear H
   have p12 : 0 ≤ (0 : Int) := (by omega)
   have q12 : 0 < a0.size := (by have : (0 : Int) < (a0.size : Int) := of_decide_eq_true (by assumption); omega)
   have hx12 : ∀ h : 0 < a0.size, ((a0[0]'h).toNat : Int) = bt a0 0 := bt_at a0 0
   clear p12
   have qi12 : (0 < (a0.size : Int)) = True := eq_true (of_decide_eq_true (by assumption))
   replace q12 := eq_true q12
   go_wp2
   go_meet
   case rel => exact ⟨_, (true), (by first | rfl | simp [*]), H', ⟨by first | omega | exact Nat.le_refl _⟩, ⟨by (repeat refine kq_ ?_); exact BK233.out⟩, ⟨by repeat (first | (with_reducible first | exact HB.out | apply below_alloc | apply pw_below_drewN | apply below_drew1 | refine below_set ?_ GE233.out) | exact HB.out)⟩⟩
  rw [if_neg c13] at H
  obtain ⟨c13b0, c13b1⟩ := eF_ c13
  (first | rw [c13b0] | (simp only [i64_w, i32_w]; rw [c13b0]) | skip)
  have H' := Aside0.mk H
  clear H
  have p12 : 0 ≤ (0 : Int) := (by omega)
  have q12 : 0 < a0.size := (by have : (0 : Int) < (a0.size : Int) := of_decide_eq_true (by assumption); omega)
  have hx12 : ∀ h : 0 < a0.size, ((a0[0]'h).toNat : Int) = bt a0 0 := bt_at a0 0
  clear p12
  have qi12 : (0 < (a0.size : Int)) = True := eq_true (of_decide_eq_true (by assumption))
  replace q12 := eq_true q12
  go_wp2
  go_meet
  case rel => exact ⟨_, (t235), (by first | rfl | simp [*]), H', ⟨by first | omega | exact Nat.le_refl _⟩, ⟨by (repeat refine kq_ ?_); exact BK233.out⟩, ⟨by repeat (first | (with_reducible first | exact HB.out | apply below_alloc | apply pw_below_drewN | apply below_drew1 | refine below_set ?_ GE233.out) | exact HB.out)⟩⟩
 case rest =>
  clear HC10
  (try clear c1)
  obtain ⟨kq, x18_9, rfl, HA, HJ9, BK233, HB⟩ := hcut
  cases kq with
  | zero => exact absurd HA.out (by simp [glacisref05_value.j0])
  | succ kj9 =>
   have H := HA.out
   clear HA
   simp only [glacisref05_value.j0] at H
   by_cases c14 : x18_9 = true
   ·subst c14
    rw [if_pos rfl] at H
    replace H := Option.bind_eq_some_iff.mp H
    obtain ⟨⟨t236, t237, t238, t239, t240, t241⟩, A150, H⟩ := H
    (try dsimp only at H)
    have A15 := Aside0.mk A150
    clear A150
    simp only [Option.some.injEq, Prod.mk.injEq] at H
    obtain ⟨rfl, rfl, rfl, rfl, rfl, rfl⟩ := H
    go_wp2_with (first | ((with_reducible refine gate_callee (f := 113) rfl ?_); refine goesL_ (some 26) rfl rfl Tryz.func113 (by kernel_rfl) rfl #[.string a0] rfl (by simp only [List.map_toArray, List.map_cons, List.map_nil] <;> rfl) ?_; (with_reducible refine (glacisref05_number.calls kj9 a0 t236 t237 t238 t239 t240 t241 _ A15.out).mono ?_); rintro e w16 ⟨rfl, hb⟩; refine ⟨_, rfl, ?_⟩; replace BK233 := Aside0.mk (blk_below (g := gb233) (o := .cells #[.string ⟨#[]⟩, .int .i64 0, .int .i64 0, .string ⟨#[]⟩] 60 (0, 0)) (kl_ BK233.out) hb); replace HB := bs_ HB hb; (try clear hb); obtain ⟨hcz17_0, hcz17_1, hcz17_2, hcz17_3⟩ := c4_ BK233.out; obtain ⟨hfz17_0, hfz17_1, hfz17_2, hfz17_3⟩ := f4_ BK233.out))
    refine bodyPost_ret (results_ctt rfl _ _ gb233 60 #[.string t236, .int .i64 t237, .int .i64 t238, .string t239] (0, 0) _ rfl (by (repeat refine kq_ ?_); apply put5_; (repeat refine kq_ ?_); exact BK233.out) Tryz.underlying60 rfl (by kernel_rfl)) rfl ?_
    exact ⟨by first | rfl | simp [*, errW_none, errW_some, q_ne_nil], by repeat (first | (with_reducible first | exact HB.out | apply below_alloc | apply pw_below_drewN | apply below_drew1 | refine below_set ?_ GE233.out) | exact HB.out)⟩
   replace c14 := Bool.eq_false_iff.mpr c14
   subst c14
   rw [if_neg (show ¬ (false = true) by decide)] at H
   replace H := ifs_ H; obtain ⟨c18, H⟩ := H
   have c18b0 := decide_eq_true c18
   have c18b1 : decide (0 < a0.size) = true := decide_eq_true (by omega)
   clear c18
   by_cases c20 : (bt a0 0) = 34
   ·rw [if_pos c20] at H
    obtain ⟨c20b0, c20b1⟩ := eT_ c20
    clear c20
    replace H := Option.bind_eq_some_iff.mp H
    obtain ⟨⟨t242, t243, t244, t245, t246, t247⟩, A210, H⟩ := H
    (try dsimp only at H)
    have A21 := Aside0.mk A210
    clear A210
    simp only [Option.some.injEq, Prod.mk.injEq] at H
    obtain ⟨rfl, rfl, rfl, rfl, rfl, rfl⟩ := H
    have p19 : 0 ≤ (0 : Int) := (by omega)
    have q19 : 0 < a0.size := (by have : (0 : Int) < (a0.size : Int) := of_decide_eq_true (by assumption); omega)
    have hx19 : ∀ h : 0 < a0.size, ((a0[0]'h).toNat : Int) = bt a0 0 := bt_at a0 0
    clear p19
    have qi19 : (0 < (a0.size : Int)) = True := eq_true (of_decide_eq_true (by assumption))
    replace q19 := eq_true q19
    go_wp2_with (first | ((with_reducible refine gate_callee (f := 114) rfl ?_); refine goesL_ (some 35) rfl rfl Tryz.func114 (by kernel_rfl) rfl #[.string a0] rfl (by simp only [List.map_toArray, List.map_cons, List.map_nil] <;> rfl) ?_; (with_reducible refine (glacisref05_quoted.calls kj9 a0 t242 t243 t244 t245 t246 t247 _ A21.out).mono ?_); rintro e w22 ⟨rfl, hb⟩; refine ⟨_, rfl, ?_⟩; replace BK233 := Aside0.mk (blk_below (g := gb233) (o := .cells #[.string ⟨#[]⟩, .int .i64 0, .int .i64 0, .string ⟨#[]⟩] 60 (0, 0)) (kl_ BK233.out) hb); replace HB := bs_ HB hb; (try clear hb); obtain ⟨hcz23_0, hcz23_1, hcz23_2, hcz23_3⟩ := c4_ BK233.out; obtain ⟨hfz23_0, hfz23_1, hfz23_2, hfz23_3⟩ := f4_ BK233.out))
    refine bodyPost_ret (results_ctt rfl _ _ gb233 60 #[.string t242, .int .i64 t243, .int .i64 t244, .string t245] (0, 0) _ rfl (by (repeat refine kq_ ?_); apply put5_; (repeat refine kq_ ?_); exact BK233.out) Tryz.underlying60 rfl (by kernel_rfl)) rfl ?_
    exact ⟨by first | rfl | simp [*, errW_none, errW_some, q_ne_nil], by repeat (first | (with_reducible first | exact HB.out | apply below_alloc | apply pw_below_drewN | apply below_drew1 | refine below_set ?_ GE233.out) | exact HB.out)⟩
   rw [if_neg c20] at H
   obtain ⟨c20b0, c20b1⟩ := eF_ c20
   have HC24 := Aside0.mk H
   clear H
   have p19 : 0 ≤ (0 : Int) := (by omega)
   have q19 : 0 < a0.size := (by have : (0 : Int) < (a0.size : Int) := of_decide_eq_true (by assumption); omega)
   have hx19 : ∀ h : 0 < a0.size, ((a0[0]'h).toNat : Int) = bt a0 0 := bt_at a0 0
   clear p19
   have qi19 : (0 < (a0.size : Int)) = True := eq_true (of_decide_eq_true (by assumption))
   replace q19 := eq_true q19
   go_upto_region 9 with (fail)
   go_cut [39] (fun v39 wc => ∃ (kq : Nat) (x39_23 : Bool), v39 = .bool x39_23 ∧ Aside0 (glacisref05_value.j1 kq a0 x39_23 = some (r1, r2, r3, r4, r5, r6)) ∧ Aside0 (kq ≤ kj9) ∧ Aside0 (wc.heap[gb233]? = some (.cells #[.string ⟨#[]⟩, .int .i64 0, .int .i64 0, .string ⟨#[]⟩] 60 (0, 0))) ∧ Aside0 (Below w.heap.size w wc))
   case first =>
    have H := HC24.out
    clear HC24
    by_cases c25 : t234 = true
    ·subst c25
     rw [if_pos rfl] at H
     have H' := Aside0.mk H
     clear H
     go_wp2
     go_meet
     case rel => exact ⟨_, (true), (by first | rfl | simp [*]), H', ⟨by have := HJ9.out; first | omega | exact Nat.le_refl _⟩, ⟨by (repeat refine kq_ ?_); exact BK233.out⟩, ⟨by repeat (first | (with_reducible first | exact HB.out | apply below_alloc | apply pw_below_drewN | apply below_drew1 | refine below_set ?_ GE233.out) | exact HB.out)⟩⟩
    replace c25 := Bool.eq_false_iff.mpr c25
    subst c25
    rw [if_neg (show ¬ (false = true) by decide)] at H
    have H' := Aside0.mk H
    clear H
    have p26 : 0 ≤ (0 : Int) := (by omega)
    have q26 : 0 < a0.size := (by have : (0 : Int) < (a0.size : Int) := of_decide_eq_true (by assumption); omega)
    have hx26 : ∀ h : 0 < a0.size, ((a0[0]'h).toNat : Int) = bt a0 0 := bt_at a0 0
    clear p26
    have qi26 : (0 < (a0.size : Int)) = True := eq_true (of_decide_eq_true (by assumption))
    replace q26 := eq_true q26
    go_wp2
    go_meet
    case rel => exact ⟨_, (((bt a0 0) == 42)), (by first | rfl | simp [*]), H', ⟨by have := HJ9.out; first | omega | exact Nat.le_refl _⟩, ⟨by (repeat refine kq_ ?_); exact BK233.out⟩, ⟨by repeat (first | (with_reducible first | exact HB.out | apply below_alloc | apply pw_below_drewN | apply below_drew1 | refine below_set ?_ GE233.out) | exact HB.out)⟩⟩
   case rest =>
    clear HC24
    (try clear c1)
    obtain ⟨kq, x39_23, rfl, HA, HJ23, BK233, HB⟩ := hcut
    cases kq with
    | zero => exact absurd HA.out (by simp [glacisref05_value.j1])
    | succ kj23 =>
     have H := HA.out
     clear HA
     simp only [glacisref05_value.j1] at H
     by_cases c27 : x39_23 = true
     ·subst c27
      rw [if_pos rfl] at H
      have H' := Aside0.mk H
      clear H
      go_wp2
      go_loopg [7] kj23 (fun kq v7 w' => ∃ (x7_3 : Int), v7 = .int .i64 x7_3 ∧ Aside0 (glacisref05_value.l0 kq a0 x7_3 = some (r1, r2, r3, r4, r5, r6)) ∧ Aside0 (kq ≤ kj23) ∧ Aside0 (w'.heap[gb233]? = some (.cells #[.string ⟨#[]⟩, .int .i64 0, .int .i64 0, .string ⟨#[]⟩] 60 (0, 0))) ∧ Aside0 (Below w.heap.size w w'))
      case atStart => exact ⟨(1), (by first | rfl | simp [*]), H', ⟨Nat.le_refl _⟩, ⟨by (repeat refine kq_ ?_); exact BK233.out⟩, ⟨by repeat (first | (with_reducible first | exact HB.out | apply below_alloc | apply pw_below_drewN | apply below_drew1 | refine below_set ?_ GE233.out) | exact HB.out)⟩⟩
      case round =>
       clear H'
       (try clear c1)
       obtain ⟨x7_3, rfl, HA, HK3, BK233, HB⟩ := hrel
       cases gk with
       | zero => exact absurd HA.out (by simp [glacisref05_value.l0])
       | succ k3 =>
        have H := HA.out
        clear HA
        simp only [glacisref05_value.l0] at H
        by_cases c28 : x7_3 < (a0.size : Int)
        rotate_left
        ·rw [if_neg c28] at H
         have c28b0 := decide_eq_false c28
         clear c28
         replace H := ifs_ H; obtain ⟨c42, H⟩ := H
         have c42b0 := eq_true c42
         have c42b1 := decide_eq_true c42
         clear c42
         replace H := ifs_ H; obtain ⟨c43, H⟩ := H
         have c43b0 := eq_true c43
         have c43b1 := decide_eq_true c43
         clear c43
         have c44b0 := eq_true (of_decide_eq_true (by assumption) : 0 ≤ x7_3)
         have c45b0 := eq_true (of_decide_eq_true (by assumption) : x7_3 ≤ (a0.size : Int))
         simp only [Option.some.injEq, Prod.mk.injEq] at H
         obtain ⟨rfl, rfl, rfl, rfl, rfl, rfl⟩ := H
         try go_wp2
         have n0_ := Aside0.mk (blk_drew BK233.out)
         have n1_ := Aside0.mk (below_drew1 HB.out)
         clear BK233
         clear HB
         have BK233 := n0_
         have HB := n1_
         clear n0_ n1_
         refine start_ (n := 10) (S := fun w' => True) (ds := []) #[false,false,false,false,false,false,false,false,false,false] (by kernel_rfl) rfl rfl trivial (fun hHeld => ?_); refine with_tabW glacisref05_value.tab13 glacisref05_value.bits13 (fun HT_ HW_ => ?_)
         generalize wr.drew = w46 at BK233 HB hHeld ⊢
         refine pure_ (i := 0) (N := some 58) (v := ?_) (a' := ?_) #[true,false,false,false,false,false,false,false,false,false] rfl rfl (any_of HT_.out (by kernel_rfl)) (fun _ _ _ h => h) (Or.inl ⟨by rfl, ?_⟩) ?_ ?_; rotate_left; (intro w'; go_simp; with_reducible rfl); rotate_left; (simp only [Act.put, List.setIfInBounds_toArray, List.set_cons_zero, List.set_cons_succ, i64_w, i32_w]; rfl)
         refine pure_ (i := 1) (N := some 59) (v := ?_) (a' := ?_) #[true,true,false,false,false,false,false,false,false,false] rfl rfl (any_of HT_.out (by kernel_rfl)) (fun _ _ _ h => h) (Or.inl ⟨by rfl, ?_⟩) ?_ ?_; rotate_left; (intro w'; go_simp; with_reducible rfl); rotate_left; (simp only [Act.put, List.setIfInBounds_toArray, List.set_cons_zero, List.set_cons_succ, i64_w, i32_w]; rfl)
         refine pure_ (i := 2) (N := some 60) (v := ?_) (a' := ?_) #[true,true,true,false,false,false,false,false,false,false] rfl rfl (any_of HT_.out (by kernel_rfl)) (fun _ _ _ h => h) (Or.inl ⟨by rfl, ?_⟩) ?_ ?_; rotate_left; (intro w'; go_simp; with_reducible rfl); rotate_left; (simp only [Act.put, List.setIfInBounds_toArray, List.set_cons_zero, List.set_cons_succ, i64_w, i32_w]; rfl)
         refine pure_ (i := 3) (N := some 61) (v := ?_) (a' := ?_) #[true,true,true,true,false,false,false,false,false,false] rfl rfl (any_of HT_.out (by kernel_rfl)) (fun _ _ _ h => h) (Or.inl ⟨by rfl, ?_⟩) ?_ ?_; rotate_left; (intro w'; go_simp; with_reducible rfl); rotate_left; (simp only [Act.put, List.setIfInBounds_toArray, List.set_cons_zero, List.set_cons_succ, i64_w, i32_w]; rfl)
         refine pure_ (i := 4) (N := some 62) (v := ?_) (a' := ?_) #[true,true,true,true,true,false,false,false,false,false] rfl rfl (any_of HT_.out (by kernel_rfl)) (fun _ _ _ h => h) (Or.inl ⟨by rfl, ?_⟩) ?_ ?_; rotate_left; (intro w'; go_simp; with_reducible rfl); rotate_left; (simp only [Act.put, List.setIfInBounds_toArray, List.set_cons_zero, List.set_cons_succ, i64_w, i32_w]; rfl)
         refine pure_ (i := 5) (N := some 63) (v := ?_) (a' := ?_) #[true,true,true,true,true,true,false,false,false,false] rfl rfl (any_of HT_.out (by kernel_rfl)) (fun _ _ _ h => h) (Or.inl ⟨by rfl, ?_⟩) ?_ ?_; rotate_left; (intro w'; go_simp; with_reducible rfl); rotate_left; (simp only [Act.put, List.setIfInBounds_toArray, List.set_cons_zero, List.set_cons_succ, i64_w, i32_w]; rfl)
         refine pure_ (i := 6) (N := some 64) (v := ?_) (a' := ?_) #[true,true,true,true,true,true,true,false,false,false] rfl rfl (any_of HT_.out (by kernel_rfl)) (fun _ _ _ h => h) (Or.inl ⟨by rfl, ?_⟩) ?_ ?_; rotate_left; (intro w'; go_simp; with_reducible rfl); rotate_left; (simp only [Act.put, List.setIfInBounds_toArray, List.set_cons_zero, List.set_cons_succ, i64_w, i32_w]; rfl)
         refine one_ (i := 7) (N := none) #[true,true,true,true,true,true,true,true,false,false] rfl rfl (one_of HT_.out (by kernel_rfl)) (by decide) (fun K hK => ?_)
         have hs47 : w46.cell? ⟨gb233, 0, none⟩ = some (.string ⟨#[]⟩) := (blk_cell BK233.out 0).trans rfl
         have hfs47 := blk_frozen BK233.out 0
         have hs48 : w46.cell? ⟨gb233, 1, none⟩ = some (.int .i64 0) := (blk_cell BK233.out 1).trans rfl
         have hfs48 := blk_frozen BK233.out 1
         have hs49 : w46.cell? ⟨gb233, 2, none⟩ = some (.int .i64 0) := (blk_cell BK233.out 2).trans rfl
         have hfs49 := blk_frozen BK233.out 2
         have hs50 : w46.cell? ⟨gb233, 3, none⟩ = some (.string ⟨#[]⟩) := (blk_cell BK233.out 3).trans rfl
         have hfs50 := blk_frozen BK233.out 3
         refine skip_ (w1 := ?_) (by rfl) rfl ?_ ?_
         rotate_left
         ·go_simp
          rfl
         refine hK.out _ _ trivial (fun hHeld => ?_)
         clear hK K
         refine pure_ (i := 8) (N := some 3) (v := ?_) (a' := ?_) #[true,true,true,true,true,true,true,true,true,false] rfl rfl (any_of HT_.out (by kernel_rfl)) (fun _ _ _ h => h) (Or.inl ⟨by rfl, ?_⟩) ?_ ?_; rotate_left; (intro w'; go_simp; with_reducible rfl); rotate_left; (simp only [Act.put, List.setIfInBounds_toArray, List.set_cons_zero, List.set_cons_succ, i64_w, i32_w]; rfl)
         refine pure_ (i := 9) (N := some 4) (v := ?_) (a' := ?_) #[true,true,true,true,true,true,true,true,true,true] rfl rfl (any_of HT_.out (by kernel_rfl)) (fun _ _ _ h => h) (Or.inl ⟨by rfl, ?_⟩) ?_ ?_; rotate_left; (intro w'; go_simp; with_reducible rfl); rotate_left; (simp only [Act.put, List.setIfInBounds_toArray, List.set_cons_zero, List.set_cons_succ, i64_w, i32_w]; rfl)
         refine done_ (done_of HT_.out (by kernel_rfl)) ?_
         try go_wp2
         refine bodyPost_ret (results_ctt rfl _ _ gb233 60 #[.string ⟨#[]⟩, .int .i64 4, .int .i64 0, .string (a0.extract 0 (x7_3 : Int).toNat)] (0, 0) _ rfl (by (repeat refine kq_ ?_); apply put5_; (repeat refine kq_ ?_); exact BK233.out) Tryz.underlying60 rfl (by kernel_rfl)) rfl ?_
         exact ⟨by first | rfl | simp [*, errW_none, errW_some, q_ne_nil], by repeat (first | (with_reducible first | exact HB.out | apply below_alloc | apply pw_below_drewN | apply below_drew1 | refine below_set ?_ GE233.out) | exact HB.out)⟩
        rw [if_pos c28] at H
        have c28b0 := decide_eq_true c28
        clear c28
        replace H := ifs_ H; obtain ⟨c29, H⟩ := H
        have c29b0 := decide_eq_true c29
        clear c29
        replace H := Option.bind_eq_some_iff.mp H
        obtain ⟨t248, A310, H⟩ := H
        (try dsimp only at H)
        have A31 := Aside0.mk A310
        clear A310
        by_cases c32 : t248 = true
        ·subst c32
         rw [if_pos rfl] at H
         have H' := Aside0.mk H
         clear H
         have p30 : 0 ≤ (x7_3 : Int) := of_decide_eq_true (by assumption)
         have q30 : x7_3 < (a0.size : Int) := of_decide_eq_true (by assumption)
         have hx30 := bt_at a0 x7_3
         replace p30 := eq_true p30
         replace q30 := eq_true q30
         go_wp2_with (first | (go_at_call 115; (with_reducible refine (glacisref05_tokens.calls k3 (bt a0 x7_3) true _ A31.out).mono ?_); rintro e w' ⟨rfl, ⟨nd, rfl⟩⟩))
         go_roundg k3
         case measure => have := HJ9.out; have := HJ23.out; have := HK3.out; omega
         case rel => exact ⟨(wrap64 (x7_3 + 1)), (by first | rfl | simp [*]), H', ⟨by have := HJ9.out; have := HJ23.out; have := HK3.out; omega⟩, ⟨by (repeat refine kq_ ?_); exact BK233.out⟩, ⟨by repeat (first | (with_reducible first | exact HB.out | apply below_alloc | apply pw_below_drewN | apply below_drew1 | refine below_set ?_ GE233.out) | exact HB.out)⟩⟩
        replace c32 := Bool.eq_false_iff.mpr c32
        subst c32
        rw [if_neg (show ¬ (false = true) by decide)] at H
        have c33b0 := eq_true (of_decide_eq_true (by assumption) : 0 ≤ x7_3)
        replace H := ifs_ H; obtain ⟨c34, H⟩ := H
        have c34b0 := eq_true c34
        have c34b1 := decide_eq_true c34
        clear c34
        have c35b0 := eq_true (of_decide_eq_true (by assumption) : 0 ≤ x7_3)
        have c36b0 := eq_true (of_decide_eq_true (by assumption) : x7_3 ≤ (a0.size : Int))
        simp only [Option.some.injEq, Prod.mk.injEq] at H
        obtain ⟨rfl, rfl, rfl, rfl, rfl, rfl⟩ := H
        have p30 : 0 ≤ (x7_3 : Int) := of_decide_eq_true (by assumption)
        have q30 : x7_3 < (a0.size : Int) := of_decide_eq_true (by assumption)
        have hx30 := bt_at a0 x7_3
        replace p30 := eq_true p30
        replace q30 := eq_true q30
        try go_wp2_with (first | (go_at_call 115; (with_reducible refine (glacisref05_tokens.calls k3 (bt a0 x7_3) false _ A31.out).mono ?_); rintro e w' ⟨rfl, ⟨nd, rfl⟩⟩; (try (rw [drewN_self wr]; generalize hq_ : World.drewN wr _ = wr; have l_ := lq_ hq_; replace BK233 := Aside0.mk (kl_ (W := wr) BK233.out); replace HB := Aside0.mk (bl_ (W := wr) HB.out); clear hq_ l_))))
        have n0_ := Aside0.mk (blk_drew BK233.out)
        have n1_ := Aside0.mk (below_drew1 HB.out)
        clear BK233
        clear HB
        have BK233 := n0_
        have HB := n1_
        clear n0_ n1_
        refine start_ (n := 10) (S := fun w' => True) (ds := []) #[false,false,false,false,false,false,false,false,false,false] (by kernel_rfl) rfl rfl trivial (fun hHeld => ?_); refine with_tabW glacisref05_value.tab13 glacisref05_value.bits13 (fun HT_ HW_ => ?_)
        generalize wr.drew = w37 at BK233 HB hHeld ⊢
        refine pure_ (i := 0) (N := some 58) (v := ?_) (a' := ?_) #[true,false,false,false,false,false,false,false,false,false] rfl rfl (any_of HT_.out (by kernel_rfl)) (fun _ _ _ h => h) (Or.inl ⟨by rfl, ?_⟩) ?_ ?_; rotate_left; (intro w'; go_simp; with_reducible rfl); rotate_left; (simp only [Act.put, List.setIfInBounds_toArray, List.set_cons_zero, List.set_cons_succ, i64_w, i32_w]; rfl)
        refine pure_ (i := 1) (N := some 59) (v := ?_) (a' := ?_) #[true,true,false,false,false,false,false,false,false,false] rfl rfl (any_of HT_.out (by kernel_rfl)) (fun _ _ _ h => h) (Or.inl ⟨by rfl, ?_⟩) ?_ ?_; rotate_left; (intro w'; go_simp; with_reducible rfl); rotate_left; (simp only [Act.put, List.setIfInBounds_toArray, List.set_cons_zero, List.set_cons_succ, i64_w, i32_w]; rfl)
        refine pure_ (i := 2) (N := some 60) (v := ?_) (a' := ?_) #[true,true,true,false,false,false,false,false,false,false] rfl rfl (any_of HT_.out (by kernel_rfl)) (fun _ _ _ h => h) (Or.inl ⟨by rfl, ?_⟩) ?_ ?_; rotate_left; (intro w'; go_simp; with_reducible rfl); rotate_left; (simp only [Act.put, List.setIfInBounds_toArray, List.set_cons_zero, List.set_cons_succ, i64_w, i32_w]; rfl)
        refine pure_ (i := 3) (N := some 61) (v := ?_) (a' := ?_) #[true,true,true,true,false,false,false,false,false,false] rfl rfl (any_of HT_.out (by kernel_rfl)) (fun _ _ _ h => h) (Or.inl ⟨by rfl, ?_⟩) ?_ ?_; rotate_left; (intro w'; go_simp; with_reducible rfl); rotate_left; (simp only [Act.put, List.setIfInBounds_toArray, List.set_cons_zero, List.set_cons_succ, i64_w, i32_w]; rfl)
        refine pure_ (i := 4) (N := some 62) (v := ?_) (a' := ?_) #[true,true,true,true,true,false,false,false,false,false] rfl rfl (any_of HT_.out (by kernel_rfl)) (fun _ _ _ h => h) (Or.inl ⟨by rfl, ?_⟩) ?_ ?_; rotate_left; (intro w'; go_simp; with_reducible rfl); rotate_left; (simp only [Act.put, List.setIfInBounds_toArray, List.set_cons_zero, List.set_cons_succ, i64_w, i32_w]; rfl)
        refine pure_ (i := 5) (N := some 63) (v := ?_) (a' := ?_) #[true,true,true,true,true,true,false,false,false,false] rfl rfl (any_of HT_.out (by kernel_rfl)) (fun _ _ _ h => h) (Or.inl ⟨by rfl, ?_⟩) ?_ ?_; rotate_left; (intro w'; go_simp; with_reducible rfl); rotate_left; (simp only [Act.put, List.setIfInBounds_toArray, List.set_cons_zero, List.set_cons_succ, i64_w, i32_w]; rfl)
        refine pure_ (i := 6) (N := some 64) (v := ?_) (a' := ?_) #[true,true,true,true,true,true,true,false,false,false] rfl rfl (any_of HT_.out (by kernel_rfl)) (fun _ _ _ h => h) (Or.inl ⟨by rfl, ?_⟩) ?_ ?_; rotate_left; (intro w'; go_simp; with_reducible rfl); rotate_left; (simp only [Act.put, List.setIfInBounds_toArray, List.set_cons_zero, List.set_cons_succ, i64_w, i32_w]; rfl)
        refine one_ (i := 7) (N := none) #[true,true,true,true,true,true,true,true,false,false] rfl rfl (one_of HT_.out (by kernel_rfl)) (by decide) (fun K hK => ?_)
        have hs38 : w37.cell? ⟨gb233, 0, none⟩ = some (.string ⟨#[]⟩) := (blk_cell BK233.out 0).trans rfl
        have hfs38 := blk_frozen BK233.out 0
        have hs39 : w37.cell? ⟨gb233, 1, none⟩ = some (.int .i64 0) := (blk_cell BK233.out 1).trans rfl
        have hfs39 := blk_frozen BK233.out 1
        have hs40 : w37.cell? ⟨gb233, 2, none⟩ = some (.int .i64 0) := (blk_cell BK233.out 2).trans rfl
        have hfs40 := blk_frozen BK233.out 2
        have hs41 : w37.cell? ⟨gb233, 3, none⟩ = some (.string ⟨#[]⟩) := (blk_cell BK233.out 3).trans rfl
        have hfs41 := blk_frozen BK233.out 3
        refine skip_ (w1 := ?_) (by rfl) rfl ?_ ?_
        rotate_left
        ·go_simp
         rfl
        refine hK.out _ _ trivial (fun hHeld => ?_)
        clear hK K
        refine pure_ (i := 8) (N := some 3) (v := ?_) (a' := ?_) #[true,true,true,true,true,true,true,true,true,false] rfl rfl (any_of HT_.out (by kernel_rfl)) (fun _ _ _ h => h) (Or.inl ⟨by rfl, ?_⟩) ?_ ?_; rotate_left; (intro w'; go_simp; with_reducible rfl); rotate_left; (simp only [Act.put, List.setIfInBounds_toArray, List.set_cons_zero, List.set_cons_succ, i64_w, i32_w]; rfl)
        refine pure_ (i := 9) (N := some 4) (v := ?_) (a' := ?_) #[true,true,true,true,true,true,true,true,true,true] rfl rfl (any_of HT_.out (by kernel_rfl)) (fun _ _ _ h => h) (Or.inl ⟨by rfl, ?_⟩) ?_ ?_; rotate_left; (intro w'; go_simp; with_reducible rfl); rotate_left; (simp only [Act.put, List.setIfInBounds_toArray, List.set_cons_zero, List.set_cons_succ, i64_w, i32_w]; rfl)
        refine done_ (done_of HT_.out (by kernel_rfl)) ?_
        try go_wp2
        refine bodyPost_ret (results_ctt rfl _ _ gb233 60 #[.string ⟨#[]⟩, .int .i64 4, .int .i64 0, .string (a0.extract 0 (x7_3 : Int).toNat)] (0, 0) _ rfl (by (repeat refine kq_ ?_); apply put5_; (repeat refine kq_ ?_); exact BK233.out) Tryz.underlying60 rfl (by kernel_rfl)) rfl ?_
        exact ⟨by first | rfl | simp [*, errW_none, errW_some, q_ne_nil], by repeat (first | (with_reducible first | exact HB.out | apply below_alloc | apply pw_below_drewN | apply below_drew1 | refine below_set ?_ GE233.out) | exact HB.out)⟩
     replace c27 := Bool.eq_false_iff.mpr c27
     subst c27
     rw [if_neg (show ¬ (false = true) by decide)] at H
     replace H := ifs_ H; obtain ⟨c51, H⟩ := H
     have c51b0 := decide_eq_true c51
     have c51b1 : decide (0 < a0.size) = true := decide_eq_true (by omega)
     clear c51
     by_cases c53 : (bt a0 0) = 58
     ·rw [if_pos c53] at H
      obtain ⟨c53b0, c53b1⟩ := eT_ c53
      clear c53
      have H' := Aside0.mk H
      clear H
      have p52 : 0 ≤ (0 : Int) := (by omega)
      have q52 : 0 < a0.size := (by have : (0 : Int) < (a0.size : Int) := of_decide_eq_true (by assumption); omega)
      have hx52 : ∀ h : 0 < a0.size, ((a0[0]'h).toNat : Int) = bt a0 0 := bt_at a0 0
      clear p52
      have qi52 : (0 < (a0.size : Int)) = True := eq_true (of_decide_eq_true (by assumption))
      replace q52 := eq_true q52
      go_wp2
      go_loopg [8] kj23 (fun kq v8 w' => ∃ (x8_3 : Int), v8 = .int .i64 x8_3 ∧ Aside0 (glacisref05_value.l1 kq a0 x8_3 = some (r1, r2, r3, r4, r5, r6)) ∧ Aside0 (kq ≤ kj23) ∧ Aside0 (w'.heap[gb233]? = some (.cells #[.string ⟨#[]⟩, .int .i64 0, .int .i64 0, .string ⟨#[]⟩] 60 (0, 0))) ∧ Aside0 (Below w.heap.size w w'))
      case atStart => exact ⟨(1), (by first | rfl | simp [*]), H', ⟨Nat.le_refl _⟩, ⟨by (repeat refine kq_ ?_); exact BK233.out⟩, ⟨by repeat (first | (with_reducible first | exact HB.out | apply below_alloc | apply pw_below_drewN | apply below_drew1 | refine below_set ?_ GE233.out) | exact HB.out)⟩⟩
      case round =>
       clear H'
       (try clear c1)
       obtain ⟨x8_3, rfl, HA, HK3, BK233, HB⟩ := hrel
       cases gk with
       | zero => exact absurd HA.out (by simp [glacisref05_value.l1])
       | succ k3 =>
        have H := HA.out
        clear HA
        simp only [glacisref05_value.l1] at H
        by_cases c54 : x8_3 < (a0.size : Int)
        rotate_left
        ·rw [if_neg c54] at H
         have c54b0 := decide_eq_false c54
         clear c54
         by_cases c74 : x8_3 = (a0.size : Int)
         ·rw [if_pos c74] at H
          obtain ⟨c74b0, c74b1⟩ := eT_ c74
          clear c74
          simp only [Option.some.injEq, Prod.mk.injEq] at H
          obtain ⟨rfl, rfl, rfl, rfl, rfl, rfl⟩ := H
          have hcz75_0 : wr.cell? ⟨gb233, 0, none⟩ = some (.string ⟨#[]⟩) := (blk_cell BK233.out 0).trans rfl
          have hcz75_1 : wr.cell? ⟨gb233, 1, none⟩ = some (.int .i64 0) := (blk_cell BK233.out 1).trans rfl
          have hcz75_2 : wr.cell? ⟨gb233, 2, none⟩ = some (.int .i64 0) := (blk_cell BK233.out 2).trans rfl
          have hcz75_3 : wr.cell? ⟨gb233, 3, none⟩ = some (.string ⟨#[]⟩) := (blk_cell BK233.out 3).trans rfl
          have hfz75_0 := blk_frozen BK233.out 0
          have hfz75_1 := blk_frozen BK233.out 1
          have hfz75_2 := blk_frozen BK233.out 2
          have hfz75_3 := blk_frozen BK233.out 3
          go_wp2
          refine bodyPost_ret (results_ctt rfl _ _ gb233 60 #[.string ⟨#[]⟩, .int .i64 0, .int .i64 0, .string ⟨#[]⟩] (0, 0) _ rfl (by (repeat refine kq_ ?_); apply put5_; (repeat refine kq_ ?_); exact BK233.out) Tryz.underlying60 rfl (by kernel_rfl)) rfl ?_
          exact ⟨by first | rfl | simp [*, errW_none, errW_some, q_ne_nil], by repeat (first | (with_reducible first | exact HB.out | apply below_alloc | apply pw_below_drewN | apply below_drew1 | refine below_set ?_ GE233.out) | exact HB.out)⟩
         rw [if_neg c74] at H
         obtain ⟨c74b0, c74b1⟩ := eF_ c74
         replace H := ifs_ H; obtain ⟨c76, H⟩ := H
         exact absurd H (by simp)
        rw [if_pos c54] at H
        have c54b0 := decide_eq_true c54
        clear c54
        replace H := ifs_ H; obtain ⟨c55, H⟩ := H
        have c55b0 := decide_eq_true c55
        clear c55
        replace H := Option.bind_eq_some_iff.mp H
        obtain ⟨t249, A570, H⟩ := H
        (try dsimp only at H)
        have A57 := Aside0.mk A570
        clear A570
        by_cases c58 : t249 = true
        ·subst c58
         rw [if_pos rfl] at H
         have H' := Aside0.mk H
         clear H
         have p56 : 0 ≤ (x8_3 : Int) := of_decide_eq_true (by assumption)
         have q56 : x8_3 < (a0.size : Int) := of_decide_eq_true (by assumption)
         have hx56 := bt_at a0 x8_3
         replace p56 := eq_true p56
         replace q56 := eq_true q56
         go_wp2_with (first | (go_at_call 116; (with_reducible refine (glacisref05_base.calls (bt a0 x8_3) true _ A57.out).mono ?_); rintro e w' ⟨rfl, ⟨nd, rfl⟩⟩))
         go_roundg k3
         case measure => have := HJ9.out; have := HJ23.out; have := HK3.out; omega
         case rel => exact ⟨(wrap64 (x8_3 + 1)), (by first | rfl | simp [*]), H', ⟨by have := HJ9.out; have := HJ23.out; have := HK3.out; omega⟩, ⟨by (repeat refine kq_ ?_); exact BK233.out⟩, ⟨by repeat (first | (with_reducible first | exact HB.out | apply below_alloc | apply pw_below_drewN | apply below_drew1 | refine below_set ?_ GE233.out) | exact HB.out)⟩⟩
        replace c58 := Bool.eq_false_iff.mpr c58
        subst c58
        rw [if_neg (show ¬ (false = true) by decide)] at H
        by_cases c59 : x8_3 = (a0.size : Int)
        ·rw [if_pos c59] at H
         obtain ⟨c59b0, c59b1⟩ := eT_ c59
         clear c59
         simp only [Option.some.injEq, Prod.mk.injEq] at H
         obtain ⟨rfl, rfl, rfl, rfl, rfl, rfl⟩ := H
         have p56 : 0 ≤ (x8_3 : Int) := of_decide_eq_true (by assumption)
         have q56 : x8_3 < (a0.size : Int) := of_decide_eq_true (by assumption)
         have hx56 := bt_at a0 x8_3
         replace p56 := eq_true p56
         replace q56 := eq_true q56
         go_wp2_with (first | (go_at_call 116; (with_reducible refine (glacisref05_base.calls (bt a0 x8_3) false _ A57.out).mono ?_); rintro e w' ⟨rfl, ⟨nd, rfl⟩⟩; (try (rw [drewN_self wr]; generalize hq_ : World.drewN wr _ = wr; have l_ := lq_ hq_; replace BK233 := Aside0.mk (kl_ (W := wr) BK233.out); replace HB := Aside0.mk (bl_ (W := wr) HB.out); clear hq_ l_)); obtain ⟨hcz60_0, hcz60_1, hcz60_2, hcz60_3⟩ := c4_ BK233.out; obtain ⟨hfz60_0, hfz60_1, hfz60_2, hfz60_3⟩ := f4_ BK233.out))
         refine bodyPost_ret (results_ctt rfl _ _ gb233 60 #[.string ⟨#[]⟩, .int .i64 0, .int .i64 0, .string ⟨#[]⟩] (0, 0) _ rfl (by (repeat refine kq_ ?_); apply put5_; (repeat refine kq_ ?_); exact BK233.out) Tryz.underlying60 rfl (by kernel_rfl)) rfl ?_
         exact ⟨by first | rfl | simp [*, errW_none, errW_some, q_ne_nil], by repeat (first | (with_reducible first | exact HB.out | apply below_alloc | apply pw_below_drewN | apply below_drew1 | refine below_set ?_ GE233.out) | exact HB.out)⟩
        rw [if_neg c59] at H
        obtain ⟨c59b0, c59b1⟩ := eF_ c59
        by_cases c62 : (bt a0 x8_3) = 58
        rotate_left
        ·rw [if_neg c62] at H
         obtain ⟨c62b0, c62b1⟩ := eF_ c62
         simp only [Option.some.injEq, Prod.mk.injEq] at H
         obtain ⟨rfl, rfl, rfl, rfl, rfl, rfl⟩ := H
         have p56 : 0 ≤ (x8_3 : Int) := of_decide_eq_true (by assumption)
         have q56 : x8_3 < (a0.size : Int) := of_decide_eq_true (by assumption)
         have hx56 := bt_at a0 x8_3
         replace p56 := eq_true p56
         replace q56 := eq_true q56
         go_wp2_with (first | (go_at_call 116; (with_reducible refine (glacisref05_base.calls (bt a0 x8_3) false _ A57.out).mono ?_); rintro e w' ⟨rfl, ⟨nd, rfl⟩⟩; (try (rw [drewN_self wr]; generalize hq_ : World.drewN wr _ = wr; have l_ := lq_ hq_; replace BK233 := Aside0.mk (kl_ (W := wr) BK233.out); replace HB := Aside0.mk (bl_ (W := wr) HB.out); clear hq_ l_)); have p61 : 0 ≤ (x8_3 : Int) := of_decide_eq_true (by assumption); have q61 : x8_3 < (a0.size : Int) := of_decide_eq_true (by assumption); have hx61 := bt_at a0 x8_3; replace p61 := eq_true p61; replace q61 := eq_true q61; obtain ⟨hcz73_0, hcz73_1, hcz73_2, hcz73_3⟩ := c4_ BK233.out; obtain ⟨hfz73_0, hfz73_1, hfz73_2, hfz73_3⟩ := f4_ BK233.out))
         refine bodyPost_ret (results_ctt rfl _ _ gb233 60 #[.string ⟨#[]⟩, .int .i64 0, .int .i64 0, .string ⟨#[]⟩] (0, 0) _ rfl (by (repeat refine kq_ ?_); apply put5_; (repeat refine kq_ ?_); exact BK233.out) Tryz.underlying60 rfl (by kernel_rfl)) rfl ?_
         exact ⟨by first | rfl | simp [*, errW_none, errW_some, q_ne_nil], by repeat (first | (with_reducible first | exact HB.out | apply below_alloc | apply pw_below_drewN | apply below_drew1 | refine below_set ?_ GE233.out) | exact HB.out)⟩
        rw [if_pos c62] at H
        obtain ⟨c62b0, c62b1⟩ := eT_ c62
        clear c62
        replace H := ifs_ H; obtain ⟨c63, H⟩ := H
        have c63b0 := eq_true c63
        have c63b1 := decide_eq_true c63
        clear c63
        replace H := ifs_ H; obtain ⟨c64, H⟩ := H
        have c64b0 := eq_true c64
        have c64b1 := decide_eq_true c64
        clear c64
        obtain ⟨ji65, hji65⟩ : ∃ j_ : Int, (wrap64 (x8_3 + 1)) = j_ := ⟨_, rfl⟩
        replace H : (if 0 ≤ (ji65) then (if (ji65) ≤ (a0.size : Int) then (some ((⟨#[]⟩ : ByteArray), 5, 0, a0.extract 1 (x8_3 : Int).toNat, a0.extract ((ji65) : Int).toNat a0.size, true)) else (none)) else (none)) = some (r1, r2, r3, r4, r5, r6) := by first | (rw [hji65] at H; exact H) | (simp only [hji65] at H ⊢; exact H)
        (try rw [hji65] at A57)
        have hji65w : (IntKind.i64.wrap (x8_3 + 1)) = ji65 := (i64_w _).trans hji65
        replace H := ifs_ H; obtain ⟨c66, H⟩ := H
        have c66b0 := eq_true c66
        have c66b1 := decide_eq_true c66
        clear c66
        replace H := ifs_ H; obtain ⟨c67, H⟩ := H
        have c67b0 := eq_true c67
        have c67b1 := decide_eq_true c67
        clear c67
        simp only [Option.some.injEq, Prod.mk.injEq] at H
        obtain ⟨rfl, rfl, rfl, rfl, rfl, rfl⟩ := H
        have p56 : 0 ≤ (x8_3 : Int) := of_decide_eq_true (by assumption)
        have q56 : x8_3 < (a0.size : Int) := of_decide_eq_true (by assumption)
        have hx56 := bt_at a0 x8_3
        replace p56 := eq_true p56
        replace q56 := eq_true q56
        try go_wp2_with (first | (go_at_call 116; (with_reducible refine (glacisref05_base.calls (bt a0 x8_3) false _ A57.out).mono ?_); rintro e w' ⟨rfl, ⟨nd, rfl⟩⟩; (try (rw [drewN_self wr]; generalize hq_ : World.drewN wr _ = wr; have l_ := lq_ hq_; replace BK233 := Aside0.mk (kl_ (W := wr) BK233.out); replace HB := Aside0.mk (bl_ (W := wr) HB.out); clear hq_ l_)); have p61 : 0 ≤ (x8_3 : Int) := of_decide_eq_true (by assumption); have q61 : x8_3 < (a0.size : Int) := of_decide_eq_true (by assumption); have hx61 := bt_at a0 x8_3; replace p61 := eq_true p61; replace q61 := eq_true q61))
        have n0_ := Aside0.mk (blk_drew BK233.out)
        have n1_ := Aside0.mk (below_drew1 HB.out)
        clear BK233
        clear HB
        have BK233 := n0_
        have HB := n1_
        clear n0_ n1_
        refine start_ (n := 11) (S := fun w' => True) (ds := []) #[false,false,false,false,false,false,false,false,false,false,false] (by kernel_rfl) rfl rfl trivial (fun hHeld => ?_); refine with_tabW glacisref05_value.tab20 glacisref05_value.bits20 (fun HT_ HW_ => ?_)
        generalize wr.drew = w68 at BK233 HB hHeld ⊢
        refine pure_ (i := 0) (N := some 92) (v := ?_) (a' := ?_) #[true,false,false,false,false,false,false,false,false,false,false] rfl rfl (any_of HT_.out (by kernel_rfl)) (fun _ _ _ h => h) (Or.inl ⟨by rfl, ?_⟩) ?_ ?_; rotate_left; (intro w'; go_simp; with_reducible rfl); rotate_left; (simp only [Act.put, List.setIfInBounds_toArray, List.set_cons_zero, List.set_cons_succ, i64_w, i32_w]; rfl)
        refine pure_ (i := 1) (N := some 93) (v := ?_) (a' := ?_) #[true,true,false,false,false,false,false,false,false,false,false] rfl rfl (any_of HT_.out (by kernel_rfl)) (fun _ _ _ h => h) (Or.inl ⟨by rfl, ?_⟩) ?_ ?_; rotate_left; (intro w'; go_simp; with_reducible rfl); rotate_left; (simp only [Act.put, List.setIfInBounds_toArray, List.set_cons_zero, List.set_cons_succ, i64_w, i32_w]; rfl)
        refine pure_ (i := 2) (N := some 94) (v := ?_) (a' := ?_) #[true,true,true,false,false,false,false,false,false,false,false] rfl rfl (any_of HT_.out (by kernel_rfl)) (fun _ _ _ h => h) (Or.inl ⟨by rfl, ?_⟩) ?_ ?_; rotate_left; (intro w'; go_simp; with_reducible rfl); rotate_left; (simp only [Act.put, List.setIfInBounds_toArray, List.set_cons_zero, List.set_cons_succ, i64_w, i32_w]; rfl)
        refine pure_ (i := 3) (N := some 95) (v := ?_) (a' := ?_) #[true,true,true,true,false,false,false,false,false,false,false] rfl rfl (any_of HT_.out (by kernel_rfl)) (fun _ _ _ h => h) (Or.inl ⟨by rfl, ?_⟩) ?_ ?_; rotate_left; (intro w'; go_simp; with_reducible rfl); rotate_left; (simp only [Act.put, List.setIfInBounds_toArray, List.set_cons_zero, List.set_cons_succ, i64_w, i32_w]; rfl)
        refine pure_ (i := 4) (N := some 96) (v := ?_) (a' := ?_) #[true,true,true,true,true,false,false,false,false,false,false] rfl rfl (any_of HT_.out (by kernel_rfl)) (fun _ _ _ h => h) (Or.inl ⟨by rfl, ?_⟩) ?_ ?_; rotate_left; (intro w'; go_simp; with_reducible rfl); rotate_left; (simp only [Act.put, List.setIfInBounds_toArray, List.set_cons_zero, List.set_cons_succ, i64_w, i32_w]; rfl)
        refine pure_ (i := 5) (N := some 97) (v := ?_) (a' := ?_) #[true,true,true,true,true,true,false,false,false,false,false] rfl rfl (any_of HT_.out (by kernel_rfl)) (fun _ _ _ h => h) (Or.inl ⟨by rfl, ?_⟩) ?_ ?_; rotate_left; (intro w'; go_simp; with_reducible rfl); rotate_left; (simp only [Act.put, List.setIfInBounds_toArray, List.set_cons_zero, List.set_cons_succ, i64_w, i32_w]; rfl)
        refine pure_ (i := 6) (N := some 98) (v := ?_) (a' := ?_) #[true,true,true,true,true,true,true,false,false,false,false] rfl rfl (any_of HT_.out (by kernel_rfl)) (fun _ _ _ h => h) (Or.inl ⟨by rfl, ?_⟩) ?_ ?_; rotate_left; (intro w'; go_simp; with_reducible rfl); rotate_left; (simp only [Act.put, List.setIfInBounds_toArray, List.set_cons_zero, List.set_cons_succ, i64_w, i32_w]; rfl)
        refine pure_ (i := 7) (N := some 99) (v := ?_) (a' := ?_) #[true,true,true,true,true,true,true,true,false,false,false] rfl rfl (any_of HT_.out (by kernel_rfl)) (fun _ _ _ h => h) (Or.inl ⟨by rfl, ?_⟩) ?_ ?_; rotate_left; (intro w'; go_simp; with_reducible rfl); rotate_left; (simp only [Act.put, List.setIfInBounds_toArray, List.set_cons_zero, List.set_cons_succ, i64_w, i32_w]; rfl)
        refine one_ (i := 8) (N := none) #[true,true,true,true,true,true,true,true,true,false,false] rfl rfl (one_of HT_.out (by kernel_rfl)) (by decide) (fun K hK => ?_)
        have hs69 : w68.cell? ⟨gb233, 0, none⟩ = some (.string ⟨#[]⟩) := (blk_cell BK233.out 0).trans rfl
        have hfs69 := blk_frozen BK233.out 0
        have hs70 : w68.cell? ⟨gb233, 1, none⟩ = some (.int .i64 0) := (blk_cell BK233.out 1).trans rfl
        have hfs70 := blk_frozen BK233.out 1
        have hs71 : w68.cell? ⟨gb233, 2, none⟩ = some (.int .i64 0) := (blk_cell BK233.out 2).trans rfl
        have hfs71 := blk_frozen BK233.out 2
        have hs72 : w68.cell? ⟨gb233, 3, none⟩ = some (.string ⟨#[]⟩) := (blk_cell BK233.out 3).trans rfl
        have hfs72 := blk_frozen BK233.out 3
        refine skip_ (w1 := ?_) (by rfl) rfl ?_ ?_
        rotate_left
        ·go_simp
         rfl
        refine hK.out _ _ trivial (fun hHeld => ?_)
        clear hK K
        refine pure_ (i := 9) (N := some 3) (v := ?_) (a' := ?_) #[true,true,true,true,true,true,true,true,true,true,false] rfl rfl (any_of HT_.out (by kernel_rfl)) (fun _ _ _ h => h) (Or.inl ⟨by rfl, ?_⟩) ?_ ?_; rotate_left; (intro w'; go_simp; with_reducible rfl); rotate_left; (simp only [Act.put, List.setIfInBounds_toArray, List.set_cons_zero, List.set_cons_succ, i64_w, i32_w]; rfl)
        refine pure_ (i := 10) (N := some 4) (v := ?_) (a' := ?_) #[true,true,true,true,true,true,true,true,true,true,true] rfl rfl (any_of HT_.out (by kernel_rfl)) (fun _ _ _ h => h) (Or.inl ⟨by rfl, ?_⟩) ?_ ?_; rotate_left; (intro w'; go_simp; with_reducible rfl); rotate_left; (simp only [Act.put, List.setIfInBounds_toArray, List.set_cons_zero, List.set_cons_succ, i64_w, i32_w]; rfl)
        refine done_ (done_of HT_.out (by kernel_rfl)) ?_
        try go_wp2
        refine bodyPost_ret (results_ctt rfl _ _ gb233 60 #[.string ⟨#[]⟩, .int .i64 5, .int .i64 0, .string (a0.extract 1 (x8_3 : Int).toNat)] (0, 0) _ rfl (by (repeat refine kq_ ?_); apply put5_; (repeat refine kq_ ?_); exact BK233.out) Tryz.underlying60 rfl (by kernel_rfl)) rfl ?_
        exact ⟨by first | rfl | (simp [errW_none, errW_some] <;> rfl) | (simp only [← hji65]; first | rfl | (simp [errW_none, errW_some] <;> rfl)) | (simp [*, errW_none, errW_some] <;> rfl) | (simp [q_ne_nil]; done), by repeat (first | (with_reducible first | exact HB.out | apply below_alloc | apply pw_below_drewN | apply below_drew1 | refine below_set ?_ GE233.out) | exact HB.out)⟩
     rw [if_neg c53] at H
     obtain ⟨c53b0, c53b1⟩ := eF_ c53
     by_cases c78 : (bt a0 0) = 63
     rotate_left
     ·rw [if_neg c78] at H
      obtain ⟨c78b0, c78b1⟩ := eF_ c78
      simp only [Option.some.injEq, Prod.mk.injEq] at H
      obtain ⟨rfl, rfl, rfl, rfl, rfl, rfl⟩ := H
      have p52 : 0 ≤ (0 : Int) := (by omega)
      have q52 : 0 < a0.size := (by have : (0 : Int) < (a0.size : Int) := of_decide_eq_true (by assumption); omega)
      have hx52 : ∀ h : 0 < a0.size, ((a0[0]'h).toNat : Int) = bt a0 0 := bt_at a0 0
      clear p52
      have qi52 : (0 < (a0.size : Int)) = True := eq_true (of_decide_eq_true (by assumption))
      replace q52 := eq_true q52
      have p77 : 0 ≤ (0 : Int) := (by omega)
      have q77 : 0 < a0.size := (by have : (0 : Int) < (a0.size : Int) := of_decide_eq_true (by assumption); omega)
      have hx77 : ∀ h : 0 < a0.size, ((a0[0]'h).toNat : Int) = bt a0 0 := bt_at a0 0
      clear p77
      have qi77 : (0 < (a0.size : Int)) = True := eq_true (of_decide_eq_true (by assumption))
      replace q77 := eq_true q77
      have hcz101_0 : wc.cell? ⟨gb233, 0, none⟩ = some (.string ⟨#[]⟩) := (blk_cell BK233.out 0).trans rfl
      have hcz101_1 : wc.cell? ⟨gb233, 1, none⟩ = some (.int .i64 0) := (blk_cell BK233.out 1).trans rfl
      have hcz101_2 : wc.cell? ⟨gb233, 2, none⟩ = some (.int .i64 0) := (blk_cell BK233.out 2).trans rfl
      have hcz101_3 : wc.cell? ⟨gb233, 3, none⟩ = some (.string ⟨#[]⟩) := (blk_cell BK233.out 3).trans rfl
      have hfz101_0 := blk_frozen BK233.out 0
      have hfz101_1 := blk_frozen BK233.out 1
      have hfz101_2 := blk_frozen BK233.out 2
      have hfz101_3 := blk_frozen BK233.out 3
      go_wp2
      refine bodyPost_ret (results_ctt rfl _ _ gb233 60 #[.string ⟨#[]⟩, .int .i64 0, .int .i64 0, .string ⟨#[]⟩] (0, 0) _ rfl (by (repeat refine kq_ ?_); apply put5_; (repeat refine kq_ ?_); exact BK233.out) Tryz.underlying60 rfl (by kernel_rfl)) rfl ?_
      exact ⟨by first | rfl | simp [*, errW_none, errW_some, q_ne_nil], by repeat (first | (with_reducible first | exact HB.out | apply below_alloc | apply pw_below_drewN | apply below_drew1 | refine below_set ?_ GE233.out) | exact HB.out)⟩
     rw [if_pos c78] at H
     obtain ⟨c78b0, c78b1⟩ := eT_ c78
     clear c78
     by_cases c79 : (a0.size : Int) < 2
     ·rw [if_pos c79] at H
      have c79b0 := decide_eq_true c79
      have c79b1 : decide (a0.size < 2) = true := decide_eq_true (by omega)
      clear c79
      simp only [Option.some.injEq, Prod.mk.injEq] at H
      obtain ⟨rfl, rfl, rfl, rfl, rfl, rfl⟩ := H
      have p52 : 0 ≤ (0 : Int) := (by omega)
      have q52 : 0 < a0.size := (by have : (0 : Int) < (a0.size : Int) := of_decide_eq_true (by assumption); omega)
      have hx52 : ∀ h : 0 < a0.size, ((a0[0]'h).toNat : Int) = bt a0 0 := bt_at a0 0
      clear p52
      have qi52 : (0 < (a0.size : Int)) = True := eq_true (of_decide_eq_true (by assumption))
      replace q52 := eq_true q52
      have p77 : 0 ≤ (0 : Int) := (by omega)
      have q77 : 0 < a0.size := (by have : (0 : Int) < (a0.size : Int) := of_decide_eq_true (by assumption); omega)
      have hx77 : ∀ h : 0 < a0.size, ((a0[0]'h).toNat : Int) = bt a0 0 := bt_at a0 0
      clear p77
      have qi77 : (0 < (a0.size : Int)) = True := eq_true (of_decide_eq_true (by assumption))
      replace q77 := eq_true q77
      have hcz80_0 : wc.cell? ⟨gb233, 0, none⟩ = some (.string ⟨#[]⟩) := (blk_cell BK233.out 0).trans rfl
      have hcz80_1 : wc.cell? ⟨gb233, 1, none⟩ = some (.int .i64 0) := (blk_cell BK233.out 1).trans rfl
      have hcz80_2 : wc.cell? ⟨gb233, 2, none⟩ = some (.int .i64 0) := (blk_cell BK233.out 2).trans rfl
      have hcz80_3 : wc.cell? ⟨gb233, 3, none⟩ = some (.string ⟨#[]⟩) := (blk_cell BK233.out 3).trans rfl
      have hfz80_0 := blk_frozen BK233.out 0
      have hfz80_1 := blk_frozen BK233.out 1
      have hfz80_2 := blk_frozen BK233.out 2
      have hfz80_3 := blk_frozen BK233.out 3
      go_wp2
      refine bodyPost_ret (results_ctt rfl _ _ gb233 60 #[.string ⟨#[]⟩, .int .i64 0, .int .i64 0, .string ⟨#[]⟩] (0, 0) _ rfl (by (repeat refine kq_ ?_); apply put5_; (repeat refine kq_ ?_); exact BK233.out) Tryz.underlying60 rfl (by kernel_rfl)) rfl ?_
      exact ⟨by first | rfl | simp [*, errW_none, errW_some, q_ne_nil], by repeat (first | (with_reducible first | exact HB.out | apply below_alloc | apply pw_below_drewN | apply below_drew1 | refine below_set ?_ GE233.out) | exact HB.out)⟩
     rw [if_neg c79] at H
     have c79b0 := decide_eq_false c79
     have c79b1 : decide (a0.size < 2) = false := decide_eq_false (by omega)
     clear c79
     replace H := ifs_ H; obtain ⟨c81, H⟩ := H
     have c81b0 := decide_eq_true c81
     have c81b1 : decide (1 < a0.size) = true := decide_eq_true (by omega)
     clear c81
     by_cases c83 : (bt a0 1) = 48
     ·rw [if_pos c83] at H
      obtain ⟨c83b0, c83b1⟩ := eT_ c83
      clear c83
      replace H := ifs_ H; obtain ⟨c85, H⟩ := H
      have c85b0 := eq_true c85
      have c85b1 := decide_eq_true c85
      clear c85
      simp only [Option.some.injEq, Prod.mk.injEq] at H
      obtain ⟨rfl, rfl, rfl, rfl, rfl, rfl⟩ := H
      have p52 : 0 ≤ (0 : Int) := (by omega)
      have q52 : 0 < a0.size := (by have : (0 : Int) < (a0.size : Int) := of_decide_eq_true (by assumption); omega)
      have hx52 : ∀ h : 0 < a0.size, ((a0[0]'h).toNat : Int) = bt a0 0 := bt_at a0 0
      clear p52
      have qi52 : (0 < (a0.size : Int)) = True := eq_true (of_decide_eq_true (by assumption))
      replace q52 := eq_true q52
      have p77 : 0 ≤ (0 : Int) := (by omega)
      have q77 : 0 < a0.size := (by have : (0 : Int) < (a0.size : Int) := of_decide_eq_true (by assumption); omega)
      have hx77 : ∀ h : 0 < a0.size, ((a0[0]'h).toNat : Int) = bt a0 0 := bt_at a0 0
      clear p77
      have qi77 : (0 < (a0.size : Int)) = True := eq_true (of_decide_eq_true (by assumption))
      replace q77 := eq_true q77
      have p82 : 0 ≤ (1 : Int) := (by omega)
      have q82 : 1 < a0.size := (by have : (1 : Int) < (a0.size : Int) := of_decide_eq_true (by assumption); omega)
      have hx82 : ∀ h : 1 < a0.size, ((a0[1]'h).toNat : Int) = bt a0 1 := bt_at a0 1
      clear p82
      have qi82 : (1 < (a0.size : Int)) = True := eq_true (of_decide_eq_true (by assumption))
      replace q82 := eq_true q82
      try go_wp2
      have n0_ := Aside0.mk (blk_drew BK233.out)
      have n1_ := Aside0.mk (below_drew1 HB.out)
      clear BK233
      clear HB
      have BK233 := n0_
      have HB := n1_
      clear n0_ n1_
      have p84 : 0 ≤ (1 : Int) := (by omega)
      have q84 : 1 < a0.size := (by have : (1 : Int) < (a0.size : Int) := of_decide_eq_true (by assumption); omega)
      have hx84 : ∀ h : 1 < a0.size, ((a0[1]'h).toNat : Int) = bt a0 1 := bt_at a0 1
      clear p84
      have qi84 : (1 < (a0.size : Int)) = True := eq_true (of_decide_eq_true (by assumption))
      replace q84 := eq_true q84
      refine start_ (n := 10) (S := fun w' => True) (ds := []) #[false,false,false,false,false,false,false,false,false,false] (by kernel_rfl) rfl rfl trivial (fun hHeld => ?_); refine with_tabW glacisref05_value.tab24 glacisref05_value.bits24 (fun HT_ HW_ => ?_)
      generalize wc.drew = w86 at BK233 HB hHeld ⊢
      refine pure_ (i := 0) (N := some 118) (v := ?_) (a' := ?_) #[true,false,false,false,false,false,false,false,false,false] rfl rfl (any_of HT_.out (by kernel_rfl)) (fun _ _ _ h => h) (Or.inl ⟨by rfl, ?_⟩) ?_ ?_; rotate_left; (intro w'; go_simp; with_reducible rfl); rotate_left; (simp only [Act.put, List.setIfInBounds_toArray, List.set_cons_zero, List.set_cons_succ, i64_w, i32_w]; rfl)
      refine pure_ (i := 5) (N := some 123) (v := ?_) (a' := ?_) #[true,false,false,false,false,true,false,false,false,false] rfl rfl (any_of HT_.out (by kernel_rfl)) (fun _ _ _ h => h) (Or.inl ⟨by rfl, ?_⟩) ?_ ?_; rotate_left; (intro w'; go_simp; with_reducible rfl); rotate_left; (simp only [Act.put, List.setIfInBounds_toArray, List.set_cons_zero, List.set_cons_succ, i64_w, i32_w]; rfl)
      refine pure_ (i := 6) (N := some 124) (v := ?_) (a' := ?_) #[true,false,false,false,false,true,true,false,false,false] rfl rfl (any_of HT_.out (by kernel_rfl)) (fun _ _ _ h => h) (Or.inl ⟨by rfl, ?_⟩) ?_ ?_; rotate_left; (intro w'; go_simp; with_reducible rfl); rotate_left; (simp only [Act.put, List.setIfInBounds_toArray, List.set_cons_zero, List.set_cons_succ, i64_w, i32_w]; rfl)
      refine take_ (i := 1) (N := some 119) (v := ?_) (a' := ?_) #[true,true,false,false,false,true,true,false,false,false] rfl rfl (take_ofW HT_.out HW_.out (by kernel_rfl)) (fun _ _ _ h => h) (Or.inl ⟨by rfl, ?_⟩) hHeld ?_ ?_
      rotate_left
      ·intro w' _
       go_simp
       with_reducible rfl
      rotate_left
      ·simp only [Act.put, List.setIfInBounds_toArray, List.set_cons_zero, List.set_cons_succ, i64_w, i32_w]
       rfl
      refine pure_ (i := 2) (N := some 120) (v := ?_) (a' := ?_) #[true,true,true,false,false,true,true,false,false,false] rfl rfl (any_of HT_.out (by kernel_rfl)) (fun _ _ _ h => h) (Or.inl ⟨by rfl, ?_⟩) ?_ ?_; rotate_left; (intro w'; go_simp; with_reducible rfl); rotate_left; (simp only [Act.put, List.setIfInBounds_toArray, List.set_cons_zero, List.set_cons_succ, i64_w, i32_w]; rfl)
      refine pure_ (i := 3) (N := some 121) (v := ?_) (a' := ?_) #[true,true,true,true,false,true,true,false,false,false] rfl rfl (any_of HT_.out (by kernel_rfl)) (fun _ _ _ h => h) (Or.inl ⟨by rfl, ?_⟩) ?_ ?_; rotate_left; (intro w'; go_simp; with_reducible rfl); rotate_left; (simp only [Act.put, List.setIfInBounds_toArray, List.set_cons_zero, List.set_cons_succ, i64_w, i32_w]; rfl)
      refine pure_ (i := 4) (N := some 122) (v := ?_) (a' := ?_) #[true,true,true,true,true,true,true,false,false,false] rfl rfl (any_of HT_.out (by kernel_rfl)) (fun _ _ _ h => h) (Or.inl ⟨by rfl, ?_⟩) ?_ ?_; rotate_left; (intro w'; go_simp; with_reducible rfl); rotate_left; (simp only [Act.put, List.setIfInBounds_toArray, List.set_cons_zero, List.set_cons_succ, i64_w, i32_w]; rfl)
      refine one_ (i := 7) (N := none) #[true,true,true,true,true,true,true,true,false,false] rfl rfl (one_of HT_.out (by kernel_rfl)) (by decide) (fun K hK => ?_)
      have hs87 : w86.cell? ⟨gb233, 0, none⟩ = some (.string ⟨#[]⟩) := (blk_cell BK233.out 0).trans rfl
      have hfs87 := blk_frozen BK233.out 0
      have hs88 : w86.cell? ⟨gb233, 1, none⟩ = some (.int .i64 0) := (blk_cell BK233.out 1).trans rfl
      have hfs88 := blk_frozen BK233.out 1
      have hs89 : w86.cell? ⟨gb233, 2, none⟩ = some (.int .i64 0) := (blk_cell BK233.out 2).trans rfl
      have hfs89 := blk_frozen BK233.out 2
      have hs90 : w86.cell? ⟨gb233, 3, none⟩ = some (.string ⟨#[]⟩) := (blk_cell BK233.out 3).trans rfl
      have hfs90 := blk_frozen BK233.out 3
      refine skip_ (w1 := ?_) (by rfl) rfl ?_ ?_
      rotate_left
      ·go_simp
       rfl
      refine hK.out _ _ trivial (fun hHeld => ?_)
      clear hK K
      refine pure_ (i := 8) (N := some 3) (v := ?_) (a' := ?_) #[true,true,true,true,true,true,true,true,true,false] rfl rfl (any_of HT_.out (by kernel_rfl)) (fun _ _ _ h => h) (Or.inl ⟨by rfl, ?_⟩) ?_ ?_; rotate_left; (intro w'; go_simp; with_reducible rfl); rotate_left; (simp only [Act.put, List.setIfInBounds_toArray, List.set_cons_zero, List.set_cons_succ, i64_w, i32_w]; rfl)
      refine pure_ (i := 9) (N := some 4) (v := ?_) (a' := ?_) #[true,true,true,true,true,true,true,true,true,true] rfl rfl (any_of HT_.out (by kernel_rfl)) (fun _ _ _ h => h) (Or.inl ⟨by rfl, ?_⟩) ?_ ?_; rotate_left; (intro w'; go_simp; with_reducible rfl); rotate_left; (simp only [Act.put, List.setIfInBounds_toArray, List.set_cons_zero, List.set_cons_succ, i64_w, i32_w]; rfl)
      refine done_ (done_of HT_.out (by kernel_rfl)) ?_
      try go_wp2
      refine bodyPost_ret (results_ctt rfl _ _ gb233 60 #[.string ⟨#[]⟩, .int .i64 6, .int .i64 (((bt a0 1) - 48) % 256), .string ⟨#[]⟩] (0, 0) _ rfl (by (repeat refine kq_ ?_); refine blk_put (cs := #[.string ⟨#[]⟩, .int .i64 6, .int .i64 (((bt a0 1) - 48) % 256), .string ⟨#[]⟩]) ?_ 3 _ rfl; (repeat refine kq_ ?_); refine blk_put (cs := #[.string ⟨#[]⟩, .int .i64 6, .int .i64 0, .string ⟨#[]⟩]) ?_ 2 _ (by first | rfl | (have hcv_ : wrap64 (IntKind.u8.wrap ((bt a0 1) - 48)) = (((bt a0 1) - 48) % 256) := (by show wrap64 (((bt a0 1) - 48) % 256) = _; unfold wrap64; omega); rw [hcv_]; rfl)); (repeat refine kq_ ?_); refine blk_put (cs := #[.string ⟨#[]⟩, .int .i64 0, .int .i64 0, .string ⟨#[]⟩]) ?_ 1 _ rfl; (repeat refine kq_ ?_); refine blk_put (cs := #[.string ⟨#[]⟩, .int .i64 0, .int .i64 0, .string ⟨#[]⟩]) ?_ 0 _ rfl; (repeat refine kq_ ?_); exact BK233.out) Tryz.underlying60 rfl (by kernel_rfl)) rfl ?_
      exact ⟨by first | rfl | simp [*, errW_none, errW_some, q_ne_nil], by repeat (first | (with_reducible first | exact HB.out | apply below_alloc | apply pw_below_drewN | apply below_drew1 | refine below_set ?_ GE233.out) | exact HB.out)⟩
     rw [if_neg c83] at H
     obtain ⟨c83b0, c83b1⟩ := eF_ c83
     by_cases c92 : (bt a0 1) = 49
     rotate_left
     ·rw [if_neg c92] at H
      obtain ⟨c92b0, c92b1⟩ := eF_ c92
      simp only [Option.some.injEq, Prod.mk.injEq] at H
      obtain ⟨rfl, rfl, rfl, rfl, rfl, rfl⟩ := H
      have p52 : 0 ≤ (0 : Int) := (by omega)
      have q52 : 0 < a0.size := (by have : (0 : Int) < (a0.size : Int) := of_decide_eq_true (by assumption); omega)
      have hx52 : ∀ h : 0 < a0.size, ((a0[0]'h).toNat : Int) = bt a0 0 := bt_at a0 0
      clear p52
      have qi52 : (0 < (a0.size : Int)) = True := eq_true (of_decide_eq_true (by assumption))
      replace q52 := eq_true q52
      have p77 : 0 ≤ (0 : Int) := (by omega)
      have q77 : 0 < a0.size := (by have : (0 : Int) < (a0.size : Int) := of_decide_eq_true (by assumption); omega)
      have hx77 : ∀ h : 0 < a0.size, ((a0[0]'h).toNat : Int) = bt a0 0 := bt_at a0 0
      clear p77
      have qi77 : (0 < (a0.size : Int)) = True := eq_true (of_decide_eq_true (by assumption))
      replace q77 := eq_true q77
      have p82 : 0 ≤ (1 : Int) := (by omega)
      have q82 : 1 < a0.size := (by have : (1 : Int) < (a0.size : Int) := of_decide_eq_true (by assumption); omega)
      have hx82 : ∀ h : 1 < a0.size, ((a0[1]'h).toNat : Int) = bt a0 1 := bt_at a0 1
      clear p82
      have qi82 : (1 < (a0.size : Int)) = True := eq_true (of_decide_eq_true (by assumption))
      replace q82 := eq_true q82
      have p91 : 0 ≤ (1 : Int) := (by omega)
      have q91 : 1 < a0.size := (by have : (1 : Int) < (a0.size : Int) := of_decide_eq_true (by assumption); omega)
      have hx91 : ∀ h : 1 < a0.size, ((a0[1]'h).toNat : Int) = bt a0 1 := bt_at a0 1
      clear p91
      have qi91 : (1 < (a0.size : Int)) = True := eq_true (of_decide_eq_true (by assumption))
      replace q91 := eq_true q91
      have hcz100_0 : wc.cell? ⟨gb233, 0, none⟩ = some (.string ⟨#[]⟩) := (blk_cell BK233.out 0).trans rfl
      have hcz100_1 : wc.cell? ⟨gb233, 1, none⟩ = some (.int .i64 0) := (blk_cell BK233.out 1).trans rfl
      have hcz100_2 : wc.cell? ⟨gb233, 2, none⟩ = some (.int .i64 0) := (blk_cell BK233.out 2).trans rfl
      have hcz100_3 : wc.cell? ⟨gb233, 3, none⟩ = some (.string ⟨#[]⟩) := (blk_cell BK233.out 3).trans rfl
      have hfz100_0 := blk_frozen BK233.out 0
      have hfz100_1 := blk_frozen BK233.out 1
      have hfz100_2 := blk_frozen BK233.out 2
      have hfz100_3 := blk_frozen BK233.out 3
      go_wp2
      refine bodyPost_ret (results_ctt rfl _ _ gb233 60 #[.string ⟨#[]⟩, .int .i64 0, .int .i64 0, .string ⟨#[]⟩] (0, 0) _ rfl (by (repeat refine kq_ ?_); apply put5_; (repeat refine kq_ ?_); exact BK233.out) Tryz.underlying60 rfl (by kernel_rfl)) rfl ?_
      exact ⟨by first | rfl | simp [*, errW_none, errW_some, q_ne_nil], by repeat (first | (with_reducible first | exact HB.out | apply below_alloc | apply pw_below_drewN | apply below_drew1 | refine below_set ?_ GE233.out) | exact HB.out)⟩
     rw [if_pos c92] at H
     obtain ⟨c92b0, c92b1⟩ := eT_ c92
     clear c92
     replace H := ifs_ H; obtain ⟨c94, H⟩ := H
     have c94b0 := eq_true c94
     have c94b1 := decide_eq_true c94
     clear c94
     simp only [Option.some.injEq, Prod.mk.injEq] at H
     obtain ⟨rfl, rfl, rfl, rfl, rfl, rfl⟩ := H
     have p52 : 0 ≤ (0 : Int) := (by omega)
     have q52 : 0 < a0.size := (by have : (0 : Int) < (a0.size : Int) := of_decide_eq_true (by assumption); omega)
     have hx52 : ∀ h : 0 < a0.size, ((a0[0]'h).toNat : Int) = bt a0 0 := bt_at a0 0
     clear p52
     have qi52 : (0 < (a0.size : Int)) = True := eq_true (of_decide_eq_true (by assumption))
     replace q52 := eq_true q52
     have p77 : 0 ≤ (0 : Int) := (by omega)
     have q77 : 0 < a0.size := (by have : (0 : Int) < (a0.size : Int) := of_decide_eq_true (by assumption); omega)
     have hx77 : ∀ h : 0 < a0.size, ((a0[0]'h).toNat : Int) = bt a0 0 := bt_at a0 0
     clear p77
     have qi77 : (0 < (a0.size : Int)) = True := eq_true (of_decide_eq_true (by assumption))
     replace q77 := eq_true q77
     have p82 : 0 ≤ (1 : Int) := (by omega)
     have q82 : 1 < a0.size := (by have : (1 : Int) < (a0.size : Int) := of_decide_eq_true (by assumption); omega)
     have hx82 : ∀ h : 1 < a0.size, ((a0[1]'h).toNat : Int) = bt a0 1 := bt_at a0 1
     clear p82
     have qi82 : (1 < (a0.size : Int)) = True := eq_true (of_decide_eq_true (by assumption))
     replace q82 := eq_true q82
     have p91 : 0 ≤ (1 : Int) := (by omega)
     have q91 : 1 < a0.size := (by have : (1 : Int) < (a0.size : Int) := of_decide_eq_true (by assumption); omega)
     have hx91 : ∀ h : 1 < a0.size, ((a0[1]'h).toNat : Int) = bt a0 1 := bt_at a0 1
     clear p91
     have qi91 : (1 < (a0.size : Int)) = True := eq_true (of_decide_eq_true (by assumption))
     replace q91 := eq_true q91
     try go_wp2
     have n0_ := Aside0.mk (blk_drew BK233.out)
     have n1_ := Aside0.mk (below_drew1 HB.out)
     clear BK233
     clear HB
     have BK233 := n0_
     have HB := n1_
     clear n0_ n1_
     have p93 : 0 ≤ (1 : Int) := (by omega)
     have q93 : 1 < a0.size := (by have : (1 : Int) < (a0.size : Int) := of_decide_eq_true (by assumption); omega)
     have hx93 : ∀ h : 1 < a0.size, ((a0[1]'h).toNat : Int) = bt a0 1 := bt_at a0 1
     clear p93
     have qi93 : (1 < (a0.size : Int)) = True := eq_true (of_decide_eq_true (by assumption))
     replace q93 := eq_true q93
     refine start_ (n := 10) (S := fun w' => True) (ds := []) #[false,false,false,false,false,false,false,false,false,false] (by kernel_rfl) rfl rfl trivial (fun hHeld => ?_); refine with_tabW glacisref05_value.tab24 glacisref05_value.bits24 (fun HT_ HW_ => ?_)
     generalize wc.drew = w95 at BK233 HB hHeld ⊢
     refine pure_ (i := 0) (N := some 118) (v := ?_) (a' := ?_) #[true,false,false,false,false,false,false,false,false,false] rfl rfl (any_of HT_.out (by kernel_rfl)) (fun _ _ _ h => h) (Or.inl ⟨by rfl, ?_⟩) ?_ ?_; rotate_left; (intro w'; go_simp; with_reducible rfl); rotate_left; (simp only [Act.put, List.setIfInBounds_toArray, List.set_cons_zero, List.set_cons_succ, i64_w, i32_w]; rfl)
     refine pure_ (i := 5) (N := some 123) (v := ?_) (a' := ?_) #[true,false,false,false,false,true,false,false,false,false] rfl rfl (any_of HT_.out (by kernel_rfl)) (fun _ _ _ h => h) (Or.inl ⟨by rfl, ?_⟩) ?_ ?_; rotate_left; (intro w'; go_simp; with_reducible rfl); rotate_left; (simp only [Act.put, List.setIfInBounds_toArray, List.set_cons_zero, List.set_cons_succ, i64_w, i32_w]; rfl)
     refine pure_ (i := 6) (N := some 124) (v := ?_) (a' := ?_) #[true,false,false,false,false,true,true,false,false,false] rfl rfl (any_of HT_.out (by kernel_rfl)) (fun _ _ _ h => h) (Or.inl ⟨by rfl, ?_⟩) ?_ ?_; rotate_left; (intro w'; go_simp; with_reducible rfl); rotate_left; (simp only [Act.put, List.setIfInBounds_toArray, List.set_cons_zero, List.set_cons_succ, i64_w, i32_w]; rfl)
     refine take_ (i := 1) (N := some 119) (v := ?_) (a' := ?_) #[true,true,false,false,false,true,true,false,false,false] rfl rfl (take_ofW HT_.out HW_.out (by kernel_rfl)) (fun _ _ _ h => h) (Or.inl ⟨by rfl, ?_⟩) hHeld ?_ ?_
     rotate_left
     ·intro w' _
      go_simp
      with_reducible rfl
     rotate_left
     ·simp only [Act.put, List.setIfInBounds_toArray, List.set_cons_zero, List.set_cons_succ, i64_w, i32_w]
      rfl
     refine pure_ (i := 2) (N := some 120) (v := ?_) (a' := ?_) #[true,true,true,false,false,true,true,false,false,false] rfl rfl (any_of HT_.out (by kernel_rfl)) (fun _ _ _ h => h) (Or.inl ⟨by rfl, ?_⟩) ?_ ?_; rotate_left; (intro w'; go_simp; with_reducible rfl); rotate_left; (simp only [Act.put, List.setIfInBounds_toArray, List.set_cons_zero, List.set_cons_succ, i64_w, i32_w]; rfl)
     refine pure_ (i := 3) (N := some 121) (v := ?_) (a' := ?_) #[true,true,true,true,false,true,true,false,false,false] rfl rfl (any_of HT_.out (by kernel_rfl)) (fun _ _ _ h => h) (Or.inl ⟨by rfl, ?_⟩) ?_ ?_; rotate_left; (intro w'; go_simp; with_reducible rfl); rotate_left; (simp only [Act.put, List.setIfInBounds_toArray, List.set_cons_zero, List.set_cons_succ, i64_w, i32_w]; rfl)
     refine pure_ (i := 4) (N := some 122) (v := ?_) (a' := ?_) #[true,true,true,true,true,true,true,false,false,false] rfl rfl (any_of HT_.out (by kernel_rfl)) (fun _ _ _ h => h) (Or.inl ⟨by rfl, ?_⟩) ?_ ?_; rotate_left; (intro w'; go_simp; with_reducible rfl); rotate_left; (simp only [Act.put, List.setIfInBounds_toArray, List.set_cons_zero, List.set_cons_succ, i64_w, i32_w]; rfl)
     refine one_ (i := 7) (N := none) #[true,true,true,true,true,true,true,true,false,false] rfl rfl (one_of HT_.out (by kernel_rfl)) (by decide) (fun K hK => ?_)
     have hs96 : w95.cell? ⟨gb233, 0, none⟩ = some (.string ⟨#[]⟩) := (blk_cell BK233.out 0).trans rfl
     have hfs96 := blk_frozen BK233.out 0
     have hs97 : w95.cell? ⟨gb233, 1, none⟩ = some (.int .i64 0) := (blk_cell BK233.out 1).trans rfl
     have hfs97 := blk_frozen BK233.out 1
     have hs98 : w95.cell? ⟨gb233, 2, none⟩ = some (.int .i64 0) := (blk_cell BK233.out 2).trans rfl
     have hfs98 := blk_frozen BK233.out 2
     have hs99 : w95.cell? ⟨gb233, 3, none⟩ = some (.string ⟨#[]⟩) := (blk_cell BK233.out 3).trans rfl
     have hfs99 := blk_frozen BK233.out 3
     refine skip_ (w1 := ?_) (by rfl) rfl ?_ ?_
     rotate_left
     ·go_simp
      rfl
     refine hK.out _ _ trivial (fun hHeld => ?_)
     clear hK K
     refine pure_ (i := 8) (N := some 3) (v := ?_) (a' := ?_) #[true,true,true,true,true,true,true,true,true,false] rfl rfl (any_of HT_.out (by kernel_rfl)) (fun _ _ _ h => h) (Or.inl ⟨by rfl, ?_⟩) ?_ ?_; rotate_left; (intro w'; go_simp; with_reducible rfl); rotate_left; (simp only [Act.put, List.setIfInBounds_toArray, List.set_cons_zero, List.set_cons_succ, i64_w, i32_w]; rfl)
     refine pure_ (i := 9) (N := some 4) (v := ?_) (a' := ?_) #[true,true,true,true,true,true,true,true,true,true] rfl rfl (any_of HT_.out (by kernel_rfl)) (fun _ _ _ h => h) (Or.inl ⟨by rfl, ?_⟩) ?_ ?_; rotate_left; (intro w'; go_simp; with_reducible rfl); rotate_left; (simp only [Act.put, List.setIfInBounds_toArray, List.set_cons_zero, List.set_cons_succ, i64_w, i32_w]; rfl)
     refine done_ (done_of HT_.out (by kernel_rfl)) ?_
     try go_wp2
     refine bodyPost_ret (results_ctt rfl _ _ gb233 60 #[.string ⟨#[]⟩, .int .i64 6, .int .i64 (((bt a0 1) - 48) % 256), .string ⟨#[]⟩] (0, 0) _ rfl (by (repeat refine kq_ ?_); refine blk_put (cs := #[.string ⟨#[]⟩, .int .i64 6, .int .i64 (((bt a0 1) - 48) % 256), .string ⟨#[]⟩]) ?_ 3 _ rfl; (repeat refine kq_ ?_); refine blk_put (cs := #[.string ⟨#[]⟩, .int .i64 6, .int .i64 0, .string ⟨#[]⟩]) ?_ 2 _ (by first | rfl | (have hcv_ : wrap64 (IntKind.u8.wrap ((bt a0 1) - 48)) = (((bt a0 1) - 48) % 256) := (by show wrap64 (((bt a0 1) - 48) % 256) = _; unfold wrap64; omega); rw [hcv_]; rfl)); (repeat refine kq_ ?_); refine blk_put (cs := #[.string ⟨#[]⟩, .int .i64 0, .int .i64 0, .string ⟨#[]⟩]) ?_ 1 _ rfl; (repeat refine kq_ ?_); refine blk_put (cs := #[.string ⟨#[]⟩, .int .i64 0, .int .i64 0, .string ⟨#[]⟩]) ?_ 0 _ rfl; (repeat refine kq_ ?_); exact BK233.out) Tryz.underlying60 rfl (by kernel_rfl)) rfl ?_
     exact ⟨by first | rfl | simp [*, errW_none, errW_some, q_ne_nil], by repeat (first | (with_reducible first | exact HB.out | apply below_alloc | apply pw_below_drewN | apply below_drew1 | refine below_set ?_ GE233.out) | exact HB.out)⟩
end Go.Proofs.YtjdbiicjfpgjkaaGreatDoor.Q
