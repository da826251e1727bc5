-- Laid by this seat's own driver (wip/tools/drive.py) out of the translation.
import Derived.Test.YtebkibohejjkcaaDoorQx0
import Derived.Test.YtebkibohejjkcaaDoorQx1
import Derived.Test.YtebkibohejjkcaaDoorQx3
namespace Go.Proofs.YtebkibohejjkcaaDoor.Q
open Go.RowKit Go.Proofs.YtebkibohejjkcaaDoorW.PrintWords Go.Proofs.YtebkibohejjkcaaDoorW.PrintLast Go.Proofs.YtebkibohejjkcaaDoorW.PrintMore
attribute [local go_sem] max2_int min2_int max_two min_two max_three min_three max_four min_four   -- for this text's walks alone
set_option linter.unusedVariables false
set_option linter.unusedSimpArgs false

/-! ### glacislaw07_HeadersJoins: function 4 -/
def glacislaw07_HeadersJoins.j0 : Nat → ByteArray → ByteArray → ByteArray → Bool → Bool → Option (Bool)
  | 0, _, _, _, _, _ => none
  | k + 1, x0, x1, x2, x7, x28 => if x28 = true then (some x7) else ((some (([(⟨x0, x1⟩ : S24), (⟨x0, x2⟩ : S24)] : List (S24)) : List (S24))).bind fun y136 => ((headers_Combined.f y136 x0).bind fun bt139 => ((headers_Values.f y136 x0).bind fun t144 => (if (t144.length : Int) = 2 then ((headers_Combined.f (([(⟨x0, bt139.1⟩ : S24)] : List (S24))) x0).bind fun bt147 => (if x7 = true then (if bt139.2 = true then (if bt147.2 = true then (if 0 < (t144.length : Int) then (if (rdOf ByteArray.empty t144 0).size + 2 ≤ 9223372036854775807 then (if 1 < (t144.length : Int) then (if ((rdOf ByteArray.empty t144 0) ++ (⟨#[44, 32]⟩ : ByteArray)).size + (rdOf ByteArray.empty t144 1).size ≤ 9223372036854775807 then (if bt139.1.toList = (((rdOf ByteArray.empty t144 0) ++ (⟨#[44, 32]⟩ : ByteArray)) ++ (rdOf ByteArray.empty t144 1)).toList then ((octet_Trim.f bt139.1).bind fun t151 => (some (bt147.1.toList == t151.toList))) else (none)) else (none)) else (none)) else (none)) else (none)) else (none)) else (none)) else (none))) else (none)))))
def glacislaw07_HeadersJoins.f (k : Nat) (a0 : ByteArray) (a1 : ByteArray) (a2 : ByteArray) : Option (Bool) := (glacislaw07_awake.f k).bind fun t135 => (if (a1.size : Int) > 2000 then (glacislaw07_HeadersJoins.j0 k a0 a1 a2 t135 true) else (if (a2.size : Int) > 2000 then (glacislaw07_HeadersJoins.j0 k a0 a1 a2 t135 true) else (glacislaw07_HeadersJoins.j0 k a0 a1 a2 t135 (decide ((a0.size : Int) > 1000)))))
theorem glacislaw07_HeadersJoins.mono_l : ∀ k, (∀ y0 y1 y2 y3 y4, LeO (glacislaw07_HeadersJoins.j0 k y0 y1 y2 y3 y4) (glacislaw07_HeadersJoins.j0 (k + 1) y0 y1 y2 y3 y4))
  | 0 => fun _ _ _ _ _ r h => by simp [glacislaw07_HeadersJoins.j0] at h
  | k + 1 => by
    have ih0 := glacislaw07_HeadersJoins.mono_l k
    · intro y0 y1 y2 y3 y4
      unfold glacislaw07_HeadersJoins.j0
      repeat' first
      | (with_reducible exact ih0 _ _ _ _ _)
      | (with_reducible exact glacislaw07_awake.mono _)
      | (with_reducible exact LeO.refl _)
      | (with_reducible exact LeO.none _)
      | (with_reducible refine LeO.ite ?_ ?_)
      | (with_reducible refine LeO.bind ?_ (fun _ => ?_))
      | exact ih0 _ _ _ _ _
      | exact glacislaw07_awake.mono _
      | exact LeO.none _
      | refine LeO.ite ?_ ?_
      | refine LeO.bind ?_ (fun _ => ?_)
theorem glacislaw07_HeadersJoins.mono : ∀ a0 a1 a2 k, LeO (glacislaw07_HeadersJoins.f k a0 a1 a2) (glacislaw07_HeadersJoins.f (k + 1) a0 a1 a2) := by
  intro a0 a1 a2 k
  have ih0 := glacislaw07_HeadersJoins.mono_l k
  unfold glacislaw07_HeadersJoins.f
  repeat' first
      | (with_reducible exact ih0 _ _ _ _ _)
      | (with_reducible exact glacislaw07_awake.mono _)
      | (with_reducible exact LeO.refl _)
      | (with_reducible exact LeO.none _)
      | (with_reducible refine LeO.ite ?_ ?_)
      | (with_reducible refine LeO.bind ?_ (fun _ => ?_))
      | exact ih0 _ _ _ _ _
      | exact glacislaw07_awake.mono _
      | exact LeO.none _
      | refine LeO.ite ?_ ?_
      | refine LeO.bind ?_ (fun _ => ?_)
def glacislaw07_HeadersJoins.T11 : Bool × List (List Nat × List Nat) := (true, [([], []), ([0], [0]), ([1], [1]), ([1, 2], [1, 2]), ([3, 1], [3]), ([4], [4]), ([4, 5], [4, 5]), ([6, 4], [6]), ([7], [7]), ([7], [7]), ([9, 7], [7, 9]), ([10, 7], [7, 10]), ([11, 7], [7, 11]), ([7], [7]), ([13, 7], [7, 13]), ([14, 7], [7, 14]), ([12, 15, 7], [7, 12, 15]), ([8, 16, 7], [7, 8, 16]), ([7, 17], [7, 17]), ([18, 7], [18]), ([19], [19]), ([19], [19]), ([21, 19, 19], [19, 21]), ([20, 22, 19], [19, 20, 22]), ([19, 23], [19, 23]), ([24, 22, 0, 1, 2, 3, 4, 5, 6, 7, 8, 9, 10, 11, 12, 13, 14, 15, 16, 17, 18, 19, 20, 21, 22, 23, 24], [24])])
def glacislaw07_HeadersJoins.B11 : List Nat := [0, 1, 3, 7, 15, 31, 63, 127, 255, 255, 767, 1791, 3839, 255, 8447, 24831, 65279, 131071, 262143, 524287, 1048575, 1048575, 3145727, 8388607, 16777215, 33554431]
theorem glacislaw07_HeadersJoins.tab11 : rtab .any (opsOf Tryd.f4 11) = glacislaw07_HeadersJoins.T11 := by kernel_rfl
theorem glacislaw07_HeadersJoins.bits11 : waitsOk glacislaw07_HeadersJoins.T11.2 glacislaw07_HeadersJoins.B11 = true := by kernel_rfl
set_option maxHeartbeats 8000000 in
set_option maxRecDepth 100000 in
theorem glacislaw07_HeadersJoins.calls (k : Nat) (a0 : ByteArray) (a1 : ByteArray) (a2 : ByteArray) (r : Bool) (w : World) (h : glacislaw07_HeadersJoins.f k a0 a1 a2 = some r) :
    Calls Tryd.prog 4 #[.string a0, .string a1, .string a2] w fun e w' => e = .returned (.bool r) ∧ Below w.heap.size w w' := by
  have hu24 := Tryd.underlying24
  have HB := Aside0.mk (Below.refl w.heap.size w)
  have H : ((glacislaw07_awake.f k).bind fun t135 => (if (a1.size : Int) > 2000 then (glacislaw07_HeadersJoins.j0 k a0 a1 a2 t135 true) else (if (a2.size : Int) > 2000 then (glacislaw07_HeadersJoins.j0 k a0 a1 a2 t135 true) else (glacislaw07_HeadersJoins.j0 k a0 a1 a2 t135 (decide ((a0.size : Int) > 1000)))))) = some r := h
  clear h
  replace H := Option.bind_eq_some_iff.mp H
  obtain ⟨t135, A40, H⟩ := H
  replace H : (if (a1.size : Int) > 2000 then (glacislaw07_HeadersJoins.j0 k a0 a1 a2 t135 true) else (if (a2.size : Int) > 2000 then (glacislaw07_HeadersJoins.j0 k a0 a1 a2 t135 true) else (glacislaw07_HeadersJoins.j0 k a0 a1 a2 t135 (decide ((a0.size : Int) > 1000))))) = some r := H
  have A4 := Aside0.mk A40
  clear A40
  have HC5 := Aside0.mk H
  clear H
  go_enter Tryd.func4, Tryd.ntmps4
  go_upto_region 2 with (first | ((with_reducible refine gate_callee (f := 7) rfl ?_); refine goesL_ (some 15) rfl rfl Tryd.func7 (by kernel_rfl) rfl #[] rfl (by (try simp only [List.map_toArray, List.map_cons, List.map_nil]); first | done | rfl | (simp only [List.length_drop, List.length_take]; rfl)) ?_; (with_reducible refine (glacislaw07_awake.calls k  t135 _ A4.out).mono ?_); rintro e w6 ⟨rfl, hb⟩; refine ⟨_, rfl, ?_⟩; have n0_ := Aside0.mk (below_step (by repeat (first | (with_reducible first | exact HB.out | apply below_alloc | apply pw_below_drewN | apply below_drew1) | exact HB.out)) hb); clear HB; have HB := n0_; clear n0_; (try clear hb); (try clear hb2); (try clear hk); (try clear hi)))
  (try simp only [Act.put, List.setIfInBounds_toArray, List.set_cons_zero, List.set_cons_succ])
  go_cut [28] (fun v28 wc => ∃ (kq : Nat) (x28_4 : Bool), v28 = .bool x28_4 ∧ Aside0 (glacislaw07_HeadersJoins.j0 kq a0 a1 a2 t135 x28_4 = some r) ∧ Aside0 (kq ≤ k) ∧ Aside0 (Below w.heap.size w wc))
  case first =>
    have H := HC5.out
    clear HC5
    by_cases c7 : (a1.size : Int) > 2000
    · rw [if_pos c7] at H
      have c7b0 : decide (2000 < (a1.size : Int)) = true := decide_eq_true c7
      have c7b1 : decide (2000 < a1.size) = true := decide_eq_true (by omega)
      clear c7
      (first | rw [c7b0] | (simp only [i64_w, i32_w]; rw [c7b0]) | skip)
      have H' := Aside0.mk H
      clear H
      go_wp2
      go_meet
      case rel => exact ⟨_, (true), (by first | rfl | (simp; done) | (simp [*]; done) | (simp [q_ne_nil]; done)), H', ⟨by first | omega | exact Nat.le_refl _⟩, ⟨by repeat (first | (with_reducible first | exact HB.out | apply below_alloc | apply pw_below_drewN | apply below_drew1) | exact HB.out)⟩⟩
    · rw [if_neg c7] at H
      have c7b0 : decide (2000 < (a1.size : Int)) = false := decide_eq_false c7
      have c7b1 : decide (2000 < a1.size) = false := decide_eq_false (by omega)
      clear c7
      (first | rw [c7b0] | (simp only [i64_w, i32_w]; rw [c7b0]) | skip)
      by_cases c8 : (a2.size : Int) > 2000
      · rw [if_pos c8] at H
        have c8b0 : decide (2000 < (a2.size : Int)) = true := decide_eq_true c8
        have c8b1 : decide (2000 < a2.size) = true := decide_eq_true (by omega)
        clear c8
        have H' := Aside0.mk H
        clear H
        go_wp2
        go_meet
        case rel => exact ⟨_, (true), (by first | rfl | (simp; done) | (simp [*]; done) | (simp [q_ne_nil]; done)), H', ⟨by first | omega | exact Nat.le_refl _⟩, ⟨by repeat (first | (with_reducible first | exact HB.out | apply below_alloc | apply pw_below_drewN | apply below_drew1) | exact HB.out)⟩⟩
      · rw [if_neg c8] at H
        have c8b0 : decide (2000 < (a2.size : Int)) = false := decide_eq_false c8
        have c8b1 : decide (2000 < a2.size) = false := decide_eq_false (by omega)
        clear c8
        have H' := Aside0.mk H
        clear H
        go_wp2
        go_meet
        case rel => exact ⟨_, (decide ((a0.size : Int) > 1000)), (by first | rfl | (simp; done) | (simp [*]; done) | (simp [q_ne_nil]; done)), H', ⟨by first | omega | exact Nat.le_refl _⟩, ⟨by repeat (first | (with_reducible first | exact HB.out | apply below_alloc | apply pw_below_drewN | apply below_drew1) | exact HB.out)⟩⟩
  case rest =>
    clear HC5
    try clear p2
    try clear c4
    try clear c7
    try clear c7b0
    try clear c7b1
    try clear c8
    try clear c8b0
    try clear c8b1
    obtain ⟨kq, x28_4, rfl, HA, HJ4, HB⟩ := hcut
    cases kq with
    | zero => exact absurd HA.out (by simp [glacislaw07_HeadersJoins.j0])
    | succ kj4 =>
      have H := HA.out
      clear HA
      simp only [glacislaw07_HeadersJoins.j0] at H
      by_cases c9 : x28_4 = true
      · subst c9
        have H1 : (some t135) = some r := by rw [if_pos rfl] at H; exact H
        clear H
        have H := H1
        clear H1
        obtain rfl := Option.some.inj H
        go_wp2
        go_ret
        exact ⟨by first | rfl | (simp [errW_none, errW_some] <;> rfl) | (simp [*, errW_none, errW_some] <;> rfl) | (simp [q_ne_nil]; done), by repeat (first | (with_reducible first | exact HB.out | apply below_alloc | apply pw_below_drewN | apply below_drew1) | exact HB.out)⟩
      · replace c9 := Bool.eq_false_iff.mpr c9
        subst c9
        have H1 : ((some (([(⟨a0, a1⟩ : S24), (⟨a0, a2⟩ : S24)] : List (S24)) : List (S24))).bind fun y136 => ((headers_Combined.f y136 a0).bind fun bt139 => ((headers_Values.f y136 a0).bind fun t144 => (if (t144.length : Int) = 2 then ((headers_Combined.f (([(⟨a0, bt139.1⟩ : S24)] : List (S24))) a0).bind fun bt147 => (if t135 = true then (if bt139.2 = true then (if bt147.2 = true then (if 0 < (t144.length : Int) then (if (rdOf ByteArray.empty t144 0).size + 2 ≤ 9223372036854775807 then (if 1 < (t144.length : Int) then (if ((rdOf ByteArray.empty t144 0) ++ (⟨#[44, 32]⟩ : ByteArray)).size + (rdOf ByteArray.empty t144 1).size ≤ 9223372036854775807 then (if bt139.1.toList = (((rdOf ByteArray.empty t144 0) ++ (⟨#[44, 32]⟩ : ByteArray)) ++ (rdOf ByteArray.empty t144 1)).toList then ((octet_Trim.f bt139.1).bind fun t151 => (some (bt147.1.toList == t151.toList))) else (none)) else (none)) else (none)) else (none)) else (none)) else (none)) else (none)) else (none))) else (none))))) = some r := by rw [if_neg (show ¬ (false = true) by decide)] at H; exact H
        clear H
        have H := H1
        clear H1
        obtain ⟨y136, hy136⟩ : ∃ y_ : List (S24), y_ = (([(⟨a0, a1⟩ : S24), (⟨a0, a2⟩ : S24)] : List (S24))) := ⟨_, rfl⟩
        replace H : ((headers_Combined.f y136 a0).bind fun bt139 => ((headers_Values.f y136 a0).bind fun t144 => (if (t144.length : Int) = 2 then ((headers_Combined.f (([(⟨a0, bt139.1⟩ : S24)] : List (S24))) a0).bind fun bt147 => (if t135 = true then (if bt139.2 = true then (if bt147.2 = true then (if 0 < (t144.length : Int) then (if (rdOf ByteArray.empty t144 0).size + 2 ≤ 9223372036854775807 then (if 1 < (t144.length : Int) then (if ((rdOf ByteArray.empty t144 0) ++ (⟨#[44, 32]⟩ : ByteArray)).size + (rdOf ByteArray.empty t144 1).size ≤ 9223372036854775807 then (if bt139.1.toList = (((rdOf ByteArray.empty t144 0) ++ (⟨#[44, 32]⟩ : ByteArray)) ++ (rdOf ByteArray.empty t144 1)).toList then ((octet_Trim.f bt139.1).bind fun t151 => (some (bt147.1.toList == t151.toList))) else (none)) else (none)) else (none)) else (none)) else (none)) else (none)) else (none)) else (none))) else (none)))) = some r := by first | (rw [hy136]; with_reducible exact H) | (have H2_ := (Option.bind_some _ _).symm.trans H; rw [hy136]; with_reducible exact H2_) | (have H2_ := (Option.bind_some _ _).symm.trans H; with_reducible exact H2_) | with_reducible exact H | (rw [hy136]; exact H) | exact H
        have Ny136 := Aside0.mk hy136
        clear hy136
        replace H := Option.bind_eq_some_iff.mp H
        obtain ⟨⟨t139, t140⟩, A100, H⟩ := H
        replace H : ((headers_Values.f y136 a0).bind fun t144 => (if (t144.length : Int) = 2 then ((headers_Combined.f (([(⟨a0, t139⟩ : S24)] : List (S24))) a0).bind fun bt147 => (if t135 = true then (if t140 = true then (if bt147.2 = true then (if 0 < (t144.length : Int) then (if (rdOf ByteArray.empty t144 0).size + 2 ≤ 9223372036854775807 then (if 1 < (t144.length : Int) then (if ((rdOf ByteArray.empty t144 0) ++ (⟨#[44, 32]⟩ : ByteArray)).size + (rdOf ByteArray.empty t144 1).size ≤ 9223372036854775807 then (if t139.toList = (((rdOf ByteArray.empty t144 0) ++ (⟨#[44, 32]⟩ : ByteArray)) ++ (rdOf ByteArray.empty t144 1)).toList then ((octet_Trim.f t139).bind fun t151 => (some (bt147.1.toList == t151.toList))) else (none)) else (none)) else (none)) else (none)) else (none)) else (none)) else (none)) else (none))) else (none))) = some r := H
        have A10 := Aside0.mk A100
        clear A100
        obtain ⟨y141, hy141⟩ : ∃ y_ : List (S24), y_ = (([(⟨a0, t139⟩ : S24)] : List (S24))) := ⟨_, rfl⟩
        replace H : ((headers_Values.f y136 a0).bind fun t144 => (if (t144.length : Int) = 2 then ((headers_Combined.f y141 a0).bind fun bt147 => (if t135 = true then (if t140 = true then (if bt147.2 = true then (if 0 < (t144.length : Int) then (if (rdOf ByteArray.empty t144 0).size + 2 ≤ 9223372036854775807 then (if 1 < (t144.length : Int) then (if ((rdOf ByteArray.empty t144 0) ++ (⟨#[44, 32]⟩ : ByteArray)).size + (rdOf ByteArray.empty t144 1).size ≤ 9223372036854775807 then (if t139.toList = (((rdOf ByteArray.empty t144 0) ++ (⟨#[44, 32]⟩ : ByteArray)) ++ (rdOf ByteArray.empty t144 1)).toList then ((octet_Trim.f t139).bind fun t151 => (some (bt147.1.toList == t151.toList))) else (none)) else (none)) else (none)) else (none)) else (none)) else (none)) else (none)) else (none))) else (none))) = some r := by first | (rw [hy141]; with_reducible exact H) | (have H2_ := (Option.bind_some _ _).symm.trans H; rw [hy141]; with_reducible exact H2_) | (have H2_ := (Option.bind_some _ _).symm.trans H; with_reducible exact H2_) | with_reducible exact H | (rw [hy141]; exact H) | exact H
        have Ny141 := Aside0.mk hy141
        clear hy141
        replace H := Option.bind_eq_some_iff.mp H
        obtain ⟨t144, A110, H⟩ := H
        replace H : (if (t144.length : Int) = 2 then ((headers_Combined.f y141 a0).bind fun bt147 => (if t135 = true then (if t140 = true then (if bt147.2 = true then (if 0 < (t144.length : Int) then (if (rdOf ByteArray.empty t144 0).size + 2 ≤ 9223372036854775807 then (if 1 < (t144.length : Int) then (if ((rdOf ByteArray.empty t144 0) ++ (⟨#[44, 32]⟩ : ByteArray)).size + (rdOf ByteArray.empty t144 1).size ≤ 9223372036854775807 then (if t139.toList = (((rdOf ByteArray.empty t144 0) ++ (⟨#[44, 32]⟩ : ByteArray)) ++ (rdOf ByteArray.empty t144 1)).toList then ((octet_Trim.f t139).bind fun t151 => (some (bt147.1.toList == t151.toList))) else (none)) else (none)) else (none)) else (none)) else (none)) else (none)) else (none)) else (none))) else (none)) = some r := H
        have A11 := Aside0.mk A110
        clear A110
        by_cases c12 : (t144.length : Int) = 2
        · rw [if_pos c12] at H
          have c12b0 : ((t144.length : Int) == 2) = true := beq_iff_eq.mpr c12
          have c12b1 : ((t144.length : Int) != 2) = false := bne_eq_false_iff_eq.mpr c12
          clear c12
          replace H := Option.bind_eq_some_iff.mp H
          obtain ⟨⟨t147, t148⟩, A130, H⟩ := H
          replace H : (if t135 = true then (if t140 = true then (if t148 = true then (if 0 < (t144.length : Int) then (if (rdOf ByteArray.empty t144 0).size + 2 ≤ 9223372036854775807 then (if 1 < (t144.length : Int) then (if ((rdOf ByteArray.empty t144 0) ++ (⟨#[44, 32]⟩ : ByteArray)).size + (rdOf ByteArray.empty t144 1).size ≤ 9223372036854775807 then (if t139.toList = (((rdOf ByteArray.empty t144 0) ++ (⟨#[44, 32]⟩ : ByteArray)) ++ (rdOf ByteArray.empty t144 1)).toList then ((octet_Trim.f t139).bind fun t151 => (some (t147.toList == t151.toList))) else (none)) else (none)) else (none)) else (none)) else (none)) else (none)) else (none)) else (none)) = some r := H
          have A13 := Aside0.mk A130
          clear A130
          by_cases c14 : t135 = true
          · subst c14
            have H1 : (if t140 = true then (if t148 = true then (if 0 < (t144.length : Int) then (if (rdOf ByteArray.empty t144 0).size + 2 ≤ 9223372036854775807 then (if 1 < (t144.length : Int) then (if ((rdOf ByteArray.empty t144 0) ++ (⟨#[44, 32]⟩ : ByteArray)).size + (rdOf ByteArray.empty t144 1).size ≤ 9223372036854775807 then (if t139.toList = (((rdOf ByteArray.empty t144 0) ++ (⟨#[44, 32]⟩ : ByteArray)) ++ (rdOf ByteArray.empty t144 1)).toList then ((octet_Trim.f t139).bind fun t151 => (some (t147.toList == t151.toList))) else (none)) else (none)) else (none)) else (none)) else (none)) else (none)) else (none)) = some r := by rw [if_pos rfl] at H; exact H
            clear H
            have H := H1
            clear H1
            by_cases c15 : t140 = true
            · subst c15
              have H1 : (if t148 = true then (if 0 < (t144.length : Int) then (if (rdOf ByteArray.empty t144 0).size + 2 ≤ 9223372036854775807 then (if 1 < (t144.length : Int) then (if ((rdOf ByteArray.empty t144 0) ++ (⟨#[44, 32]⟩ : ByteArray)).size + (rdOf ByteArray.empty t144 1).size ≤ 9223372036854775807 then (if t139.toList = (((rdOf ByteArray.empty t144 0) ++ (⟨#[44, 32]⟩ : ByteArray)) ++ (rdOf ByteArray.empty t144 1)).toList then ((octet_Trim.f t139).bind fun t151 => (some (t147.toList == t151.toList))) else (none)) else (none)) else (none)) else (none)) else (none)) else (none)) = some r := by rw [if_pos rfl] at H; exact H
              clear H
              have H := H1
              clear H1
              by_cases c16 : t148 = true
              · subst c16
                have H1 : (if 0 < (t144.length : Int) then (if (rdOf ByteArray.empty t144 0).size + 2 ≤ 9223372036854775807 then (if 1 < (t144.length : Int) then (if ((rdOf ByteArray.empty t144 0) ++ (⟨#[44, 32]⟩ : ByteArray)).size + (rdOf ByteArray.empty t144 1).size ≤ 9223372036854775807 then (if t139.toList = (((rdOf ByteArray.empty t144 0) ++ (⟨#[44, 32]⟩ : ByteArray)) ++ (rdOf ByteArray.empty t144 1)).toList then ((octet_Trim.f t139).bind fun t151 => (some (t147.toList == t151.toList))) else (none)) else (none)) else (none)) else (none)) else (none)) = some r := by rw [if_pos rfl] at H; exact H
                clear H
                have H := H1
                clear H1
                by_cases c17 : 0 < (t144.length : Int)
                · rw [if_pos c17] at H
                  have c17b0 : decide (0 < (t144.length : Int)) = true := decide_eq_true c17
                  have c17b1 : decide (0 < t144.length) = true := decide_eq_true (by omega)
                  clear c17
                  by_cases c18 : (rdOf ByteArray.empty t144 0).size + 2 ≤ 9223372036854775807
                  · rw [if_pos c18] at H
                    have c18b0 := eq_true c18
                    have c18b1 : decide ((rdOf ByteArray.empty t144 0).size + 2 ≤ 9223372036854775807) = true := decide_eq_true c18
                    try have c18b2 : (9223372036854775807 < (rdOf ByteArray.empty t144 0).size + 2) = False := eq_false (Nat.not_lt.2 c18)
                    by_cases c19 : 1 < (t144.length : Int)
                    · rw [if_pos c19] at H
                      have c19b0 : decide (1 < (t144.length : Int)) = true := decide_eq_true c19
                      have c19b1 : decide (1 < t144.length) = true := decide_eq_true (by omega)
                      clear c19
                      by_cases c20 : ((rdOf ByteArray.empty t144 0) ++ (⟨#[44, 32]⟩ : ByteArray)).size + (rdOf ByteArray.empty t144 1).size ≤ 9223372036854775807
                      · rw [if_pos c20] at H
                        have c20s : (rdOf ByteArray.empty t144 0).size + 2 + (rdOf ByteArray.empty t144 1).size ≤ 9223372036854775807 := by simpa [ByteArray.size_append, show (⟨#[44, 32]⟩ : ByteArray).size = 2 from rfl] using c20
                        have c20t : (9223372036854775807 < (rdOf ByteArray.empty t144 0).size + 2 + (rdOf ByteArray.empty t144 1).size) = False := eq_false (Nat.not_lt.2 c20s)
                        have c20b0 := eq_true c20
                        have c20b1 : decide (((rdOf ByteArray.empty t144 0) ++ (⟨#[44, 32]⟩ : ByteArray)).size + (rdOf ByteArray.empty t144 1).size ≤ 9223372036854775807) = true := decide_eq_true c20
                        try have c20b2 : (9223372036854775807 < ((rdOf ByteArray.empty t144 0) ++ (⟨#[44, 32]⟩ : ByteArray)).size + (rdOf ByteArray.empty t144 1).size) = False := eq_false (Nat.not_lt.2 c20)
                        by_cases c21 : t139.toList = (((rdOf ByteArray.empty t144 0) ++ (⟨#[44, 32]⟩ : ByteArray)) ++ (rdOf ByteArray.empty t144 1)).toList
                        · rw [if_pos c21] at H
                          have c21b0 : (t139.toList == (((rdOf ByteArray.empty t144 0) ++ (⟨#[44, 32]⟩ : ByteArray)) ++ (rdOf ByteArray.empty t144 1)).toList) = true := beq_iff_eq.mpr c21
                          have c21b1 : (t139.toList != (((rdOf ByteArray.empty t144 0) ++ (⟨#[44, 32]⟩ : ByteArray)) ++ (rdOf ByteArray.empty t144 1)).toList) = false := bne_eq_false_iff_eq.mpr c21
                          clear c21
                          replace H := Option.bind_eq_some_iff.mp H
                          obtain ⟨t151, A220, H⟩ := H
                          replace H : (some (t147.toList == t151.toList)) = some r := H
                          have A22 := Aside0.mk A220
                          clear A220
                          obtain rfl := Option.some.inj H
                          try go_wp2_with (first | ((with_reducible refine gate_dst (N := 36) rfl ?_); (try (refine gate_guard (by rfl) ?_; dsimp only)); refine Kd.R_lit k24 _ 24 ?hg (N := 36) ?hd (xs := ([(⟨a0, a1⟩ : S24), (⟨a0, a2⟩ : S24)] : List (S24))) (inner := [.string a0, .string a1, .string a0, .string a2]) (ok := fun _ => True) (okp := fun _ => True) ?hr ?hp (fun _ hk => hk) trivial (Below.refl _ _) (Nat.le_refl _) (by simp) ?_; (case hd => rfl); (case hg => rfl); (case hr => first | (go_simp; done) | (go_simp; rfl)); (case hp => exact (Reps.c2 (show Kd.M k24 _ _ _ (⟨a0, a1⟩ : S24) [.string a0, .string a1] from (k24_mkM _ _ _ (⟨a0, a1⟩ : S24) )) (Reps.c2 (show Kd.M k24 _ _ _ (⟨a0, a2⟩ : S24) [.string a0, .string a2] from (k24_mkM _ _ _ (⟨a0, a2⟩ : S24) )) (Reps.none _ _)))); intro v137 w23 ho24 hb hg_ hnew_; clear hg_ hnew_; (first | rw [← Ny136.out] at ho24 | (simp only [Int.reduceToNat] at ho24; rw [← Ny136.out] at ho24)); have n0_ := Aside0.mk (Kd.R_lower ho24 (below_size (by repeat (first | (with_reducible first | exact HB.out | apply below_alloc | apply pw_below_drewN | apply below_drew1) | exact HB.out)))); have n1_ := Aside0.mk (below_step (by repeat (first | (with_reducible first | exact HB.out | apply below_alloc | apply pw_below_drewN | apply below_drew1) | exact HB.out)) hb); clear HB; have HO138 := n0_; have HB := n1_; clear n0_ n1_; clear hb ho24; obtain ⟨Ao25, co25, eo25⟩ := Kd.R_slice HO138.out; subst eo25) | ((with_reducible refine gate_callee (f := 8) rfl ?_); refine goesL_ (some 40) rfl rfl Tryd.func8 (by kernel_rfl) rfl #[.slice Ao25 y136.length co25, .string a0] rfl (by (try simp only [List.map_toArray, List.map_cons, List.map_nil]); first | done | rfl | (simp only [List.length_drop, List.length_take]; rfl)) ?_; (with_reducible refine (headers_Combined.calls _ _ y136 a0 t139 true _ ?side1 ?side2 A10.out).mono ?_); (case side1 => repeat (first | exact (Kd.R_reads' HO138.out).2.2 | (with_reducible refine Kd.C_alloc ?_ _) | (with_reducible refine Kd.C_drewN ?_ _) | (with_reducible refine Kd.C_drew ?_))); (case side2 => exact (Kd.R_reads' HO138.out).2.1); rintro e w26 ⟨rfl, hb⟩; refine ⟨_, rfl, ?_⟩; have n0_ := Aside0.mk (Kd.R_below (by (with_reducible repeat (first | apply Kd.R_alloc | apply Kd.R_drewN | apply Kd.R_drew)); exact HO138.out) hb); have n1_ := Aside0.mk (below_step (by repeat (first | (with_reducible first | exact HB.out | apply below_alloc | apply pw_below_drewN | apply below_drew1) | exact HB.out)) hb); clear HO138; clear HB; have HO138 := n0_; have HB := n1_; clear n0_ n1_; (try clear hb); (try clear hb2); (try clear hk); (try clear hi)) | ((with_reducible refine gate_dst (N := 46) rfl ?_); (try (refine gate_guard (by rfl) ?_; dsimp only)); refine Kd.R_lit k24 _ 24 ?hg (N := 46) ?hd (xs := ([(⟨a0, t139⟩ : S24)] : List (S24))) (inner := [.string a0, .string t139]) (ok := fun _ => True) (okp := fun _ => True) ?hr ?hp (fun _ hk => hk) trivial (Below.refl _ _) (Nat.le_refl _) (by simp) ?_; (case hd => rfl); (case hg => rfl); (case hr => first | (go_simp; done) | (go_simp; rfl)); (case hp => exact (Reps.c2 (show Kd.M k24 _ _ _ (⟨a0, t139⟩ : S24) [.string a0, .string t139] from (k24_mkM _ _ _ (⟨a0, t139⟩ : S24) )) (Reps.none _ _))); intro v142 w27 ho28 hb hg_ hnew_; clear hg_ hnew_; (first | rw [← Ny141.out] at ho28 | (simp only [Int.reduceToNat] at ho28; rw [← Ny141.out] at ho28)); have n0_ := Aside0.mk (Kd.R_elder' (by (with_reducible repeat (first | apply Kd.R_alloc | apply Kd.R_drewN | apply Kd.R_drew)); exact HO138.out) (Kd.R_base ho28) hb); have n1_ := Aside0.mk (Kd.R_lower (Kd.R_new' ho28 (Kd.R_lt (by (with_reducible repeat (first | apply Kd.R_alloc | apply Kd.R_drewN | apply Kd.R_drew)); exact HO138.out))) (below_size (by repeat (first | (with_reducible first | exact HB.out | apply below_alloc | apply pw_below_drewN | apply below_drew1) | exact HB.out)))); have n2_ := Aside0.mk (below_step (by repeat (first | (with_reducible first | exact HB.out | apply below_alloc | apply pw_below_drewN | apply below_drew1) | exact HB.out)) hb); clear HO138; clear HB; have HO138 := n0_; have HO143 := n1_; have HB := n2_; clear n0_ n1_ n2_; clear hb ho28) | ((with_reducible refine gate_callee (f := 9) rfl ?_); refine goesL_ (some 49) rfl rfl Tryd.func9 (by kernel_rfl) rfl #[.slice Ao25 y136.length co25, .string a0] rfl (by (try simp only [List.map_toArray, List.map_cons, List.map_nil]); first | done | rfl | (simp only [List.length_drop, List.length_take]; rfl)) ?_; (with_reducible refine (headers_Values.calls _ _ y136 a0 t144 _ ?side1 ?side2 A11.out).mono ?_); (case side1 => repeat (first | exact (Kd.R_reads' HO138.out).2.2 | (with_reducible refine Kd.C_alloc ?_ _) | (with_reducible refine Kd.C_drewN ?_ _) | (with_reducible refine Kd.C_drew ?_))); (case side2 => exact (Kd.R_reads' HO138.out).2.1); rintro e w29 ⟨v145, rfl, ho0, hb⟩; refine ⟨_, rfl, ?_⟩; have n0_ := Aside0.mk (Kd.R_below (by (with_reducible repeat (first | apply Kd.R_alloc | apply Kd.R_drewN | apply Kd.R_drew)); exact HO138.out) hb); have n1_ := Aside0.mk (Kd.R_below (by (with_reducible repeat (first | apply Kd.R_alloc | apply Kd.R_drewN | apply Kd.R_drew)); exact HO143.out) hb); have n2_ := Aside0.mk (Kd.R_lower ho0 (below_size (by repeat (first | (with_reducible first | exact HB.out | apply below_alloc | apply pw_below_drewN | apply below_drew1) | exact HB.out)))); have n3_ := Aside0.mk (below_step (by repeat (first | (with_reducible first | exact HB.out | apply below_alloc | apply pw_below_drewN | apply below_drew1) | exact HB.out)) hb); clear HO138; clear HO143; clear HB; have HO138 := n0_; have HO143 := n1_; have HO146 := n2_; have HB := n3_; clear n0_ n1_ n2_ n3_; (try clear hb); (try clear hb2); (try clear hk); (try clear hi); (try clear ho0); obtain ⟨Ao30, co30, eo30⟩ := Kd.R_slice HO146.out; subst eo30; obtain ⟨Ao31, co31, eo31⟩ := Kd.R_slice HO143.out; subst eo31) | ((with_reducible refine gate_callee (f := 8) rfl ?_); refine goesL_ (some 56) rfl rfl Tryd.func8 (by kernel_rfl) rfl #[.slice Ao31 y141.length co31, .string a0] rfl (by (try simp only [List.map_toArray, List.map_cons, List.map_nil]); first | done | rfl | (simp only [List.length_drop, List.length_take]; rfl)) ?_; (with_reducible refine (headers_Combined.calls _ _ y141 a0 t147 true _ ?side1 ?side2 A13.out).mono ?_); (case side1 => repeat (first | exact (Kd.R_reads' HO143.out).2.2 | (with_reducible refine Kd.C_alloc ?_ _) | (with_reducible refine Kd.C_drewN ?_ _) | (with_reducible refine Kd.C_drew ?_))); (case side2 => exact (Kd.R_reads' HO143.out).2.1); rintro e w32 ⟨rfl, hb⟩; refine ⟨_, rfl, ?_⟩; have n0_ := Aside0.mk (Kd.R_below (by (with_reducible repeat (first | apply Kd.R_alloc | apply Kd.R_drewN | apply Kd.R_drew)); exact HO138.out) hb); have n1_ := Aside0.mk (Kd.R_below (by (with_reducible repeat (first | apply Kd.R_alloc | apply Kd.R_drewN | apply Kd.R_drew)); exact HO143.out) hb); have n2_ := Aside0.mk (Kd.R_below (by (with_reducible repeat (first | apply Kd.R_alloc | apply Kd.R_drewN | apply Kd.R_drew)); exact HO146.out) hb); have n3_ := Aside0.mk (below_step (by repeat (first | (with_reducible first | exact HB.out | apply below_alloc | apply pw_below_drewN | apply below_drew1) | exact HB.out)) hb); clear HO138; clear HO143; clear HO146; clear HB; have HO138 := n0_; have HO143 := n1_; have HO146 := n2_; have HB := n3_; clear n0_ n1_ n2_ n3_; (try clear hb); (try clear hb2); (try clear hk); (try clear hi)))
                          have n0_ := Aside0.mk (Kd.R_drew HO138.out)
                          have n1_ := Aside0.mk (Kd.R_drew HO143.out)
                          have n2_ := Aside0.mk (Kd.R_drew HO146.out)
                          have n3_ := Aside0.mk (below_drew1 HB.out)
                          clear HO138
                          clear HO143
                          clear HO146
                          clear HB
                          have HO138 := n0_
                          have HO143 := n1_
                          have HO146 := n2_
                          have HB := n3_
                          clear n0_ n1_ n2_ n3_
                          have p149 : 0 ≤ (0 : Int) := (by omega)
                          have q149 : 0 < (t144.length : Int) := of_decide_eq_true (by first | (with_reducible assumption) | assumption)
                          obtain ⟨ad149, e149, hx149_0⟩ := Kd.at_string (Kd.R_reads' HO146.out).2.2 0 p149 q149
                          cases e149
                          have qi149 : (0 < t144.length) = True := eq_true (by omega)
                          (try rw [show ((0 : Int)).toNat = 0 from rfl] at hx149_0)
                          (try rw [Addr.add_zero'] at hx149_0)
                          replace p149 := eq_true p149
                          replace q149 := eq_true q149
                          have p150 : 0 ≤ (1 : Int) := (by omega)
                          have q150 : 1 < (t144.length : Int) := of_decide_eq_true (by first | (with_reducible assumption) | assumption)
                          obtain ⟨ad150, e150, hx150_0⟩ := Kd.at_string (Kd.R_reads' HO146.out).2.2 1 p150 q150
                          obtain rfl : ad149 = ad150 := (by injection e150)
                          (try simp only [show (1 : Int).toNat = 1 from rfl, Nat.reduceMul, Nat.reduceEqDiff, Go.Addr.add, ↓reduceIte] at hx150_0)
                          have qi150 : (1 < t144.length) = True := eq_true (by omega)
                          (try rw [show ((1 : Int)).toNat = 1 from rfl] at hx150_0)
                          replace p150 := eq_true p150
                          replace q150 := eq_true q150
                          refine start_ (n := 26) (S := fun w' => w'.cell? ad149 = some (.string (rdOf ByteArray.empty t144 0)) ∧ w'.cell? ⟨ad149.block, ad149.off + 1, none⟩ = some (.string (rdOf ByteArray.empty t144 1))) (ds := []) #[false, false, false, false, false, false, false, false, false, false, false, false, false, false, false, false, false, false, false, false, false, false, false, false, false, false] (by kernel_rfl) rfl rfl ⟨hx149_0, hx150_0⟩ (fun hHeld => ?_); refine with_tabW glacislaw07_HeadersJoins.tab11 glacislaw07_HeadersJoins.bits11 (fun HT_ HW_ => ?_)
                          generalize w32.drew = w33 at HO138 HO143 HO146 HB hx149_0 hx150_0 hHeld ⊢
                          refine pure_ (i := 0) (N := some 59) (v := ?_) (a' := ?_) #[true, false, false, false, false, false, false, false, false, false, false, false, false, false, false, false, false, false, false, false, false, false, false, false, false, false] rfl rfl (any_of HT_.out (by kernel_rfl)) (fun _ _ _ h => h) (Or.inl ⟨by rfl, ?_⟩) ?_ ?_
                          rotate_left
                          · intro w'
                            go_simp
                            with_reducible rfl
                          rotate_left
                          · simp only [Act.put, List.setIfInBounds_toArray, List.set_cons_zero, List.set_cons_succ, i64_w, i32_w]
                            rfl
                          refine pure_ (i := 1) (N := some 60) (v := ?_) (a' := ?_) #[true, true, false, false, false, false, false, false, false, false, false, false, false, false, false, false, false, false, false, false, false, false, false, false, false, false] rfl rfl (any_of HT_.out (by kernel_rfl)) (fun _ _ _ h => h) (Or.inl ⟨by rfl, ?_⟩) ?_ ?_
                          rotate_left
                          · intro w'
                            go_simp
                            with_reducible rfl
                          rotate_left
                          · simp only [Act.put, List.setIfInBounds_toArray, List.set_cons_zero, List.set_cons_succ, i64_w, i32_w]
                            rfl
                          refine pure_ (i := 2) (N := some 61) (v := ?_) (a' := ?_) #[true, true, true, false, false, false, false, false, false, false, false, false, false, false, false, false, false, false, false, false, false, false, false, false, false, false] rfl rfl (any_of HT_.out (by kernel_rfl)) (fun _ _ _ h => h) (Or.inl ⟨by rfl, ?_⟩) ?_ ?_
                          rotate_left
                          · intro w'
                            go_simp
                            with_reducible rfl
                          rotate_left
                          · simp only [Act.put, List.setIfInBounds_toArray, List.set_cons_zero, List.set_cons_succ, i64_w, i32_w]
                            rfl
                          refine pure_ (i := 3) (N := some 62) (v := ?_) (a' := ?_) #[true, true, true, true, false, false, false, false, false, false, false, false, false, false, false, false, false, false, false, false, false, false, false, false, false, false] rfl rfl (any_of HT_.out (by kernel_rfl)) (fun _ _ _ h => h) (Or.inl ⟨by rfl, ?_⟩) ?_ ?_
                          rotate_left
                          · intro w'
                            go_simp
                            with_reducible rfl
                          rotate_left
                          · simp only [Act.put, List.setIfInBounds_toArray, List.set_cons_zero, List.set_cons_succ, i64_w, i32_w]
                            rfl
                          refine pure_ (i := 4) (N := some 63) (v := ?_) (a' := ?_) #[true, true, true, true, true, false, false, false, false, false, false, false, false, false, false, false, false, false, false, false, false, false, false, false, false, false] rfl rfl (any_of HT_.out (by kernel_rfl)) (fun _ _ _ h => h) (Or.inl ⟨by rfl, ?_⟩) ?_ ?_
                          rotate_left
                          · intro w'
                            go_simp
                            with_reducible rfl
                          rotate_left
                          · simp only [Act.put, List.setIfInBounds_toArray, List.set_cons_zero, List.set_cons_succ, i64_w, i32_w]
                            rfl
                          refine pure_ (i := 5) (N := some 64) (v := ?_) (a' := ?_) #[true, true, true, true, true, true, false, false, false, false, false, false, false, false, false, false, false, false, false, false, false, false, false, false, false, false] rfl rfl (any_of HT_.out (by kernel_rfl)) (fun _ _ _ h => h) (Or.inl ⟨by rfl, ?_⟩) ?_ ?_
                          rotate_left
                          · intro w'
                            go_simp
                            with_reducible rfl
                          rotate_left
                          · simp only [Act.put, List.setIfInBounds_toArray, List.set_cons_zero, List.set_cons_succ, i64_w, i32_w]
                            rfl
                          refine pure_ (i := 6) (N := some 65) (v := ?_) (a' := ?_) #[true, true, true, true, true, true, true, false, false, false, false, false, false, false, false, false, false, false, false, false, false, false, false, false, false, false] rfl rfl (any_of HT_.out (by kernel_rfl)) (fun _ _ _ h => h) (Or.inl ⟨by rfl, ?_⟩) ?_ ?_
                          rotate_left
                          · intro w'
                            go_simp
                            with_reducible rfl
                          rotate_left
                          · simp only [Act.put, List.setIfInBounds_toArray, List.set_cons_zero, List.set_cons_succ, i64_w, i32_w]
                            rfl
                          refine pure_ (i := 7) (N := some 66) (v := ?_) (a' := ?_) #[true, true, true, true, true, true, true, true, false, false, false, false, false, false, false, false, false, false, false, false, false, false, false, false, false, false] rfl rfl (any_of HT_.out (by kernel_rfl)) (fun _ _ _ h => h) (Or.inl ⟨by rfl, ?_⟩) ?_ ?_
                          rotate_left
                          · intro w'
                            go_simp
                            with_reducible rfl
                          rotate_left
                          · simp only [Act.put, List.setIfInBounds_toArray, List.set_cons_zero, List.set_cons_succ, i64_w, i32_w]
                            rfl
                          refine pure_ (i := 8) (N := some 67) (v := ?_) (a' := ?_) #[true, true, true, true, true, true, true, true, true, false, false, false, false, false, false, false, false, false, false, false, false, false, false, false, false, false] rfl rfl (any_of HT_.out (by kernel_rfl)) (fun _ _ _ h => h) (Or.inl ⟨by rfl, ?_⟩) ?_ ?_
                          rotate_left
                          · intro w'
                            go_simp
                            with_reducible rfl
                          rotate_left
                          · simp only [Act.put, List.setIfInBounds_toArray, List.set_cons_zero, List.set_cons_succ, i64_w, i32_w]
                            rfl
                          refine pure_ (i := 9) (N := some 68) (v := ?_) (a' := ?_) #[true, true, true, true, true, true, true, true, true, true, false, false, false, false, false, false, false, false, false, false, false, false, false, false, false, false] rfl rfl (any_of HT_.out (by kernel_rfl)) (fun _ _ _ h => h) (Or.inl ⟨by rfl, ?_⟩) ?_ ?_
                          rotate_left
                          · intro w'
                            go_simp
                            with_reducible rfl
                          rotate_left
                          · simp only [Act.put, List.setIfInBounds_toArray, List.set_cons_zero, List.set_cons_succ, i64_w, i32_w]
                            rfl
                          refine pure_ (i := 10) (N := some 69) (v := ?_) (a' := ?_) #[true, true, true, true, true, true, true, true, true, true, true, false, false, false, false, false, false, false, false, false, false, false, false, false, false, false] rfl rfl (any_of HT_.out (by kernel_rfl)) (fun _ _ _ h => h) (Or.inl ⟨by rfl, ?_⟩) ?_ ?_
                          rotate_left
                          · intro w'
                            go_simp
                            with_reducible rfl
                          rotate_left
                          · simp only [Act.put, List.setIfInBounds_toArray, List.set_cons_zero, List.set_cons_succ, i64_w, i32_w]
                            rfl
                          refine pure_ (i := 13) (N := some 72) (v := ?_) (a' := ?_) #[true, true, true, true, true, true, true, true, true, true, true, false, false, true, false, false, false, false, false, false, false, false, false, false, false, false] rfl rfl (any_of HT_.out (by kernel_rfl)) (fun _ _ _ h => h) (Or.inl ⟨by rfl, ?_⟩) ?_ ?_
                          rotate_left
                          · intro w'
                            go_simp
                            with_reducible rfl
                          rotate_left
                          · simp only [Act.put, List.setIfInBounds_toArray, List.set_cons_zero, List.set_cons_succ, i64_w, i32_w]
                            rfl
                          refine pure_ (i := 14) (N := some 73) (v := ?_) (a' := ?_) #[true, true, true, true, true, true, true, true, true, true, true, false, false, true, true, false, false, false, false, false, false, false, false, false, false, false] rfl rfl (any_of HT_.out (by kernel_rfl)) (fun _ _ _ h => h) (Or.inl ⟨by rfl, ?_⟩) ?_ ?_
                          rotate_left
                          · intro w'
                            go_simp
                            with_reducible rfl
                          rotate_left
                          · simp only [Act.put, List.setIfInBounds_toArray, List.set_cons_zero, List.set_cons_succ, i64_w, i32_w]
                            rfl
                          refine take_ (i := 11) (N := some 70) (v := ?_) (a' := ?_) #[true, true, true, true, true, true, true, true, true, true, true, true, false, true, true, false, false, false, false, false, false, false, false, false, false, false] rfl rfl (take_ofW HT_.out HW_.out (by kernel_rfl)) (fun _ _ _ h => h) (Or.inl ⟨by rfl, ?_⟩) hHeld ?_ ?_
                          rotate_left
                          · rintro w' ⟨s0, s1⟩
                            go_simp
                            with_reducible rfl
                          rotate_left
                          · simp only [Act.put, List.setIfInBounds_toArray, List.set_cons_zero, List.set_cons_succ, i64_w, i32_w]
                            rfl
                          refine pure_ (i := 12) (N := some 71) (v := ?_) (a' := ?_) #[true, true, true, true, true, true, true, true, true, true, true, true, true, true, true, false, false, false, false, false, false, false, false, false, false, false] rfl rfl (any_of HT_.out (by kernel_rfl)) (fun _ _ _ h => h) (Or.inl ⟨by rfl, ?_⟩) ?_ ?_
                          rotate_left
                          · intro w'
                            go_simp
                            with_reducible rfl
                          rotate_left
                          · simp only [Act.put, List.setIfInBounds_toArray, List.set_cons_zero, List.set_cons_succ, i64_w, i32_w]
                            rfl
                          refine take_ (i := 15) (N := some 74) (v := ?_) (a' := ?_) #[true, true, true, true, true, true, true, true, true, true, true, true, true, true, true, true, false, false, false, false, false, false, false, false, false, false] rfl rfl (take_ofW HT_.out HW_.out (by kernel_rfl)) (fun _ _ _ h => h) (Or.inl ⟨by rfl, ?_⟩) hHeld ?_ ?_
                          rotate_left
                          · rintro w' ⟨s0, s1⟩
                            go_simp
                            with_reducible rfl
                          rotate_left
                          · simp only [Act.put, List.setIfInBounds_toArray, List.set_cons_zero, List.set_cons_succ, i64_w, i32_w]
                            rfl
                          refine pure_ (i := 16) (N := some 75) (v := ?_) (a' := ?_) #[true, true, true, true, true, true, true, true, true, true, true, true, true, true, true, true, true, false, false, false, false, false, false, false, false, false] rfl rfl (any_of HT_.out (by kernel_rfl)) (fun _ _ _ h => h) (Or.inl ⟨by rfl, ?_⟩) ?_ ?_
                          rotate_left
                          · intro w'
                            go_simp
                            with_reducible rfl
                          rotate_left
                          · simp only [Act.put, List.setIfInBounds_toArray, List.set_cons_zero, List.set_cons_succ, i64_w, i32_w]
                            rfl
                          refine pure_ (i := 17) (N := some 76) (v := ?_) (a' := ?_) #[true, true, true, true, true, true, true, true, true, true, true, true, true, true, true, true, true, true, false, false, false, false, false, false, false, false] rfl rfl (any_of HT_.out (by kernel_rfl)) (fun _ _ _ h => h) (Or.inl ⟨by rfl, ?_⟩) ?_ ?_
                          rotate_left
                          · intro w'
                            go_simp
                            with_reducible rfl
                          rotate_left
                          · simp only [Act.put, List.setIfInBounds_toArray, List.set_cons_zero, List.set_cons_succ, i64_w, i32_w]
                            rfl
                          refine pure_ (i := 18) (N := some 77) (v := ?_) (a' := ?_) #[true, true, true, true, true, true, true, true, true, true, true, true, true, true, true, true, true, true, true, false, false, false, false, false, false, false] rfl rfl (any_of HT_.out (by kernel_rfl)) (fun _ _ _ h => h) (Or.inl ⟨by rfl, ?_⟩) ?_ ?_
                          rotate_left
                          · intro w'
                            go_simp
                            with_reducible rfl
                          rotate_left
                          · simp only [Act.put, List.setIfInBounds_toArray, List.set_cons_zero, List.set_cons_succ, i64_w, i32_w]
                            rfl
                          refine pure_ (i := 19) (N := some 78) (v := ?_) (a' := ?_) #[true, true, true, true, true, true, true, true, true, true, true, true, true, true, true, true, true, true, true, true, false, false, false, false, false, false] rfl rfl (any_of HT_.out (by kernel_rfl)) (fun _ _ _ h => h) (Or.inl ⟨by rfl, ?_⟩) ?_ ?_
                          rotate_left
                          · intro w'
                            go_simp
                            with_reducible rfl
                          rotate_left
                          · simp only [Act.put, List.setIfInBounds_toArray, List.set_cons_zero, List.set_cons_succ, i64_w, i32_w]
                            rfl
                          refine pure_ (i := 20) (N := some 79) (v := ?_) (a' := ?_) #[true, true, true, true, true, true, true, true, true, true, true, true, true, true, true, true, true, true, true, true, true, false, false, false, false, false] rfl rfl (any_of HT_.out (by kernel_rfl)) (fun _ _ _ h => h) (Or.inl ⟨by rfl, ?_⟩) ?_ ?_
                          rotate_left
                          · intro w'
                            go_simp
                            with_reducible rfl
                          rotate_left
                          · simp only [Act.put, List.setIfInBounds_toArray, List.set_cons_zero, List.set_cons_succ, i64_w, i32_w]
                            rfl
                          refine pure_ (i := 21) (N := some 80) (v := ?_) (a' := ?_) #[true, true, true, true, true, true, true, true, true, true, true, true, true, true, true, true, true, true, true, true, true, true, false, false, false, false] rfl rfl (any_of HT_.out (by kernel_rfl)) (fun _ _ _ h => h) (Or.inl ⟨by rfl, ?_⟩) ?_ ?_
                          rotate_left
                          · intro w'
                            go_simp
                            with_reducible rfl
                          rotate_left
                          · simp only [Act.put, List.setIfInBounds_toArray, List.set_cons_zero, List.set_cons_succ, i64_w, i32_w]
                            rfl
                          refine one_ (i := 22) (N := some 81) #[true, true, true, true, true, true, true, true, true, true, true, true, true, true, true, true, true, true, true, true, true, true, true, false, false, false] rfl rfl (one_of HT_.out (by kernel_rfl)) (by decide) (fun K hK => ?_)
                          refine goes_ Tryd.func10 (by kernel_rfl) rfl #[.string t139] (by rfl) rfl rfl (by (try simp only [List.map_toArray, List.map_cons, List.map_nil]); first | done | rfl | (simp only [List.length_drop, List.length_take]; rfl)) ?_
                          with_reducible refine (octet_Trim.calls t139 t151 _ A22.out).mono ?_
                          rintro e w34 ⟨rfl, hb⟩
                          have HS0_ := (hb.cell (World.block_lt_of_cell? _ _ (hHeld.1))).trans (hHeld.1)
                          have HS1_ := (hb.cell (World.block_lt_of_cell? _ _ (hHeld.2))).trans (hHeld.2)
                          refine ⟨_, rfl, ?_⟩
                          have n0_ := Aside0.mk (Kd.R_below (by (with_reducible repeat (first | apply Kd.R_alloc | apply Kd.R_drewN | apply Kd.R_drew)); exact HO138.out) hb)
                          have n1_ := Aside0.mk (Kd.R_below (by (with_reducible repeat (first | apply Kd.R_alloc | apply Kd.R_drewN | apply Kd.R_drew)); exact HO143.out) hb)
                          have n2_ := Aside0.mk (Kd.R_below (by (with_reducible repeat (first | apply Kd.R_alloc | apply Kd.R_drewN | apply Kd.R_drew)); exact HO146.out) hb)
                          have n3_ := Aside0.mk (below_step (by repeat (first | (with_reducible first | exact HB.out | apply below_alloc | apply pw_below_drewN | apply below_drew1) | exact HB.out)) hb)
                          clear HO138
                          clear HO143
                          clear HO146
                          clear HB
                          have HO138 := n0_
                          have HO143 := n1_
                          have HO146 := n2_
                          have HB := n3_
                          clear n0_ n1_ n2_ n3_
                          (try clear hb)
                          (try clear hb2)
                          (try clear hk)
                          (try clear hi)
                          refine hK.out _ _ ⟨HS0_, HS1_⟩ (fun hHeld => ?_)
                          clear hK K
                          refine norm_ (a' := ?_) ?_ ?_
                          rotate_left
                          · show Act.put _ (some 81) _ = _
                            simp only [Act.put, List.setIfInBounds_toArray, List.set_cons_zero, List.set_cons_succ, i64_w, i32_w]
                            rfl
                          refine pure_ (i := 23) (N := some 82) (v := ?_) (a' := ?_) #[true, true, true, true, true, true, true, true, true, true, true, true, true, true, true, true, true, true, true, true, true, true, true, true, false, false] rfl rfl (any_of HT_.out (by kernel_rfl)) (fun _ _ _ h => h) (Or.inl ⟨by rfl, ?_⟩) ?_ ?_
                          rotate_left
                          · intro w'
                            go_simp
                            with_reducible rfl
                          rotate_left
                          · simp only [Act.put, List.setIfInBounds_toArray, List.set_cons_zero, List.set_cons_succ, i64_w, i32_w]
                            rfl
                          refine pure_ (i := 24) (N := some 83) (v := ?_) (a' := ?_) #[true, true, true, true, true, true, true, true, true, true, true, true, true, true, true, true, true, true, true, true, true, true, true, true, true, false] rfl rfl (any_of HT_.out (by kernel_rfl)) (fun _ _ _ h => h) (Or.inl ⟨by rfl, ?_⟩) ?_ ?_
                          rotate_left
                          · intro w'
                            go_simp
                            with_reducible rfl
                          rotate_left
                          · simp only [Act.put, List.setIfInBounds_toArray, List.set_cons_zero, List.set_cons_succ, i64_w, i32_w]
                            rfl
                          refine pure_ (i := 25) (N := some 6) (v := ?_) (a' := ?_) #[true, true, true, true, true, true, true, true, true, true, true, true, true, true, true, true, true, true, true, true, true, true, true, true, true, true] rfl rfl (any_of HT_.out (by kernel_rfl)) (fun _ _ _ h => h) (Or.inl ⟨by rfl, ?_⟩) ?_ ?_
                          rotate_left
                          · intro w'
                            go_simp
                            with_reducible rfl
                          rotate_left
                          · simp only [Act.put, List.setIfInBounds_toArray, List.set_cons_zero, List.set_cons_succ, i64_w, i32_w]
                            rfl
                          refine done_ (done_of HT_.out (by kernel_rfl)) ?_
                          try go_wp2
                          go_ret
                          exact ⟨by first | rfl | (simp [errW_none, errW_some] <;> rfl) | (simp [*, errW_none, errW_some] <;> rfl) | (simp [q_ne_nil]; done), by repeat (first | (with_reducible first | exact HB.out | apply below_alloc | apply pw_below_drewN | apply below_drew1) | exact HB.out)⟩
                        · exact absurd H (by rw [if_neg c21]; simp)
                      · exact absurd H (by rw [if_neg c20]; simp)
                    · exact absurd H (by rw [if_neg c19]; simp)
                  · exact absurd H (by rw [if_neg c18]; simp)
                · exact absurd H (by rw [if_neg c17]; simp)
              · exact absurd H (by rw [if_neg c16]; simp)
            · exact absurd H (by rw [if_neg c15]; simp)
          · exact absurd H (by rw [if_neg c14]; simp)
        · exact absurd H (by rw [if_neg c12]; simp)

end Go.Proofs.YtebkibohejjkcaaDoor.Q
