-- Laid by this seat's own driver (wip/tools/drive.py) out of the translation.
import Derived.Test.YtebkibohejjkcaaDoorQx0
import Derived.Test.YtebkibohejjkcaaDoorQx1
import Derived.Test.YtebkibohejjkcaaDoorQx2
import Derived.Test.YtebkibohejjkcaaDoorQx3
import Derived.Test.YtebkibohejjkcaaDoorQx5
namespace Go.Proofs.YtebkibohejjkcaaDoor.Q
open Go.RowKit Go.Proofs.YtebkibohejjkcaaDoorW.PrintWords Go.Proofs.YtebkibohejjkcaaDoorW.PrintLast Go.Proofs.YtebkibohejjkcaaDoorW.PrintMore
attribute [local go_sem] max2_int min2_int max_two min_two max_three min_three max_four min_four   -- for this text's walks alone
set_option linter.unusedVariables false
set_option linter.unusedSimpArgs false

/-! ### glacislaw07_HeadersPlain: function 6 -/
mutual
def glacislaw07_HeadersPlain.j0 : Nat → List (S24) → ByteArray → Bool → Bool → Option (Bool)
  | 0, _, _, _, _ => none
  | k + 1, x0, x1, x5, x26 => if x26 = true then (some x5) else ((headers_Values.f x0 x1).bind fun t196 => ((headers_Parts.f x0 x1).bind fun t199 => (glacislaw07_HeadersPlain.l0 k x5 t196 t199 ([] : List ByteArray) false 0)))
def glacislaw07_HeadersPlain.l0 : Nat → Bool → List ByteArray → List ByteArray → List ByteArray → Bool → Int → Option (Bool)
  | 0, _, _, _, _, _, _ => none
  | k + 1, x5, x7, x8, x9, x10, x11 => if x11 < (x7.length : Int) then (if 0 ≤ x11 then ((glacisref01_In.f k 34 (rdOf ByteArray.empty x7 x11)).bind fun t203 => (if x10 = true then (glacislaw07_HeadersPlain.j2 k x5 x7 x8 x9 true x11) else (glacislaw07_HeadersPlain.j2 k x5 x7 x8 x9 t203 x11))) else (none)) else (glacislaw07_HeadersPlain.l2 k x5 x7 x8 x9 x10 0)
def glacislaw07_HeadersPlain.j2 : Nat → Bool → List ByteArray → List ByteArray → List ByteArray → Bool → Int → Option (Bool)
  | 0, _, _, _, _, _, _ => none
  | k + 1, x5, x7, x8, x9, x10, x11 => if 0 ≤ x11 then (if x11 < (x7.length : Int) then ((octet_Split.f (rdOf ByteArray.empty x7 x11) 44).bind fun t205 => (glacislaw07_HeadersPlain.l1 k x5 x7 x8 x9 x10 x11 t205 0)) else (none)) else (none)
def glacislaw07_HeadersPlain.l1 : Nat → Bool → List ByteArray → List ByteArray → List ByteArray → Bool → Int → List ByteArray → Int → Option (Bool)
  | 0, _, _, _, _, _, _, _, _ => none
  | k + 1, x5, x7, x8, x9, x10, x11, x13, x14 => if x14 < (x13.length : Int) then (if 0 ≤ x14 then ((octet_Trim.f (rdOf ByteArray.empty x13 x14)).bind fun t209 => (if x9.length < 8796093022208 then (glacislaw07_HeadersPlain.l1 k x5 x7 x8 (x9 ++ [t209]) x10 x11 x13 (wrap64 (x14 + 1))) else (none))) else (none)) else (glacislaw07_HeadersPlain.l0 k x5 x7 x8 x9 x10 (wrap64 (x11 + 1)))
def glacislaw07_HeadersPlain.l2 : Nat → Bool → List ByteArray → List ByteArray → List ByteArray → Bool → Int → Option (Bool)
  | 0, _, _, _, _, _, _ => none
  | k + 1, x5, x7, x8, x9, x10, x15 => if x15 < (x8.length : Int) then (if 0 ≤ x15 then ((octet_Trim.f (rdOf ByteArray.empty x8 x15)).bind fun t214 => (if t214.toList = (rdOf ByteArray.empty x8 x15).toList then (glacislaw07_HeadersPlain.l2 k x5 x7 x8 x9 x10 (wrap64 (x15 + 1))) else (some false))) else (none)) else ((glacisref01_Texts.f k x8 x9).bind fun t216 => (if x5 = true then (if (x8.length : Int) ≥ (x7.length : Int) then (if (x8.length : Int) ≤ (x9.length : Int) then (if x10 = true then (some true) else (some t216)) else (some false)) else (some false)) else (some false)))
end
def glacislaw07_HeadersPlain.f (k : Nat) (l0 : List (S24)) (a1 : ByteArray) : Option (Bool) := (glacislaw07_awake.f k).bind fun t194 => ((glacislaw07_few.f k l0).bind fun t195 => (if t195 = true then (glacislaw07_HeadersPlain.j0 k l0 a1 t194 (decide ((a1.size : Int) > 1000))) else (glacislaw07_HeadersPlain.j0 k l0 a1 t194 true)))
theorem glacislaw07_HeadersPlain.mono_l : ∀ k, (∀ y0 y1 y2 y3, LeO (glacislaw07_HeadersPlain.j0 k y0 y1 y2 y3) (glacislaw07_HeadersPlain.j0 (k + 1) y0 y1 y2 y3)) ∧ (∀ y0 y1 y2 y3 y4 y5, LeO (glacislaw07_HeadersPlain.l0 k y0 y1 y2 y3 y4 y5) (glacislaw07_HeadersPlain.l0 (k + 1) y0 y1 y2 y3 y4 y5)) ∧ (∀ y0 y1 y2 y3 y4 y5, LeO (glacislaw07_HeadersPlain.j2 k y0 y1 y2 y3 y4 y5) (glacislaw07_HeadersPlain.j2 (k + 1) y0 y1 y2 y3 y4 y5)) ∧ (∀ y0 y1 y2 y3 y4 y5 y6 y7, LeO (glacislaw07_HeadersPlain.l1 k y0 y1 y2 y3 y4 y5 y6 y7) (glacislaw07_HeadersPlain.l1 (k + 1) y0 y1 y2 y3 y4 y5 y6 y7)) ∧ (∀ y0 y1 y2 y3 y4 y5, LeO (glacislaw07_HeadersPlain.l2 k y0 y1 y2 y3 y4 y5) (glacislaw07_HeadersPlain.l2 (k + 1) y0 y1 y2 y3 y4 y5))
  | 0 => ⟨fun _ _ _ _ r h => by simp [glacislaw07_HeadersPlain.j0] at h, fun _ _ _ _ _ _ r h => by simp [glacislaw07_HeadersPlain.l0] at h, fun _ _ _ _ _ _ r h => by simp [glacislaw07_HeadersPlain.j2] at h, fun _ _ _ _ _ _ _ _ r h => by simp [glacislaw07_HeadersPlain.l1] at h, fun _ _ _ _ _ _ r h => by simp [glacislaw07_HeadersPlain.l2] at h⟩
  | k + 1 => by
    obtain ⟨ih0, ih1, ih2, ih3, ih4⟩ := glacislaw07_HeadersPlain.mono_l k
    refine ⟨?_, ?_, ?_, ?_, ?_⟩
    · intro y0 y1 y2 y3
      unfold glacislaw07_HeadersPlain.j0
      repeat' first
      | (with_reducible exact ih0 _ _ _ _)
      | (with_reducible exact ih1 _ _ _ _ _ _)
      | (with_reducible exact ih2 _ _ _ _ _ _)
      | (with_reducible exact ih3 _ _ _ _ _ _ _ _)
      | (with_reducible exact ih4 _ _ _ _ _ _)
      | (with_reducible exact glacislaw07_awake.mono _)
      | (with_reducible exact glacislaw07_few.mono _ _)
      | (with_reducible exact glacisref01_In.mono _ _ _)
      | (with_reducible exact glacisref01_Texts.mono _ _ _)
      | (with_reducible exact LeO.refl _)
      | (with_reducible exact LeO.none _)
      | (with_reducible refine LeO.ite ?_ ?_)
      | (with_reducible refine LeO.bind ?_ (fun _ => ?_))
      | exact ih0 _ _ _ _
      | exact ih1 _ _ _ _ _ _
      | exact ih2 _ _ _ _ _ _
      | exact ih3 _ _ _ _ _ _ _ _
      | exact ih4 _ _ _ _ _ _
      | exact glacislaw07_awake.mono _
      | exact glacislaw07_few.mono _ _
      | exact glacisref01_In.mono _ _ _
      | exact glacisref01_Texts.mono _ _ _
      | exact LeO.none _
      | refine LeO.ite ?_ ?_
      | refine LeO.bind ?_ (fun _ => ?_)
    · intro y0 y1 y2 y3 y4 y5
      unfold glacislaw07_HeadersPlain.l0
      repeat' first
      | (with_reducible exact ih0 _ _ _ _)
      | (with_reducible exact ih1 _ _ _ _ _ _)
      | (with_reducible exact ih2 _ _ _ _ _ _)
      | (with_reducible exact ih3 _ _ _ _ _ _ _ _)
      | (with_reducible exact ih4 _ _ _ _ _ _)
      | (with_reducible exact glacislaw07_awake.mono _)
      | (with_reducible exact glacislaw07_few.mono _ _)
      | (with_reducible exact glacisref01_In.mono _ _ _)
      | (with_reducible exact glacisref01_Texts.mono _ _ _)
      | (with_reducible exact LeO.refl _)
      | (with_reducible exact LeO.none _)
      | (with_reducible refine LeO.ite ?_ ?_)
      | (with_reducible refine LeO.bind ?_ (fun _ => ?_))
      | exact ih0 _ _ _ _
      | exact ih1 _ _ _ _ _ _
      | exact ih2 _ _ _ _ _ _
      | exact ih3 _ _ _ _ _ _ _ _
      | exact ih4 _ _ _ _ _ _
      | exact glacislaw07_awake.mono _
      | exact glacislaw07_few.mono _ _
      | exact glacisref01_In.mono _ _ _
      | exact glacisref01_Texts.mono _ _ _
      | exact LeO.none _
      | refine LeO.ite ?_ ?_
      | refine LeO.bind ?_ (fun _ => ?_)
    · intro y0 y1 y2 y3 y4 y5
      unfold glacislaw07_HeadersPlain.j2
      repeat' first
      | (with_reducible exact ih0 _ _ _ _)
      | (with_reducible exact ih1 _ _ _ _ _ _)
      | (with_reducible exact ih2 _ _ _ _ _ _)
      | (with_reducible exact ih3 _ _ _ _ _ _ _ _)
      | (with_reducible exact ih4 _ _ _ _ _ _)
      | (with_reducible exact glacislaw07_awake.mono _)
      | (with_reducible exact glacislaw07_few.mono _ _)
      | (with_reducible exact glacisref01_In.mono _ _ _)
      | (with_reducible exact glacisref01_Texts.mono _ _ _)
      | (with_reducible exact LeO.refl _)
      | (with_reducible exact LeO.none _)
      | (with_reducible refine LeO.ite ?_ ?_)
      | (with_reducible refine LeO.bind ?_ (fun _ => ?_))
      | exact ih0 _ _ _ _
      | exact ih1 _ _ _ _ _ _
      | exact ih2 _ _ _ _ _ _
      | exact ih3 _ _ _ _ _ _ _ _
      | exact ih4 _ _ _ _ _ _
      | exact glacislaw07_awake.mono _
      | exact glacislaw07_few.mono _ _
      | exact glacisref01_In.mono _ _ _
      | exact glacisref01_Texts.mono _ _ _
      | exact LeO.none _
      | refine LeO.ite ?_ ?_
      | refine LeO.bind ?_ (fun _ => ?_)
    · intro y0 y1 y2 y3 y4 y5 y6 y7
      unfold glacislaw07_HeadersPlain.l1
      repeat' first
      | (with_reducible exact ih0 _ _ _ _)
      | (with_reducible exact ih1 _ _ _ _ _ _)
      | (with_reducible exact ih2 _ _ _ _ _ _)
      | (with_reducible exact ih3 _ _ _ _ _ _ _ _)
      | (with_reducible exact ih4 _ _ _ _ _ _)
      | (with_reducible exact glacislaw07_awake.mono _)
      | (with_reducible exact glacislaw07_few.mono _ _)
      | (with_reducible exact glacisref01_In.mono _ _ _)
      | (with_reducible exact glacisref01_Texts.mono _ _ _)
      | (with_reducible exact LeO.refl _)
      | (with_reducible exact LeO.none _)
      | (with_reducible refine LeO.ite ?_ ?_)
      | (with_reducible refine LeO.bind ?_ (fun _ => ?_))
      | exact ih0 _ _ _ _
      | exact ih1 _ _ _ _ _ _
      | exact ih2 _ _ _ _ _ _
      | exact ih3 _ _ _ _ _ _ _ _
      | exact ih4 _ _ _ _ _ _
      | exact glacislaw07_awake.mono _
      | exact glacislaw07_few.mono _ _
      | exact glacisref01_In.mono _ _ _
      | exact glacisref01_Texts.mono _ _ _
      | exact LeO.none _
      | refine LeO.ite ?_ ?_
      | refine LeO.bind ?_ (fun _ => ?_)
    · intro y0 y1 y2 y3 y4 y5
      unfold glacislaw07_HeadersPlain.l2
      repeat' first
      | (with_reducible exact ih0 _ _ _ _)
      | (with_reducible exact ih1 _ _ _ _ _ _)
      | (with_reducible exact ih2 _ _ _ _ _ _)
      | (with_reducible exact ih3 _ _ _ _ _ _ _ _)
      | (with_reducible exact ih4 _ _ _ _ _ _)
      | (with_reducible exact glacislaw07_awake.mono _)
      | (with_reducible exact glacislaw07_few.mono _ _)
      | (with_reducible exact glacisref01_In.mono _ _ _)
      | (with_reducible exact glacisref01_Texts.mono _ _ _)
      | (with_reducible exact LeO.refl _)
      | (with_reducible exact LeO.none _)
      | (with_reducible refine LeO.ite ?_ ?_)
      | (with_reducible refine LeO.bind ?_ (fun _ => ?_))
      | exact ih0 _ _ _ _
      | exact ih1 _ _ _ _ _ _
      | exact ih2 _ _ _ _ _ _
      | exact ih3 _ _ _ _ _ _ _ _
      | exact ih4 _ _ _ _ _ _
      | exact glacislaw07_awake.mono _
      | exact glacislaw07_few.mono _ _
      | exact glacisref01_In.mono _ _ _
      | exact glacisref01_Texts.mono _ _ _
      | exact LeO.none _
      | refine LeO.ite ?_ ?_
      | refine LeO.bind ?_ (fun _ => ?_)
theorem glacislaw07_HeadersPlain.mono : ∀ a0 a1 k, LeO (glacislaw07_HeadersPlain.f k a0 a1) (glacislaw07_HeadersPlain.f (k + 1) a0 a1) := by
  intro a0 a1 k
  obtain ⟨ih0, ih1, ih2, ih3, ih4⟩ := glacislaw07_HeadersPlain.mono_l k
  unfold glacislaw07_HeadersPlain.f
  repeat' first
      | (with_reducible exact ih0 _ _ _ _)
      | (with_reducible exact ih1 _ _ _ _ _ _)
      | (with_reducible exact ih2 _ _ _ _ _ _)
      | (with_reducible exact ih3 _ _ _ _ _ _ _ _)
      | (with_reducible exact ih4 _ _ _ _ _ _)
      | (with_reducible exact glacislaw07_awake.mono _)
      | (with_reducible exact glacislaw07_few.mono _ _)
      | (with_reducible exact glacisref01_In.mono _ _ _)
      | (with_reducible exact glacisref01_Texts.mono _ _ _)
      | (with_reducible exact LeO.refl _)
      | (with_reducible exact LeO.none _)
      | (with_reducible refine LeO.ite ?_ ?_)
      | (with_reducible refine LeO.bind ?_ (fun _ => ?_))
      | exact ih0 _ _ _ _
      | exact ih1 _ _ _ _ _ _
      | exact ih2 _ _ _ _ _ _
      | exact ih3 _ _ _ _ _ _ _ _
      | exact ih4 _ _ _ _ _ _
      | exact glacislaw07_awake.mono _
      | exact glacislaw07_few.mono _ _
      | exact glacisref01_In.mono _ _ _
      | exact glacisref01_Texts.mono _ _ _
      | exact LeO.none _
      | refine LeO.ite ?_ ?_
      | refine LeO.bind ?_ (fun _ => ?_)
def glacislaw07_HeadersPlain.T22 : Bool × List (List Nat × List Nat) := (true, [([], []), ([], []), ([0, 1], [0, 1]), ([2], [2]), ([3], [3]), ([], []), ([], []), ([5, 6], [5, 6]), ([7], [7]), ([4, 8], [4, 8])])
def glacislaw07_HeadersPlain.B22 : List Nat := [0, 0, 3, 7, 15, 0, 0, 96, 224, 511]
theorem glacislaw07_HeadersPlain.tab22 : rtab .any (opsOf Tryd.f6 22) = glacislaw07_HeadersPlain.T22 := by kernel_rfl
theorem glacislaw07_HeadersPlain.bits22 : waitsOk glacislaw07_HeadersPlain.T22.2 glacislaw07_HeadersPlain.B22 = true := by kernel_rfl
set_option maxHeartbeats 8000000 in
set_option maxRecDepth 100000 in
theorem glacislaw07_HeadersPlain.calls (k : Nat) (A0 : Option Addr) (c0 : Nat) (l0 : List (S24)) (a1 : ByteArray) (r : Bool) (w : World) (hr0 : Kd.C k24 w A0 l0.length l0) (hc0 : l0.length ≤ c0) (h : glacislaw07_HeadersPlain.f k l0 a1 = some r) :
    Calls Tryd.prog 6 #[.slice A0 l0.length c0, .string a1] w fun e w' => e = .returned (.bool r) ∧ Below w.heap.size w w' := by
  have HR0 := Aside0.mk hr0
  have HC0 := Aside0.mk hc0
  clear hr0 hc0
  have HB := Aside0.mk (Below.refl w.heap.size w)
  have H : ((glacislaw07_awake.f k).bind fun t194 => ((glacislaw07_few.f k l0).bind fun t195 => (if t195 = true then (glacislaw07_HeadersPlain.j0 k l0 a1 t194 (decide ((a1.size : Int) > 1000))) else (glacislaw07_HeadersPlain.j0 k l0 a1 t194 true)))) = some r := h
  clear h
  replace H := Option.bind_eq_some_iff.mp H
  obtain ⟨t194, A30, H⟩ := H
  replace H : ((glacislaw07_few.f k l0).bind fun t195 => (if t195 = true then (glacislaw07_HeadersPlain.j0 k l0 a1 t194 (decide ((a1.size : Int) > 1000))) else (glacislaw07_HeadersPlain.j0 k l0 a1 t194 true))) = some r := H
  have A3 := Aside0.mk A30
  clear A30
  replace H := Option.bind_eq_some_iff.mp H
  obtain ⟨t195, A40, H⟩ := H
  replace H : (if t195 = true then (glacislaw07_HeadersPlain.j0 k l0 a1 t194 (decide ((a1.size : Int) > 1000))) else (glacislaw07_HeadersPlain.j0 k l0 a1 t194 true)) = some r := H
  have A4 := Aside0.mk A40
  clear A40
  have HC5 := Aside0.mk H
  clear H
  go_enter Tryd.func6, Tryd.ntmps6
  go_upto_region 3 with (first | ((with_reducible refine gate_callee (f := 7) rfl ?_); refine goesL_ (some 17) rfl rfl Tryd.func7 (by kernel_rfl) rfl #[] rfl (by (try simp only [List.map_toArray, List.map_cons, List.map_nil]); first | done | rfl | (simp only [List.length_drop, List.length_take]; rfl)) ?_; (with_reducible refine (glacislaw07_awake.calls k  t194 _ A3.out).mono ?_); rintro e w6 ⟨rfl, hb⟩; refine ⟨_, rfl, ?_⟩; have n0_ := Aside0.mk (below_step (by repeat (first | (with_reducible first | exact HB.out | apply below_alloc | apply pw_below_drewN | apply below_drew1) | exact HB.out)) hb); clear HB; have HB := n0_; clear n0_; (try clear hb); (try clear hb2); (try clear hk); (try clear hi)) | ((with_reducible refine gate_callee (f := 11) rfl ?_); refine goesL_ (some 19) rfl rfl Tryd.func11 (by kernel_rfl) rfl #[.slice A0 l0.length c0] rfl (by (try simp only [List.map_toArray, List.map_cons, List.map_nil]); first | done | rfl | (simp only [List.length_drop, List.length_take]; rfl)) ?_; (with_reducible refine (glacislaw07_few.calls k _ _ l0 t195 _ ?side1 ?side2 A4.out).mono ?_); (case side1 => repeat (first | exact (Kd.C_below HR0.out HB.out) | (with_reducible refine Kd.C_alloc ?_ _) | (with_reducible refine Kd.C_drewN ?_ _) | (with_reducible refine Kd.C_drew ?_))); (case side2 => exact HC0.out); rintro e w' ⟨rfl, ⟨nd, rfl⟩⟩; refine ⟨_, rfl, ?_⟩))
  (try simp only [Act.put, List.setIfInBounds_toArray, List.set_cons_zero, List.set_cons_succ])
  go_cut [26] (fun v26 wc => ∃ (kq : Nat) (x26_4 : Bool), v26 = .bool x26_4 ∧ Aside0 (glacislaw07_HeadersPlain.j0 kq l0 a1 t194 x26_4 = some r) ∧ Aside0 (kq ≤ k) ∧ Aside0 (Below w.heap.size w wc))
  case first =>
    have H := HC5.out
    clear HC5
    by_cases c7 : t195 = true
    · subst c7
      have H1 : (glacislaw07_HeadersPlain.j0 k l0 a1 t194 (decide ((a1.size : Int) > 1000))) = some r := by rw [if_pos rfl] at H; exact H
      clear H
      have H := H1
      clear H1
      have H' := Aside0.mk H
      clear H
      go_wp2
      go_meet
      case rel => exact ⟨_, (decide ((a1.size : Int) > 1000)), (by first | rfl | (simp; done) | (simp [*]; done) | (simp [q_ne_nil]; done)), H', ⟨by first | omega | exact Nat.le_refl _⟩, ⟨by repeat (first | (with_reducible first | exact HB.out | apply below_alloc | apply pw_below_drewN | apply below_drew1) | exact HB.out)⟩⟩
    · replace c7 := Bool.eq_false_iff.mpr c7
      subst c7
      have H1 : (glacislaw07_HeadersPlain.j0 k l0 a1 t194 true) = some r := by rw [if_neg (show ¬ (false = true) by decide)] at H; exact H
      clear H
      have H := H1
      clear H1
      have H' := Aside0.mk H
      clear H
      go_wp2
      go_meet
      case rel => exact ⟨_, (true), (by first | rfl | (simp; done) | (simp [*]; done) | (simp [q_ne_nil]; done)), H', ⟨by first | omega | exact Nat.le_refl _⟩, ⟨by repeat (first | (with_reducible first | exact HB.out | apply below_alloc | apply pw_below_drewN | apply below_drew1) | exact HB.out)⟩⟩
  case rest =>
    clear HC5
    try clear c1
    try clear p2
    try clear c6
    try clear c7
    obtain ⟨kq, x26_4, rfl, HA, HJ4, HB⟩ := hcut
    cases kq with
    | zero => exact absurd HA.out (by simp [glacislaw07_HeadersPlain.j0])
    | succ kj4 =>
      have H := HA.out
      clear HA
      simp only [glacislaw07_HeadersPlain.j0] at H
      by_cases c8 : x26_4 = true
      · subst c8
        have H1 : (some t194) = some r := by rw [if_pos rfl] at H; exact H
        clear H
        have H := H1
        clear H1
        obtain rfl := Option.some.inj H
        go_wp2
        go_ret
        exact ⟨by first | rfl | (simp [errW_none, errW_some] <;> rfl) | (simp [*, errW_none, errW_some] <;> rfl) | (simp [q_ne_nil]; done), by repeat (first | (with_reducible first | exact HB.out | apply below_alloc | apply pw_below_drewN | apply below_drew1) | exact HB.out)⟩
      · replace c8 := Bool.eq_false_iff.mpr c8
        subst c8
        have H1 : ((headers_Values.f l0 a1).bind fun t196 => ((headers_Parts.f l0 a1).bind fun t199 => (glacislaw07_HeadersPlain.l0 kj4 t194 t196 t199 ([] : List ByteArray) false 0))) = some r := by rw [if_neg (show ¬ (false = true) by decide)] at H; exact H
        clear H
        have H := H1
        clear H1
        replace H := Option.bind_eq_some_iff.mp H
        obtain ⟨t196, A90, H⟩ := H
        replace H : ((headers_Parts.f l0 a1).bind fun t199 => (glacislaw07_HeadersPlain.l0 kj4 t194 t196 t199 ([] : List ByteArray) false 0)) = some r := H
        have A9 := Aside0.mk A90
        clear A90
        replace H := Option.bind_eq_some_iff.mp H
        obtain ⟨t199, A100, H⟩ := H
        replace H : (glacislaw07_HeadersPlain.l0 kj4 t194 t196 t199 ([] : List ByteArray) false 0) = some r := H
        have A10 := Aside0.mk A100
        clear A100
        have H' := Aside0.mk H
        clear H
        go_wp2_with (first | ((with_reducible refine gate_callee (f := 9) rfl ?_); refine goesL_ (some 30) rfl rfl Tryd.func9 (by kernel_rfl) rfl #[.slice A0 l0.length c0, .string a1] rfl (by (try simp only [List.map_toArray, List.map_cons, List.map_nil]); first | done | rfl | (simp only [List.length_drop, List.length_take]; rfl)) ?_; (with_reducible refine (headers_Values.calls _ _ l0 a1 t196 _ ?side1 ?side2 A9.out).mono ?_); (case side1 => repeat (first | exact (Kd.C_below HR0.out HB.out) | (with_reducible refine Kd.C_alloc ?_ _) | (with_reducible refine Kd.C_drewN ?_ _) | (with_reducible refine Kd.C_drew ?_))); (case side2 => exact HC0.out); rintro e w11 ⟨v197, rfl, ho0, hb⟩; refine ⟨_, rfl, ?_⟩; have n0_ := Aside0.mk (Kd.R_lower ho0 (below_size (by repeat (first | (with_reducible first | exact HB.out | apply below_alloc | apply pw_below_drewN | apply below_drew1) | exact HB.out)))); have n1_ := Aside0.mk (below_step (by repeat (first | (with_reducible first | exact HB.out | apply below_alloc | apply pw_below_drewN | apply below_drew1) | exact HB.out)) hb); clear HB; have HO198 := n0_; have HB := n1_; clear n0_ n1_; (try clear hb); (try clear hb2); (try clear hk); (try clear hi); (try clear ho0)) | ((with_reducible refine gate_callee (f := 14) rfl ?_); refine goesL_ (some 33) rfl rfl Tryd.func14 (by kernel_rfl) rfl #[.slice A0 l0.length c0, .string a1] rfl (by (try simp only [List.map_toArray, List.map_cons, List.map_nil]); first | done | rfl | (simp only [List.length_drop, List.length_take]; rfl)) ?_; (with_reducible refine (headers_Parts.calls _ _ l0 a1 t199 _ ?side1 ?side2 A10.out).mono ?_); (case side1 => repeat (first | exact (Kd.C_below HR0.out HB.out) | (with_reducible refine Kd.C_alloc ?_ _) | (with_reducible refine Kd.C_drewN ?_ _) | (with_reducible refine Kd.C_drew ?_))); (case side2 => exact HC0.out); rintro e w12 ⟨v200, rfl, ho0, hb⟩; refine ⟨_, rfl, ?_⟩; have n0_ := Aside0.mk (Kd.R_elder' (by (with_reducible repeat (first | apply Kd.R_alloc | apply Kd.R_drewN | apply Kd.R_drew)); exact HO198.out) (Kd.R_base ho0) hb); have n1_ := Aside0.mk (Kd.R_lower (Kd.R_new' ho0 (Kd.R_lt (by (with_reducible repeat (first | apply Kd.R_alloc | apply Kd.R_drewN | apply Kd.R_drew)); exact HO198.out))) (below_size (by repeat (first | (with_reducible first | exact HB.out | apply below_alloc | apply pw_below_drewN | apply below_drew1) | exact HB.out)))); have n2_ := Aside0.mk (below_step (by repeat (first | (with_reducible first | exact HB.out | apply below_alloc | apply pw_below_drewN | apply below_drew1) | exact HB.out)) hb); clear HO198; clear HB; have HO198 := n0_; have HO201 := n1_; have HB := n2_; clear n0_ n1_ n2_; (try clear hb); (try clear hb2); (try clear hk); (try clear hi); (try clear ho0)))
        go_loopg [9, 10, 11] kj4 (fun kq v9 v10 v11 w' => ∃ (x9_2 : List ByteArray) (x10_2 : Bool) (x11_2 : Int), v10 = .bool x10_2 ∧ v11 = .int .i64 x11_2 ∧ Aside0 (glacislaw07_HeadersPlain.l0 kq t194 t196 t199 x9_2 x10_2 x11_2 = some r) ∧ Aside0 (kq ≤ kj4) ∧ Aside0 (Kd.R Kd.string 9 w' w.heap.size (fun k_ => some k_ ≠ (v200 : Value).ownBlock ∧ some k_ ≠ (v9 : Value).ownBlock) v197 t196) ∧ Aside0 (Kd.R Kd.string 9 w' w.heap.size (fun k_ => some k_ ≠ (v197 : Value).ownBlock ∧ some k_ ≠ (v9 : Value).ownBlock) v200 t199) ∧ Aside0 (Kd.R Kd.string 9 w' w.heap.size (fun k_ => some k_ ≠ (v197 : Value).ownBlock ∧ some k_ ≠ (v200 : Value).ownBlock) v9 x9_2) ∧ Aside0 (Below w.heap.size w w'))
        case atStart => exact ⟨(([] : List ByteArray)), (false), (0), (by first | rfl | (simp; done) | (simp [*]; done) | (simp [q_ne_nil]; done)), (by first | rfl | (simp; done) | (simp [*]; done) | (simp [q_ne_nil]; done)), H', ⟨Nat.le_refl _⟩, ⟨by (with_reducible repeat (first | apply Kd.R_alloc | apply Kd.R_drewN | apply Kd.R_drew)); exact Kd.R_mono HO198.out (fun _ hk => ⟨hk.2, (by simp [Value.ownBlock])⟩)⟩, ⟨by (with_reducible repeat (first | apply Kd.R_alloc | apply Kd.R_drewN | apply Kd.R_drew)); exact Kd.R_mono HO201.out (fun _ hk => ⟨hk.2, (by simp [Value.ownBlock])⟩)⟩, ⟨by first | exact Kd.R_nil _ _ _ _ _ | exact Kd.N_nil _ _ _ _ _ | exact Kd.V_nil _ _ _ _ _ | exact Kd.Q_nil _ _ _ _ _ | exact Kd.S_nil _ _ _ _ _⟩, ⟨by repeat (first | (with_reducible first | exact HB.out | apply below_alloc | apply pw_below_drewN | apply below_drew1) | exact HB.out)⟩⟩
        case round =>
          clear H'
          try clear c1
          try clear p2
          try clear c6
          try clear c7
          try clear c8
          try clear c9
          try clear c11
          try clear p2
          obtain ⟨x9_2, x10_2, x11_2, rfl, rfl, HA, HK2, HO_7, HO_8, HO_9, HB⟩ := hrel
          cases gk with
          | zero => exact absurd HA.out (by simp [glacislaw07_HeadersPlain.l0])
          | succ k2 =>
            have H := HA.out
            clear HA
            simp only [glacislaw07_HeadersPlain.l0] at H
            by_cases c13 : x11_2 < (t196.length : Int)
            · rw [if_pos c13] at H
              have c13b0 : decide (x11_2 < (t196.length : Int)) = true := decide_eq_true c13
              clear c13
              by_cases c14 : 0 ≤ x11_2
              · rw [if_pos c14] at H
                have c14b0 : decide (0 ≤ x11_2) = true := decide_eq_true c14
                clear c14
                replace H := Option.bind_eq_some_iff.mp H
                obtain ⟨t203, A150, H⟩ := H
                replace H : (if x10_2 = true then (glacislaw07_HeadersPlain.j2 k2 t194 t196 t199 x9_2 true x11_2) else (glacislaw07_HeadersPlain.j2 k2 t194 t196 t199 x9_2 t203 x11_2)) = some r := H
                have A15 := Aside0.mk A150
                clear A150
                have HC16 := Aside0.mk H
                clear H
                obtain ⟨Ao17, co17, eo17⟩ := Kd.R_slice HO_7.out
                subst eo17
                have p202 : 0 ≤ (x11_2 : Int) := of_decide_eq_true (by first | (with_reducible assumption) | assumption)
                have q202 : x11_2 < (t196.length : Int) := of_decide_eq_true (by first | (with_reducible assumption) | assumption)
                obtain ⟨ad202, e202, hx202_0⟩ := Kd.at_string (Kd.R_reads' HO_7.out).2.2 x11_2 p202 q202
                cases e202
                replace p202 := eq_true p202
                replace q202 := eq_true q202
                go_upto_region 13 with (first | ((with_reducible refine gate_callee (f := 15) rfl ?_); refine goesL_ (some 44) rfl rfl Tryd.func15 (by kernel_rfl) rfl #[.int .u8 34, .string (rdOf ByteArray.empty t196 x11_2)] rfl (by (try simp only [List.map_toArray, List.map_cons, List.map_nil]); first | done | rfl | (simp only [List.length_drop, List.length_take]; rfl)) ?_; (with_reducible refine (glacisref01_In.calls k2 34 (rdOf ByteArray.empty t196 x11_2) t203 _ A15.out).mono ?_); rintro e w' ⟨rfl, ⟨nd, rfl⟩⟩; refine ⟨_, rfl, ?_⟩))
                (try simp only [Act.put, List.setIfInBounds_toArray, List.set_cons_zero, List.set_cons_succ])
                go_cut [10] (fun v10 wc => ∃ (kq : Nat) (x10_15 : Bool), v10 = .bool x10_15 ∧ Aside0 (glacislaw07_HeadersPlain.j2 kq t194 t196 t199 x9_2 x10_15 x11_2 = some r) ∧ Aside0 (kq ≤ k2) ∧ Aside0 (Kd.R Kd.string 9 wc w.heap.size (fun k_ => some k_ ≠ (v200 : Value).ownBlock ∧ some k_ ≠ (u9 : Value).ownBlock) (.slice (some ad202) t196.length co17) t196) ∧ Aside0 (Kd.R Kd.string 9 wc w.heap.size (fun k_ => some k_ ≠ ((.slice (some ad202) t196.length co17) : Value).ownBlock ∧ some k_ ≠ (u9 : Value).ownBlock) v200 t199) ∧ Aside0 (Kd.R Kd.string 9 wc w.heap.size (fun k_ => some k_ ≠ ((.slice (some ad202) t196.length co17) : Value).ownBlock ∧ some k_ ≠ (v200 : Value).ownBlock) u9 x9_2) ∧ Aside0 (Below w.heap.size w wc))
                case first =>
                  have H := HC16.out
                  clear HC16
                  by_cases c18 : x10_2 = true
                  · subst c18
                    have H1 : (glacislaw07_HeadersPlain.j2 k2 t194 t196 t199 x9_2 true x11_2) = some r := by rw [if_pos rfl] at H; exact H
                    clear H
                    have H := H1
                    clear H1
                    have H' := Aside0.mk H
                    clear H
                    go_wp2
                    go_meet
                    case rel => exact ⟨_, (true), (by first | rfl | (simp; done) | (simp [*]; done) | (simp [q_ne_nil]; done)), H', ⟨by have := HJ4.out; have := HK2.out; first | omega | exact Nat.le_refl _⟩, ⟨by (with_reducible repeat (first | apply Kd.R_alloc | apply Kd.R_drewN | apply Kd.R_drew)); exact HO_7.out⟩, ⟨by (with_reducible repeat (first | apply Kd.R_alloc | apply Kd.R_drewN | apply Kd.R_drew)); exact HO_8.out⟩, ⟨by (with_reducible repeat (first | apply Kd.R_alloc | apply Kd.R_drewN | apply Kd.R_drew)); exact HO_9.out⟩, ⟨by repeat (first | (with_reducible first | exact HB.out | apply below_alloc | apply pw_below_drewN | apply below_drew1) | exact HB.out)⟩⟩
                  · replace c18 := Bool.eq_false_iff.mpr c18
                    subst c18
                    have H1 : (glacislaw07_HeadersPlain.j2 k2 t194 t196 t199 x9_2 t203 x11_2) = some r := by rw [if_neg (show ¬ (false = true) by decide)] at H; exact H
                    clear H
                    have H := H1
                    clear H1
                    have H' := Aside0.mk H
                    clear H
                    go_wp2
                    go_meet
                    case rel => exact ⟨_, (t203), (by first | rfl | (simp; done) | (simp [*]; done) | (simp [q_ne_nil]; done)), H', ⟨by have := HJ4.out; have := HK2.out; first | omega | exact Nat.le_refl _⟩, ⟨by (with_reducible repeat (first | apply Kd.R_alloc | apply Kd.R_drewN | apply Kd.R_drew)); exact HO_7.out⟩, ⟨by (with_reducible repeat (first | apply Kd.R_alloc | apply Kd.R_drewN | apply Kd.R_drew)); exact HO_8.out⟩, ⟨by (with_reducible repeat (first | apply Kd.R_alloc | apply Kd.R_drewN | apply Kd.R_drew)); exact HO_9.out⟩, ⟨by repeat (first | (with_reducible first | exact HB.out | apply below_alloc | apply pw_below_drewN | apply below_drew1) | exact HB.out)⟩⟩
                case rest =>
                  clear HC16
                  try clear c1
                  try clear p2
                  try clear q2
                  try clear hx2
                  try clear c6
                  try clear c7
                  try clear c8
                  try clear c9
                  try clear c11
                  try clear c13
                  try clear c13b0
                  try clear c14
                  try clear c14b0
                  try clear c15
                  try clear c18
                  try clear hx202_0
                  try clear p2
                  try clear p202
                  try clear q202
                  obtain ⟨kq, x10_15, rfl, HA, HJ15, HO_7, HO_8, HO_9, HB⟩ := hcut
                  cases kq with
                  | zero => exact absurd HA.out (by simp [glacislaw07_HeadersPlain.j2])
                  | succ kj15 =>
                    have H := HA.out
                    clear HA
                    simp only [glacislaw07_HeadersPlain.j2] at H
                    by_cases c19 : 0 ≤ x11_2
                    · rw [if_pos c19] at H
                      have c19b0 : decide (0 ≤ x11_2) = true := decide_eq_true c19
                      clear c19
                      by_cases c20 : x11_2 < (t196.length : Int)
                      · rw [if_pos c20] at H
                        have c20b0 : decide (x11_2 < (t196.length : Int)) = true := decide_eq_true c20
                        clear c20
                        replace H := Option.bind_eq_some_iff.mp H
                        obtain ⟨t205, A210, H⟩ := H
                        replace H : (glacislaw07_HeadersPlain.l1 kj15 t194 t196 t199 x9_2 x10_15 x11_2 t205 0) = some r := H
                        have A21 := Aside0.mk A210
                        clear A210
                        have H' := Aside0.mk H
                        clear H
                        have p204 : 0 ≤ (x11_2 : Int) := of_decide_eq_true (by first | (with_reducible assumption) | assumption)
                        have q204 : x11_2 < (t196.length : Int) := of_decide_eq_true (by first | (with_reducible assumption) | assumption)
                        obtain ⟨ad204, e204, hx204_0⟩ := Kd.at_string (Kd.R_reads' HO_7.out).2.2 x11_2 p204 q204
                        obtain rfl : ad202 = ad204 := (by injection e204)
                        replace p204 := eq_true p204
                        replace q204 := eq_true q204
                        go_wp2_with (first | ((with_reducible refine gate_callee (f := 16) rfl ?_); refine goesL_ (some 53) rfl rfl Tryd.func16 (by kernel_rfl) rfl #[.string (rdOf ByteArray.empty t196 x11_2), .int .u8 44] rfl (by (try simp only [List.map_toArray, List.map_cons, List.map_nil]); first | done | rfl | (simp only [List.length_drop, List.length_take]; rfl)) ?_; (with_reducible refine (octet_Split.calls (rdOf ByteArray.empty t196 x11_2) 44 t205 _ A21.out).mono ?_); rintro e w22 ⟨v206, rfl, ho0, hb⟩; refine ⟨_, rfl, ?_⟩; have n0_ := Aside0.mk (Kd.R_elder' (by (with_reducible repeat (first | apply Kd.R_alloc | apply Kd.R_drewN | apply Kd.R_drew)); exact HO_7.out) (Kd.R_base ho0) hb); have n1_ := Aside0.mk (Kd.R_elder' (by (with_reducible repeat (first | apply Kd.R_alloc | apply Kd.R_drewN | apply Kd.R_drew)); exact HO_8.out) (Kd.R_base ho0) hb); have n2_ := Aside0.mk (Kd.R_elder' (by (with_reducible repeat (first | apply Kd.R_alloc | apply Kd.R_drewN | apply Kd.R_drew)); exact HO_9.out) (Kd.R_base ho0) hb); have n3_ := Aside0.mk (Kd.R_lower (Kd.R_new' (Kd.R_new' (Kd.R_new' ho0 (Kd.R_lt (by (with_reducible repeat (first | apply Kd.R_alloc | apply Kd.R_drewN | apply Kd.R_drew)); exact HO_7.out))) (Kd.R_lt (by (with_reducible repeat (first | apply Kd.R_alloc | apply Kd.R_drewN | apply Kd.R_drew)); exact HO_8.out))) (Kd.R_lt (by (with_reducible repeat (first | apply Kd.R_alloc | apply Kd.R_drewN | apply Kd.R_drew)); exact HO_9.out))) (below_size (by repeat (first | (with_reducible first | exact HB.out | apply below_alloc | apply pw_below_drewN | apply below_drew1) | exact HB.out)))); have n4_ := Aside0.mk (below_step (by repeat (first | (with_reducible first | exact HB.out | apply below_alloc | apply pw_below_drewN | apply below_drew1) | exact HB.out)) hb); clear HO_7; clear HO_8; clear HO_9; clear HB; have HO_7 := n0_; have HO_8 := n1_; have HO_9 := n2_; have HO207 := n3_; have HB := n4_; clear n0_ n1_ n2_ n3_ n4_; (try clear hb); (try clear hb2); (try clear hk); (try clear hi); (try clear ho0)))
                        go_loopg [9, 14] kj15 (fun kq v9 v14 w' => ∃ (x9_4 : List ByteArray) (x14_4 : Int), v14 = .int .i64 x14_4 ∧ Aside0 (glacislaw07_HeadersPlain.l1 kq t194 t196 t199 x9_4 x10_15 x11_2 t205 x14_4 = some r) ∧ Aside0 (kq ≤ kj15) ∧ Aside0 (Kd.R Kd.string 9 w' w.heap.size (fun k_ => some k_ ≠ (v200 : Value).ownBlock ∧ some k_ ≠ (v9 : Value).ownBlock ∧ some k_ ≠ (v206 : Value).ownBlock) (.slice (some ad202) t196.length co17) t196) ∧ Aside0 (Kd.R Kd.string 9 w' w.heap.size (fun k_ => some k_ ≠ ((.slice (some ad202) t196.length co17) : Value).ownBlock ∧ some k_ ≠ (v9 : Value).ownBlock ∧ some k_ ≠ (v206 : Value).ownBlock) v200 t199) ∧ Aside0 (Kd.R Kd.string 9 w' w.heap.size (fun k_ => some k_ ≠ ((.slice (some ad202) t196.length co17) : Value).ownBlock ∧ some k_ ≠ (v200 : Value).ownBlock ∧ some k_ ≠ (v206 : Value).ownBlock) v9 x9_4) ∧ Aside0 (Kd.R Kd.string 9 w' w.heap.size (fun k_ => some k_ ≠ ((.slice (some ad202) t196.length co17) : Value).ownBlock ∧ some k_ ≠ (v200 : Value).ownBlock ∧ some k_ ≠ (v9 : Value).ownBlock) v206 t205) ∧ Aside0 (Below w.heap.size w w'))
                        case atStart => exact ⟨(x9_2), (0), (by first | rfl | (simp; done) | (simp [*]; done) | (simp [q_ne_nil]; done)), H', ⟨Nat.le_refl _⟩, ⟨by (with_reducible repeat (first | apply Kd.R_alloc | apply Kd.R_drewN | apply Kd.R_drew)); exact Kd.R_mono HO_7.out (fun _ hk => ⟨hk.1.1, ⟨hk.1.2, hk.2⟩⟩)⟩, ⟨by (with_reducible repeat (first | apply Kd.R_alloc | apply Kd.R_drewN | apply Kd.R_drew)); exact Kd.R_mono HO_8.out (fun _ hk => ⟨hk.1.1, ⟨hk.1.2, hk.2⟩⟩)⟩, ⟨by (with_reducible repeat (first | apply Kd.R_alloc | apply Kd.R_drewN | apply Kd.R_drew)); exact Kd.R_mono HO_9.out (fun _ hk => ⟨hk.1.1, ⟨hk.1.2, hk.2⟩⟩)⟩, ⟨by (with_reducible repeat (first | apply Kd.R_alloc | apply Kd.R_drewN | apply Kd.R_drew)); exact Kd.R_mono HO207.out (fun _ hk => ⟨hk.1.1.2, ⟨hk.1.2, hk.2⟩⟩)⟩, ⟨by repeat (first | (with_reducible first | exact HB.out | apply below_alloc | apply pw_below_drewN | apply below_drew1) | exact HB.out)⟩⟩
                        case round =>
                          clear H'
                          try clear c1
                          try clear c2
                          try clear p2
                          try clear q2
                          try clear hx2
                          try clear c6
                          try clear c7
                          try clear c8
                          try clear c9
                          try clear c11
                          try clear c13
                          try clear c13b0
                          try clear c14
                          try clear c14b0
                          try clear c15
                          try clear c16
                          try clear c18
                          try clear c19
                          try clear c19b0
                          try clear c20
                          try clear c20b0
                          try clear p20
                          try clear q20
                          try clear hx20
                          try clear hx202_0
                          try clear hx204_0
                          try clear p2
                          try clear p202
                          try clear p204
                          try clear q2
                          try clear q202
                          try clear q204
                          obtain ⟨x9_4, x14_4, rfl, HA, HK4, HO_7, HO_8, HO_9, HO_13, HB⟩ := hrel
                          cases gk with
                          | zero => exact absurd HA.out (by simp [glacislaw07_HeadersPlain.l1])
                          | succ k4 =>
                            have H := HA.out
                            clear HA
                            simp only [glacislaw07_HeadersPlain.l1] at H
                            by_cases c23 : x14_4 < (t205.length : Int)
                            · rw [if_pos c23] at H
                              have c23b0 : decide (x14_4 < (t205.length : Int)) = true := decide_eq_true c23
                              clear c23
                              by_cases c24 : 0 ≤ x14_4
                              · rw [if_pos c24] at H
                                have c24b0 : decide (0 ≤ x14_4) = true := decide_eq_true c24
                                clear c24
                                replace H := Option.bind_eq_some_iff.mp H
                                obtain ⟨t209, A250, H⟩ := H
                                replace H : (if x9_4.length < 8796093022208 then (glacislaw07_HeadersPlain.l1 k4 t194 t196 t199 (x9_4 ++ [t209]) x10_15 x11_2 t205 (wrap64 (x14_4 + 1))) else (none)) = some r := H
                                have A25 := Aside0.mk A250
                                clear A250
                                by_cases c26 : x9_4.length < 8796093022208
                                · rw [if_pos c26] at H
                                  have LMc26 := Aside0.mk c26
                                  clear c26
                                  obtain ⟨y210, hy210⟩ : ∃ y_ : List ByteArray, y_ = (x9_4 ++ [t209]) := ⟨_, rfl⟩
                                  replace H : (glacislaw07_HeadersPlain.l1 k4 t194 t196 t199 y210 x10_15 x11_2 t205 (wrap64 (x14_4 + 1))) = some r := by first | (rw [hy210]; with_reducible exact H) | (have H2_ := (Option.bind_some _ _).symm.trans H; rw [hy210]; with_reducible exact H2_) | (have H2_ := (Option.bind_some _ _).symm.trans H; with_reducible exact H2_) | with_reducible exact H | (rw [hy210]; exact H) | exact H
                                  have Ny210 := Aside0.mk hy210
                                  clear hy210
                                  have H' := Aside0.mk H
                                  clear H
                                  obtain ⟨Ao27, co27, eo27⟩ := Kd.R_slice HO_13.out
                                  subst eo27
                                  have p208 : 0 ≤ (x14_4 : Int) := of_decide_eq_true (by first | (with_reducible assumption) | assumption)
                                  have q208 : x14_4 < (t205.length : Int) := of_decide_eq_true (by first | (with_reducible assumption) | assumption)
                                  obtain ⟨ad208, e208, hx208_0⟩ := Kd.at_string (Kd.R_reads' HO_13.out).2.2 x14_4 p208 q208
                                  cases e208
                                  replace p208 := eq_true p208
                                  replace q208 := eq_true q208
                                  go_wp2_with (first | ((with_reducible refine gate_callee (f := 10) rfl ?_); refine goesL_ (some 65) rfl rfl Tryd.func10 (by kernel_rfl) rfl #[.string (rdOf ByteArray.empty t205 x14_4)] rfl (by (try simp only [List.map_toArray, List.map_cons, List.map_nil]); first | done | rfl | (simp only [List.length_drop, List.length_take]; rfl)) ?_; (with_reducible refine (octet_Trim.calls (rdOf ByteArray.empty t205 x14_4) t209 _ A25.out).mono ?_); rintro e w28 ⟨rfl, hb⟩; refine ⟨_, rfl, ?_⟩; have n0_ := Aside0.mk (Kd.R_below (by (with_reducible repeat (first | apply Kd.R_alloc | apply Kd.R_drewN | apply Kd.R_drew)); exact HO_7.out) hb); have n1_ := Aside0.mk (Kd.R_below (by (with_reducible repeat (first | apply Kd.R_alloc | apply Kd.R_drewN | apply Kd.R_drew)); exact HO_8.out) hb); have n2_ := Aside0.mk (Kd.R_below (by (with_reducible repeat (first | apply Kd.R_alloc | apply Kd.R_drewN | apply Kd.R_drew)); exact HO_9.out) hb); have n3_ := Aside0.mk (Kd.R_below (by (with_reducible repeat (first | apply Kd.R_alloc | apply Kd.R_drewN | apply Kd.R_drew)); exact HO_13.out) hb); have n4_ := Aside0.mk (below_step (by repeat (first | (with_reducible first | exact HB.out | apply below_alloc | apply pw_below_drewN | apply below_drew1) | exact HB.out)) hb); clear HO_7; clear HO_8; clear HO_9; clear HO_13; clear HB; have HO_7 := n0_; have HO_8 := n1_; have HO_9 := n2_; have HO_13 := n3_; have HB := n4_; clear n0_ n1_ n2_ n3_ n4_; (try clear hb); (try clear hb2); (try clear hk); (try clear hi)) | ((with_reducible refine gate_builtin (b := .append) (xs := #[.tmp 60, .tmp 66]) rfl ?_); (try (refine gate_guard (by rfl) ?_; dsimp only)); at_builtin; refine Kd.R_append Kd.string (w0 := w) w.heap.size rfl (.tmp 60) (.tmp 66) 28 9 (.string ⟨#[]⟩) 16 rfl Tryd.underlying28 info9 rfl (by decide) (by omega) u9 x9_4 t209 [.string t209] (fun k_ => some k_ ≠ (.slice (some ad202) t196.length co17 : Value).ownBlock ∧ some k_ ≠ (v200 : Value).ownBlock ∧ some k_ ≠ (.slice (some ad208) t205.length co27 : Value).ownBlock) (fun _ => False) rfl rfl ?aP (fun _ hk => hk.elim) ?aF ?aO ?aB ?aS ?aL ?_; (case aP => exact rfl); (case aB => exact (by repeat (first | (with_reducible first | exact HB.out | apply below_alloc | apply pw_below_drewN | apply below_drew1) | exact HB.out))); (case aF => exact (fun k_ hk => ⟨Kd.fresh' (Kd.R_lt (by (with_reducible repeat (first | apply Kd.R_alloc | apply Kd.R_drewN | apply Kd.R_drew)); exact HO_7.out)) k_ hk, Kd.fresh' (Kd.R_lt (by (with_reducible repeat (first | apply Kd.R_alloc | apply Kd.R_drewN | apply Kd.R_drew)); exact HO_8.out)) k_ hk, Kd.fresh' (Kd.R_lt (by (with_reducible repeat (first | apply Kd.R_alloc | apply Kd.R_drewN | apply Kd.R_drew)); exact HO_13.out)) k_ hk⟩)); (case aO => exact (by (with_reducible repeat (first | apply Kd.R_alloc | apply Kd.R_drewN | apply Kd.R_drew)); exact HO_9.out)); (case aS => exact (below_size (by repeat (first | (with_reducible first | exact HB.out | apply below_alloc | apply pw_below_drewN | apply below_drew1) | exact HB.out)))); (case aL => have := LMc26.out; omega); intro v211 w29 ho hb hg hat; rw [← Ny210.out] at ho; have n0_ := Aside0.mk (Kd.R_after (ok := (fun k_ => some k_ ≠ (v200 : Value).ownBlock ∧ some k_ ≠ (.slice (some ad208) t205.length co27 : Value).ownBlock)) (by (with_reducible repeat (first | apply Kd.R_alloc | apply Kd.R_drewN | apply Kd.R_drew)); exact Kd.R_mono HO_7.out (fun _ hk => ⟨⟨hk.1, hk.2.2⟩, hk.2.1⟩)) hg hat); have n1_ := Aside0.mk (Kd.R_after (ok := (fun k_ => some k_ ≠ (.slice (some ad202) t196.length co17 : Value).ownBlock ∧ some k_ ≠ (.slice (some ad208) t205.length co27 : Value).ownBlock)) (by (with_reducible repeat (first | apply Kd.R_alloc | apply Kd.R_drewN | apply Kd.R_drew)); exact Kd.R_mono HO_8.out (fun _ hk => ⟨⟨hk.1, hk.2.2⟩, hk.2.1⟩)) hg hat); have n2_ := Aside0.mk (Kd.R_after (ok := (fun k_ => some k_ ≠ (.slice (some ad202) t196.length co17 : Value).ownBlock ∧ some k_ ≠ (v200 : Value).ownBlock)) (by (with_reducible repeat (first | apply Kd.R_alloc | apply Kd.R_drewN | apply Kd.R_drew)); exact Kd.R_mono HO_13.out (fun _ hk => ⟨⟨hk.1, hk.2.1⟩, hk.2.2⟩)) hg hat); have n3_ := Aside0.mk (hb); have n4_ := Aside0.mk (ho); clear HO_7; clear HO_8; clear HO_13; clear HB; clear HO_9; have HO_7 := n0_; have HO_8 := n1_; have HO_13 := n2_; have HB := n3_; have HO212 := n4_; clear n0_ n1_ n2_ n3_ n4_; clear ho hb hg hat))
                                  go_roundg k4
                                  case measure => have := HJ4.out; have := HK2.out; have := HJ15.out; have := HK4.out; omega
                                  case rel => exact ⟨(y210), (wrap64 (x14_4 + 1)), (by first | rfl | (simp; done) | (simp [*]; done) | (simp [q_ne_nil]; done)), H', ⟨by have := HJ4.out; have := HK2.out; have := HJ15.out; have := HK4.out; omega⟩, ⟨by (with_reducible repeat (first | apply Kd.R_alloc | apply Kd.R_drewN | apply Kd.R_drew)); exact Kd.R_mono HO_7.out (fun _ hk => ⟨hk.1.1, ⟨hk.2, hk.1.2⟩⟩)⟩, ⟨by (with_reducible repeat (first | apply Kd.R_alloc | apply Kd.R_drewN | apply Kd.R_drew)); exact Kd.R_mono HO_8.out (fun _ hk => ⟨hk.1.1, ⟨hk.2, hk.1.2⟩⟩)⟩, ⟨by (with_reducible repeat (first | apply Kd.R_alloc | apply Kd.R_drewN | apply Kd.R_drew)); exact HO212.out⟩, ⟨by (with_reducible repeat (first | apply Kd.R_alloc | apply Kd.R_drewN | apply Kd.R_drew)); exact Kd.R_mono HO_13.out (fun _ hk => ⟨hk.1.1, ⟨hk.1.2, hk.2⟩⟩)⟩, ⟨by repeat (first | (with_reducible first | exact HB.out | apply below_alloc | apply pw_below_drewN | apply below_drew1) | exact HB.out)⟩⟩
                                · rw [if_neg c26] at H
                                  exact absurd H (by simp)
                              · rw [if_neg c24] at H
                                exact absurd H (by simp)
                            · rw [if_neg c23] at H
                              have c23b0 : decide (x14_4 < (t205.length : Int)) = false := decide_eq_false c23
                              clear c23
                              have H' := Aside0.mk H
                              clear H
                              obtain ⟨Ao30, co30, eo30⟩ := Kd.R_slice HO_13.out
                              subst eo30
                              go_wp2
                              go_roundg k4
                              case measure => have := HJ4.out; have := HK2.out; have := HJ15.out; have := HK4.out; omega
                              case rel => exact ⟨(x9_4), (x10_15), (wrap64 (x11_2 + 1)), (by first | rfl | (simp; done) | (simp [*]; done) | (simp [q_ne_nil]; done)), (by first | rfl | (simp; done) | (simp [*]; done) | (simp [q_ne_nil]; done)), H', ⟨by have := HJ4.out; have := HK2.out; have := HJ15.out; have := HK4.out; omega⟩, ⟨by (with_reducible repeat (first | apply Kd.R_alloc | apply Kd.R_drewN | apply Kd.R_drew)); exact Kd.R_mono HO_7.out (fun _ hk => ⟨hk.1, hk.2.1⟩)⟩, ⟨by (with_reducible repeat (first | apply Kd.R_alloc | apply Kd.R_drewN | apply Kd.R_drew)); exact Kd.R_mono HO_8.out (fun _ hk => ⟨hk.1, hk.2.1⟩)⟩, ⟨by (with_reducible repeat (first | apply Kd.R_alloc | apply Kd.R_drewN | apply Kd.R_drew)); exact Kd.R_mono HO_9.out (fun _ hk => ⟨hk.1, hk.2.1⟩)⟩, ⟨by repeat (first | (with_reducible first | exact HB.out | apply below_alloc | apply pw_below_drewN | apply below_drew1) | exact HB.out)⟩⟩
                      · rw [if_neg c20] at H
                        exact absurd H (by simp)
                    · rw [if_neg c19] at H
                      exact absurd H (by simp)
              · rw [if_neg c14] at H
                exact absurd H (by simp)
            · rw [if_neg c13] at H
              have c13b0 : decide (x11_2 < (t196.length : Int)) = false := decide_eq_false c13
              clear c13
              have H' := Aside0.mk H
              clear H
              obtain ⟨Ao31, co31, eo31⟩ := Kd.R_slice HO_7.out
              subst eo31
              go_wp2
              go_loopg [15] k2 (fun kq v15 w' => ∃ (x15_3 : Int), v15 = .int .i64 x15_3 ∧ Aside0 (glacislaw07_HeadersPlain.l2 kq t194 t196 t199 x9_2 x10_2 x15_3 = some r) ∧ Aside0 (kq ≤ k2) ∧ Aside0 (Kd.R Kd.string 9 w' w.heap.size (fun k_ => some k_ ≠ (v200 : Value).ownBlock ∧ some k_ ≠ (u9 : Value).ownBlock) (.slice Ao31 t196.length co31) t196) ∧ Aside0 (Kd.R Kd.string 9 w' w.heap.size (fun k_ => some k_ ≠ ((.slice Ao31 t196.length co31) : Value).ownBlock ∧ some k_ ≠ (u9 : Value).ownBlock) v200 t199) ∧ Aside0 (Kd.R Kd.string 9 w' w.heap.size (fun k_ => some k_ ≠ ((.slice Ao31 t196.length co31) : Value).ownBlock ∧ some k_ ≠ (v200 : Value).ownBlock) u9 x9_2) ∧ Aside0 (Below w.heap.size w w'))
              case atStart => exact ⟨(0), (by first | rfl | (simp; done) | (simp [*]; done) | (simp [q_ne_nil]; done)), H', ⟨Nat.le_refl _⟩, ⟨by (with_reducible repeat (first | apply Kd.R_alloc | apply Kd.R_drewN | apply Kd.R_drew)); exact HO_7.out⟩, ⟨by (with_reducible repeat (first | apply Kd.R_alloc | apply Kd.R_drewN | apply Kd.R_drew)); exact HO_8.out⟩, ⟨by (with_reducible repeat (first | apply Kd.R_alloc | apply Kd.R_drewN | apply Kd.R_drew)); exact HO_9.out⟩, ⟨by repeat (first | (with_reducible first | exact HB.out | apply below_alloc | apply pw_below_drewN | apply below_drew1) | exact HB.out)⟩⟩
              case round =>
                clear H'
                try clear c1
                try clear c2
                try clear p2
                try clear q2
                try clear hx2
                try clear c6
                try clear p6
                try clear c7
                try clear c8
                try clear c9
                try clear c10
                try clear c11
                try clear c13
                try clear c13b0
                try clear c14
                try clear c14b0
                try clear c15
                try clear c16
                try clear c18
                try clear c19
                try clear c19b0
                try clear c20
                try clear c20b0
                try clear p20
                try clear q20
                try clear hx20
                try clear c23
                try clear c23b0
                try clear c24
                try clear c24b0
                try clear c26
                try clear hx202_0
                try clear hx204_0
                try clear hx208_0
                try clear p2
                try clear p20
                try clear p202
                try clear p204
                try clear p208
                try clear q2
                try clear q20
                try clear q202
                try clear q204
                try clear q208
                obtain ⟨x15_3, rfl, HA, HK3, HO_7, HO_8, HO_9, HB⟩ := hrel
                cases gk with
                | zero => exact absurd HA.out (by simp [glacislaw07_HeadersPlain.l2])
                | succ k3 =>
                  have H := HA.out
                  clear HA
                  simp only [glacislaw07_HeadersPlain.l2] at H
                  by_cases c32 : x15_3 < (t199.length : Int)
                  · rw [if_pos c32] at H
                    have c32b0 : decide (x15_3 < (t199.length : Int)) = true := decide_eq_true c32
                    clear c32
                    by_cases c33 : 0 ≤ x15_3
                    · rw [if_pos c33] at H
                      have c33b0 : decide (0 ≤ x15_3) = true := decide_eq_true c33
                      clear c33
                      replace H := Option.bind_eq_some_iff.mp H
                      obtain ⟨t214, A340, H⟩ := H
                      replace H : (if t214.toList = (rdOf ByteArray.empty t199 x15_3).toList then (glacislaw07_HeadersPlain.l2 k3 t194 t196 t199 x9_2 x10_2 (wrap64 (x15_3 + 1))) else (some false)) = some r := H
                      have A34 := Aside0.mk A340
                      clear A340
                      by_cases c35 : t214.toList = (rdOf ByteArray.empty t199 x15_3).toList
                      · rw [if_pos c35] at H
                        have c35b0 : (t214.toList == (rdOf ByteArray.empty t199 x15_3).toList) = true := beq_iff_eq.mpr c35
                        have c35b1 : (t214.toList != (rdOf ByteArray.empty t199 x15_3).toList) = false := bne_eq_false_iff_eq.mpr c35
                        clear c35
                        have H' := Aside0.mk H
                        clear H
                        obtain ⟨Ao36, co36, eo36⟩ := Kd.R_slice HO_8.out
                        subst eo36
                        try go_wp2
                        have n0_ := Aside0.mk (Kd.R_drew HO_7.out)
                        have n1_ := Aside0.mk (Kd.R_drew HO_8.out)
                        have n2_ := Aside0.mk (Kd.R_drew HO_9.out)
                        have n3_ := Aside0.mk (below_drew1 HB.out)
                        clear HO_7
                        clear HO_8
                        clear HO_9
                        clear HB
                        have HO_7 := n0_
                        have HO_8 := n1_
                        have HO_9 := n2_
                        have HB := n3_
                        clear n0_ n1_ n2_ n3_
                        have p213 : 0 ≤ (x15_3 : Int) := of_decide_eq_true (by first | (with_reducible assumption) | assumption)
                        have q213 : x15_3 < (t199.length : Int) := of_decide_eq_true (by first | (with_reducible assumption) | assumption)
                        obtain ⟨ad213, e213, hx213_0⟩ := Kd.at_string (Kd.R_reads' HO_8.out).2.2 x15_3 p213 q213
                        cases e213
                        replace p213 := eq_true p213
                        replace q213 := eq_true q213
                        have p215 : 0 ≤ (x15_3 : Int) := of_decide_eq_true (by first | (with_reducible assumption) | assumption)
                        have q215 : x15_3 < (t199.length : Int) := of_decide_eq_true (by first | (with_reducible assumption) | assumption)
                        obtain ⟨ad215, e215, hx215_0⟩ := Kd.at_string (Kd.R_reads' HO_8.out).2.2 x15_3 p215 q215
                        obtain rfl : ad213 = ad215 := (by injection e215)
                        replace p215 := eq_true p215
                        replace q215 := eq_true q215
                        refine start_ (n := 10) (S := fun w' => w'.cell? (ad213.add (x15_3).toNat) = some (.string (rdOf ByteArray.empty t199 x15_3)) ∧ w'.cell? (ad213.add (x15_3).toNat) = some (.string (rdOf ByteArray.empty t199 x15_3))) (ds := []) #[false, false, false, false, false, false, false, false, false, false] (by kernel_rfl) rfl rfl ⟨hx213_0, hx215_0⟩ (fun hHeld => ?_); refine with_tabW glacislaw07_HeadersPlain.tab22 glacislaw07_HeadersPlain.bits22 (fun HT_ HW_ => ?_)
                        generalize wr.drew = w37 at HO_7 HO_8 HO_9 HB hx213_0 hx215_0 hHeld ⊢
                        refine pure_ (i := 0) (N := some 74) (v := ?_) (a' := ?_) #[true, false, false, false, false, false, false, false, false, false] rfl rfl (any_of HT_.out (by kernel_rfl)) (fun _ _ _ h => h) (Or.inl ⟨by rfl, ?_⟩) ?_ ?_
                        rotate_left
                        · intro w'
                          go_simp
                          with_reducible rfl
                        rotate_left
                        · simp only [Act.put, List.setIfInBounds_toArray, List.set_cons_zero, List.set_cons_succ, i64_w, i32_w]
                          rfl
                        refine pure_ (i := 1) (N := some 75) (v := ?_) (a' := ?_) #[true, true, false, false, false, false, false, false, false, false] rfl rfl (any_of HT_.out (by kernel_rfl)) (fun _ _ _ h => h) (Or.inl ⟨by rfl, ?_⟩) ?_ ?_
                        rotate_left
                        · intro w'
                          go_simp
                          with_reducible rfl
                        rotate_left
                        · simp only [Act.put, List.setIfInBounds_toArray, List.set_cons_zero, List.set_cons_succ, i64_w, i32_w]
                          rfl
                        refine pure_ (i := 2) (N := some 76) (v := ?_) (a' := ?_) #[true, true, true, false, false, false, false, false, false, false] rfl rfl (any_of HT_.out (by kernel_rfl)) (fun _ _ _ h => h) (Or.inl ⟨by rfl, ?_⟩) ?_ ?_
                        rotate_left
                        · intro w'
                          go_simp
                          with_reducible rfl
                        rotate_left
                        · simp only [Act.put, List.setIfInBounds_toArray, List.set_cons_zero, List.set_cons_succ, i64_w, i32_w]
                          rfl
                        refine pure_ (i := 5) (N := some 79) (v := ?_) (a' := ?_) #[true, true, true, false, false, true, false, false, false, false] rfl rfl (any_of HT_.out (by kernel_rfl)) (fun _ _ _ h => h) (Or.inl ⟨by rfl, ?_⟩) ?_ ?_
                        rotate_left
                        · intro w'
                          go_simp
                          with_reducible rfl
                        rotate_left
                        · simp only [Act.put, List.setIfInBounds_toArray, List.set_cons_zero, List.set_cons_succ, i64_w, i32_w]
                          rfl
                        refine pure_ (i := 6) (N := some 80) (v := ?_) (a' := ?_) #[true, true, true, false, false, true, true, false, false, false] rfl rfl (any_of HT_.out (by kernel_rfl)) (fun _ _ _ h => h) (Or.inl ⟨by rfl, ?_⟩) ?_ ?_
                        rotate_left
                        · intro w'
                          go_simp
                          with_reducible rfl
                        rotate_left
                        · simp only [Act.put, List.setIfInBounds_toArray, List.set_cons_zero, List.set_cons_succ, i64_w, i32_w]
                          rfl
                        refine pure_ (i := 7) (N := some 81) (v := ?_) (a' := ?_) #[true, true, true, false, false, true, true, true, false, false] rfl rfl (any_of HT_.out (by kernel_rfl)) (fun _ _ _ h => h) (Or.inl ⟨by rfl, ?_⟩) ?_ ?_
                        rotate_left
                        · intro w'
                          go_simp
                          with_reducible rfl
                        rotate_left
                        · simp only [Act.put, List.setIfInBounds_toArray, List.set_cons_zero, List.set_cons_succ, i64_w, i32_w]
                          rfl
                        refine take_ (i := 3) (N := some 77) (v := ?_) (a' := ?_) #[true, true, true, true, false, true, true, true, false, false] rfl rfl (take_ofW HT_.out HW_.out (by kernel_rfl)) (fun _ _ _ h => h) (Or.inl ⟨by rfl, ?_⟩) hHeld ?_ ?_
                        rotate_left
                        · rintro w' ⟨s0, s1⟩
                          go_simp
                          with_reducible rfl
                        rotate_left
                        · simp only [Act.put, List.setIfInBounds_toArray, List.set_cons_zero, List.set_cons_succ, i64_w, i32_w]
                          rfl
                        refine take_ (i := 8) (N := some 82) (v := ?_) (a' := ?_) #[true, true, true, true, false, true, true, true, true, false] rfl rfl (take_ofW HT_.out HW_.out (by kernel_rfl)) (fun _ _ _ h => h) (Or.inl ⟨by rfl, ?_⟩) hHeld ?_ ?_
                        rotate_left
                        · rintro w' ⟨s0, s1⟩
                          go_simp
                          with_reducible rfl
                        rotate_left
                        · simp only [Act.put, List.setIfInBounds_toArray, List.set_cons_zero, List.set_cons_succ, i64_w, i32_w]
                          rfl
                        refine one_ (i := 4) (N := some 78) #[true, true, true, true, true, true, true, true, true, false] rfl rfl (one_of HT_.out (by kernel_rfl)) (by decide) (fun K hK => ?_)
                        refine goes_ Tryd.func10 (by kernel_rfl) rfl #[.string (rdOf ByteArray.empty t199 x15_3)] (by rfl) rfl rfl (by (try simp only [List.map_toArray, List.map_cons, List.map_nil]); first | done | rfl | (simp only [List.length_drop, List.length_take]; rfl)) ?_
                        with_reducible refine (octet_Trim.calls (rdOf ByteArray.empty t199 x15_3) t214 _ A34.out).mono ?_
                        rintro e w38 ⟨rfl, hb⟩
                        have HS0_ := (hb.cell (World.block_lt_of_cell? _ _ (hHeld.1))).trans (hHeld.1)
                        have HS1_ := (hb.cell (World.block_lt_of_cell? _ _ (hHeld.2))).trans (hHeld.2)
                        refine ⟨_, rfl, ?_⟩
                        have n0_ := Aside0.mk (Kd.R_below (by (with_reducible repeat (first | apply Kd.R_alloc | apply Kd.R_drewN | apply Kd.R_drew)); exact HO_7.out) hb)
                        have n1_ := Aside0.mk (Kd.R_below (by (with_reducible repeat (first | apply Kd.R_alloc | apply Kd.R_drewN | apply Kd.R_drew)); exact HO_8.out) hb)
                        have n2_ := Aside0.mk (Kd.R_below (by (with_reducible repeat (first | apply Kd.R_alloc | apply Kd.R_drewN | apply Kd.R_drew)); exact HO_9.out) hb)
                        have n3_ := Aside0.mk (below_step (by repeat (first | (with_reducible first | exact HB.out | apply below_alloc | apply pw_below_drewN | apply below_drew1) | exact HB.out)) hb)
                        clear HO_7
                        clear HO_8
                        clear HO_9
                        clear HB
                        have HO_7 := n0_
                        have HO_8 := n1_
                        have HO_9 := n2_
                        have HB := n3_
                        clear n0_ n1_ n2_ n3_
                        (try clear hb)
                        (try clear hb2)
                        (try clear hk)
                        (try clear hi)
                        refine hK.out _ _ ⟨HS0_, HS1_⟩ (fun hHeld => ?_)
                        clear hK K
                        refine norm_ (a' := ?_) ?_ ?_
                        rotate_left
                        · show Act.put _ (some 78) _ = _
                          simp only [Act.put, List.setIfInBounds_toArray, List.set_cons_zero, List.set_cons_succ, i64_w, i32_w]
                          rfl
                        refine pure_ (i := 9) (N := some 83) (v := ?_) (a' := ?_) #[true, true, true, true, true, true, true, true, true, true] rfl rfl (any_of HT_.out (by kernel_rfl)) (fun _ _ _ h => h) (Or.inl ⟨by rfl, ?_⟩) ?_ ?_
                        rotate_left
                        · intro w'
                          go_simp
                          with_reducible rfl
                        rotate_left
                        · simp only [Act.put, List.setIfInBounds_toArray, List.set_cons_zero, List.set_cons_succ, i64_w, i32_w]
                          rfl
                        refine done_ (done_of HT_.out (by kernel_rfl)) ?_
                        try go_wp2
                        go_roundg k3
                        case measure => have := HJ4.out; have := HK2.out; have := HK3.out; omega
                        case rel => exact ⟨(wrap64 (x15_3 + 1)), (by first | rfl | (simp; done) | (simp [*]; done) | (simp [q_ne_nil]; done)), H', ⟨by have := HJ4.out; have := HK2.out; have := HK3.out; omega⟩, ⟨by (with_reducible repeat (first | apply Kd.R_alloc | apply Kd.R_drewN | apply Kd.R_drew)); exact HO_7.out⟩, ⟨by (with_reducible repeat (first | apply Kd.R_alloc | apply Kd.R_drewN | apply Kd.R_drew)); exact HO_8.out⟩, ⟨by (with_reducible repeat (first | apply Kd.R_alloc | apply Kd.R_drewN | apply Kd.R_drew)); exact HO_9.out⟩, ⟨by repeat (first | (with_reducible first | exact HB.out | apply below_alloc | apply pw_below_drewN | apply below_drew1) | exact HB.out)⟩⟩
                      · rw [if_neg c35] at H
                        have c35b0 : (t214.toList == (rdOf ByteArray.empty t199 x15_3).toList) = false := beq_eq_false_iff_ne.mpr c35
                        have c35b1 : (t214.toList != (rdOf ByteArray.empty t199 x15_3).toList) = true := bne_iff_ne.mpr c35
                        obtain rfl := Option.some.inj H
                        obtain ⟨Ao39, co39, eo39⟩ := Kd.R_slice HO_8.out
                        subst eo39
                        try go_wp2
                        have n0_ := Aside0.mk (Kd.R_drew HO_7.out)
                        have n1_ := Aside0.mk (Kd.R_drew HO_8.out)
                        have n2_ := Aside0.mk (Kd.R_drew HO_9.out)
                        have n3_ := Aside0.mk (below_drew1 HB.out)
                        clear HO_7
                        clear HO_8
                        clear HO_9
                        clear HB
                        have HO_7 := n0_
                        have HO_8 := n1_
                        have HO_9 := n2_
                        have HB := n3_
                        clear n0_ n1_ n2_ n3_
                        have p213 : 0 ≤ (x15_3 : Int) := of_decide_eq_true (by first | (with_reducible assumption) | assumption)
                        have q213 : x15_3 < (t199.length : Int) := of_decide_eq_true (by first | (with_reducible assumption) | assumption)
                        obtain ⟨ad213, e213, hx213_0⟩ := Kd.at_string (Kd.R_reads' HO_8.out).2.2 x15_3 p213 q213
                        cases e213
                        replace p213 := eq_true p213
                        replace q213 := eq_true q213
                        have p215 : 0 ≤ (x15_3 : Int) := of_decide_eq_true (by first | (with_reducible assumption) | assumption)
                        have q215 : x15_3 < (t199.length : Int) := of_decide_eq_true (by first | (with_reducible assumption) | assumption)
                        obtain ⟨ad215, e215, hx215_0⟩ := Kd.at_string (Kd.R_reads' HO_8.out).2.2 x15_3 p215 q215
                        obtain rfl : ad213 = ad215 := (by injection e215)
                        replace p215 := eq_true p215
                        replace q215 := eq_true q215
                        refine start_ (n := 10) (S := fun w' => w'.cell? (ad213.add (x15_3).toNat) = some (.string (rdOf ByteArray.empty t199 x15_3)) ∧ w'.cell? (ad213.add (x15_3).toNat) = some (.string (rdOf ByteArray.empty t199 x15_3))) (ds := []) #[false, false, false, false, false, false, false, false, false, false] (by kernel_rfl) rfl rfl ⟨hx213_0, hx215_0⟩ (fun hHeld => ?_); refine with_tabW glacislaw07_HeadersPlain.tab22 glacislaw07_HeadersPlain.bits22 (fun HT_ HW_ => ?_)
                        generalize wr.drew = w40 at HO_7 HO_8 HO_9 HB hx213_0 hx215_0 hHeld ⊢
                        refine pure_ (i := 0) (N := some 74) (v := ?_) (a' := ?_) #[true, false, false, false, false, false, false, false, false, false] rfl rfl (any_of HT_.out (by kernel_rfl)) (fun _ _ _ h => h) (Or.inl ⟨by rfl, ?_⟩) ?_ ?_
                        rotate_left
                        · intro w'
                          go_simp
                          with_reducible rfl
                        rotate_left
                        · simp only [Act.put, List.setIfInBounds_toArray, List.set_cons_zero, List.set_cons_succ, i64_w, i32_w]
                          rfl
                        refine pure_ (i := 1) (N := some 75) (v := ?_) (a' := ?_) #[true, true, false, false, false, false, false, false, false, false] rfl rfl (any_of HT_.out (by kernel_rfl)) (fun _ _ _ h => h) (Or.inl ⟨by rfl, ?_⟩) ?_ ?_
                        rotate_left
                        · intro w'
                          go_simp
                          with_reducible rfl
                        rotate_left
                        · simp only [Act.put, List.setIfInBounds_toArray, List.set_cons_zero, List.set_cons_succ, i64_w, i32_w]
                          rfl
                        refine pure_ (i := 2) (N := some 76) (v := ?_) (a' := ?_) #[true, true, true, false, false, false, false, false, false, false] rfl rfl (any_of HT_.out (by kernel_rfl)) (fun _ _ _ h => h) (Or.inl ⟨by rfl, ?_⟩) ?_ ?_
                        rotate_left
                        · intro w'
                          go_simp
                          with_reducible rfl
                        rotate_left
                        · simp only [Act.put, List.setIfInBounds_toArray, List.set_cons_zero, List.set_cons_succ, i64_w, i32_w]
                          rfl
                        refine pure_ (i := 5) (N := some 79) (v := ?_) (a' := ?_) #[true, true, true, false, false, true, false, false, false, false] rfl rfl (any_of HT_.out (by kernel_rfl)) (fun _ _ _ h => h) (Or.inl ⟨by rfl, ?_⟩) ?_ ?_
                        rotate_left
                        · intro w'
                          go_simp
                          with_reducible rfl
                        rotate_left
                        · simp only [Act.put, List.setIfInBounds_toArray, List.set_cons_zero, List.set_cons_succ, i64_w, i32_w]
                          rfl
                        refine pure_ (i := 6) (N := some 80) (v := ?_) (a' := ?_) #[true, true, true, false, false, true, true, false, false, false] rfl rfl (any_of HT_.out (by kernel_rfl)) (fun _ _ _ h => h) (Or.inl ⟨by rfl, ?_⟩) ?_ ?_
                        rotate_left
                        · intro w'
                          go_simp
                          with_reducible rfl
                        rotate_left
                        · simp only [Act.put, List.setIfInBounds_toArray, List.set_cons_zero, List.set_cons_succ, i64_w, i32_w]
                          rfl
                        refine pure_ (i := 7) (N := some 81) (v := ?_) (a' := ?_) #[true, true, true, false, false, true, true, true, false, false] rfl rfl (any_of HT_.out (by kernel_rfl)) (fun _ _ _ h => h) (Or.inl ⟨by rfl, ?_⟩) ?_ ?_
                        rotate_left
                        · intro w'
                          go_simp
                          with_reducible rfl
                        rotate_left
                        · simp only [Act.put, List.setIfInBounds_toArray, List.set_cons_zero, List.set_cons_succ, i64_w, i32_w]
                          rfl
                        refine take_ (i := 3) (N := some 77) (v := ?_) (a' := ?_) #[true, true, true, true, false, true, true, true, false, false] rfl rfl (take_ofW HT_.out HW_.out (by kernel_rfl)) (fun _ _ _ h => h) (Or.inl ⟨by rfl, ?_⟩) hHeld ?_ ?_
                        rotate_left
                        · rintro w' ⟨s0, s1⟩
                          go_simp
                          with_reducible rfl
                        rotate_left
                        · simp only [Act.put, List.setIfInBounds_toArray, List.set_cons_zero, List.set_cons_succ, i64_w, i32_w]
                          rfl
                        refine take_ (i := 8) (N := some 82) (v := ?_) (a' := ?_) #[true, true, true, true, false, true, true, true, true, false] rfl rfl (take_ofW HT_.out HW_.out (by kernel_rfl)) (fun _ _ _ h => h) (Or.inl ⟨by rfl, ?_⟩) hHeld ?_ ?_
                        rotate_left
                        · rintro w' ⟨s0, s1⟩
                          go_simp
                          with_reducible rfl
                        rotate_left
                        · simp only [Act.put, List.setIfInBounds_toArray, List.set_cons_zero, List.set_cons_succ, i64_w, i32_w]
                          rfl
                        refine one_ (i := 4) (N := some 78) #[true, true, true, true, true, true, true, true, true, false] rfl rfl (one_of HT_.out (by kernel_rfl)) (by decide) (fun K hK => ?_)
                        refine goes_ Tryd.func10 (by kernel_rfl) rfl #[.string (rdOf ByteArray.empty t199 x15_3)] (by rfl) rfl rfl (by (try simp only [List.map_toArray, List.map_cons, List.map_nil]); first | done | rfl | (simp only [List.length_drop, List.length_take]; rfl)) ?_
                        with_reducible refine (octet_Trim.calls (rdOf ByteArray.empty t199 x15_3) t214 _ A34.out).mono ?_
                        rintro e w41 ⟨rfl, hb⟩
                        have HS0_ := (hb.cell (World.block_lt_of_cell? _ _ (hHeld.1))).trans (hHeld.1)
                        have HS1_ := (hb.cell (World.block_lt_of_cell? _ _ (hHeld.2))).trans (hHeld.2)
                        refine ⟨_, rfl, ?_⟩
                        have n0_ := Aside0.mk (Kd.R_below (by (with_reducible repeat (first | apply Kd.R_alloc | apply Kd.R_drewN | apply Kd.R_drew)); exact HO_7.out) hb)
                        have n1_ := Aside0.mk (Kd.R_below (by (with_reducible repeat (first | apply Kd.R_alloc | apply Kd.R_drewN | apply Kd.R_drew)); exact HO_8.out) hb)
                        have n2_ := Aside0.mk (Kd.R_below (by (with_reducible repeat (first | apply Kd.R_alloc | apply Kd.R_drewN | apply Kd.R_drew)); exact HO_9.out) hb)
                        have n3_ := Aside0.mk (below_step (by repeat (first | (with_reducible first | exact HB.out | apply below_alloc | apply pw_below_drewN | apply below_drew1) | exact HB.out)) hb)
                        clear HO_7
                        clear HO_8
                        clear HO_9
                        clear HB
                        have HO_7 := n0_
                        have HO_8 := n1_
                        have HO_9 := n2_
                        have HB := n3_
                        clear n0_ n1_ n2_ n3_
                        (try clear hb)
                        (try clear hb2)
                        (try clear hk)
                        (try clear hi)
                        refine hK.out _ _ ⟨HS0_, HS1_⟩ (fun hHeld => ?_)
                        clear hK K
                        refine norm_ (a' := ?_) ?_ ?_
                        rotate_left
                        · show Act.put _ (some 78) _ = _
                          simp only [Act.put, List.setIfInBounds_toArray, List.set_cons_zero, List.set_cons_succ, i64_w, i32_w]
                          rfl
                        refine pure_ (i := 9) (N := some 83) (v := ?_) (a' := ?_) #[true, true, true, true, true, true, true, true, true, true] rfl rfl (any_of HT_.out (by kernel_rfl)) (fun _ _ _ h => h) (Or.inl ⟨by rfl, ?_⟩) ?_ ?_
                        rotate_left
                        · intro w'
                          go_simp
                          with_reducible rfl
                        rotate_left
                        · simp only [Act.put, List.setIfInBounds_toArray, List.set_cons_zero, List.set_cons_succ, i64_w, i32_w]
                          rfl
                        refine done_ (done_of HT_.out (by kernel_rfl)) ?_
                        try go_wp2
                        go_ret
                        exact ⟨by first | rfl | (simp [errW_none, errW_some] <;> rfl) | (simp [*, errW_none, errW_some] <;> rfl) | (simp [q_ne_nil]; done), by repeat (first | (with_reducible first | exact HB.out | apply below_alloc | apply pw_below_drewN | apply below_drew1) | exact HB.out)⟩
                    · rw [if_neg c33] at H
                      exact absurd H (by simp)
                  · rw [if_neg c32] at H
                    have c32b0 : decide (x15_3 < (t199.length : Int)) = false := decide_eq_false c32
                    clear c32
                    replace H := Option.bind_eq_some_iff.mp H
                    obtain ⟨t216, A420, H⟩ := H
                    replace H : (if t194 = true then (if (t199.length : Int) ≥ (t196.length : Int) then (if (t199.length : Int) ≤ (x9_2.length : Int) then (if x10_2 = true then (some true) else (some t216)) else (some false)) else (some false)) else (some false)) = some r := H
                    have A42 := Aside0.mk A420
                    clear A420
                    by_cases c43 : t194 = true
                    · subst c43
                      have H1 : (if (t199.length : Int) ≥ (t196.length : Int) then (if (t199.length : Int) ≤ (x9_2.length : Int) then (if x10_2 = true then (some true) else (some t216)) else (some false)) else (some false)) = some r := by rw [if_pos rfl] at H; exact H
                      clear H
                      have H := H1
                      clear H1
                      by_cases c44 : (t199.length : Int) ≥ (t196.length : Int)
                      · rw [if_pos c44] at H
                        have c44b0 : decide ((t196.length : Int) ≤ (t199.length : Int)) = true := decide_eq_true c44
                        have c44b1 : decide (t196.length ≤ t199.length) = true := decide_eq_true (Int.ofNat_le.mp c44)
                        clear c44
                        by_cases c45 : (t199.length : Int) ≤ (x9_2.length : Int)
                        · rw [if_pos c45] at H
                          have c45b0 : decide ((t199.length : Int) ≤ (x9_2.length : Int)) = true := decide_eq_true c45
                          have c45b1 : decide (t199.length ≤ x9_2.length) = true := decide_eq_true (Int.ofNat_le.mp c45)
                          clear c45
                          by_cases c46 : x10_2 = true
                          · subst c46
                            have H1 : (some true) = some r := by rw [if_pos rfl] at H; exact H
                            clear H
                            have H := H1
                            clear H1
                            obtain rfl := Option.some.inj H
                            obtain ⟨Ao47, co47, eo47⟩ := Kd.R_slice HO_8.out
                            subst eo47
                            obtain ⟨Ao48, co48, eo48⟩ := Kd.R_slice HO_9.out
                            subst eo48
                            go_wp2_with (first | ((with_reducible refine gate_callee (f := 17) rfl ?_); refine goesL_ (some 86) rfl rfl Tryd.func17 (by kernel_rfl) rfl #[.slice Ao47 t199.length co47, .slice Ao48 x9_2.length co48] rfl (by (try simp only [List.map_toArray, List.map_cons, List.map_nil]); first | done | rfl | (simp only [List.length_drop, List.length_take]; rfl)) ?_; (with_reducible refine (glacisref01_Texts.calls k3 _ _ t199 _ _ x9_2 t216 _ ?side1 ?side2 ?side3 ?side4 A42.out).mono ?_); (case side1 => repeat (first | exact (Kd.R_reads' HO_8.out).2.2 | (with_reducible refine Kd.C_alloc ?_ _) | (with_reducible refine Kd.C_drewN ?_ _) | (with_reducible refine Kd.C_drew ?_))); (case side2 => exact (Kd.R_reads' HO_8.out).2.1); (case side3 => repeat (first | exact (Kd.R_reads' HO_9.out).2.2 | (with_reducible refine Kd.C_alloc ?_ _) | (with_reducible refine Kd.C_drewN ?_ _) | (with_reducible refine Kd.C_drew ?_))); (case side4 => exact (Kd.R_reads' HO_9.out).2.1); rintro e w' ⟨rfl, ⟨nd, rfl⟩⟩; refine ⟨_, rfl, ?_⟩))
                            go_ret
                            exact ⟨by first | rfl | (simp [errW_none, errW_some] <;> rfl) | (simp [*, errW_none, errW_some] <;> rfl) | (simp [q_ne_nil]; done), by repeat (first | (with_reducible first | exact HB.out | apply below_alloc | apply pw_below_drewN | apply below_drew1) | exact HB.out)⟩
                          · replace c46 := Bool.eq_false_iff.mpr c46
                            subst c46
                            have H1 : (some t216) = some r := by rw [if_neg (show ¬ (false = true) by decide)] at H; exact H
                            clear H
                            have H := H1
                            clear H1
                            obtain rfl := Option.some.inj H
                            obtain ⟨Ao49, co49, eo49⟩ := Kd.R_slice HO_8.out
                            subst eo49
                            obtain ⟨Ao50, co50, eo50⟩ := Kd.R_slice HO_9.out
                            subst eo50
                            go_wp2_with (first | ((with_reducible refine gate_callee (f := 17) rfl ?_); refine goesL_ (some 86) rfl rfl Tryd.func17 (by kernel_rfl) rfl #[.slice Ao49 t199.length co49, .slice Ao50 x9_2.length co50] rfl (by (try simp only [List.map_toArray, List.map_cons, List.map_nil]); first | done | rfl | (simp only [List.length_drop, List.length_take]; rfl)) ?_; (with_reducible refine (glacisref01_Texts.calls k3 _ _ t199 _ _ x9_2 t216 _ ?side1 ?side2 ?side3 ?side4 A42.out).mono ?_); (case side1 => repeat (first | exact (Kd.R_reads' HO_8.out).2.2 | (with_reducible refine Kd.C_alloc ?_ _) | (with_reducible refine Kd.C_drewN ?_ _) | (with_reducible refine Kd.C_drew ?_))); (case side2 => exact (Kd.R_reads' HO_8.out).2.1); (case side3 => repeat (first | exact (Kd.R_reads' HO_9.out).2.2 | (with_reducible refine Kd.C_alloc ?_ _) | (with_reducible refine Kd.C_drewN ?_ _) | (with_reducible refine Kd.C_drew ?_))); (case side4 => exact (Kd.R_reads' HO_9.out).2.1); rintro e w' ⟨rfl, ⟨nd, rfl⟩⟩; refine ⟨_, rfl, ?_⟩))
                            go_ret
                            exact ⟨by first | rfl | (simp [errW_none, errW_some] <;> rfl) | (simp [*, errW_none, errW_some] <;> rfl) | (simp [q_ne_nil]; done), by repeat (first | (with_reducible first | exact HB.out | apply below_alloc | apply pw_below_drewN | apply below_drew1) | exact HB.out)⟩
                        · rw [if_neg c45] at H
                          have c45b0 : decide ((t199.length : Int) ≤ (x9_2.length : Int)) = false := decide_eq_false c45
                          have c45b1 : decide (t199.length ≤ x9_2.length) = false := decide_eq_false (fun h => c45 (Int.ofNat_le.mpr h))
                          clear c45
                          obtain rfl := Option.some.inj H
                          obtain ⟨Ao51, co51, eo51⟩ := Kd.R_slice HO_8.out
                          subst eo51
                          obtain ⟨Ao52, co52, eo52⟩ := Kd.R_slice HO_9.out
                          subst eo52
                          go_wp2_with (first | ((with_reducible refine gate_callee (f := 17) rfl ?_); refine goesL_ (some 86) rfl rfl Tryd.func17 (by kernel_rfl) rfl #[.slice Ao51 t199.length co51, .slice Ao52 x9_2.length co52] rfl (by (try simp only [List.map_toArray, List.map_cons, List.map_nil]); first | done | rfl | (simp only [List.length_drop, List.length_take]; rfl)) ?_; (with_reducible refine (glacisref01_Texts.calls k3 _ _ t199 _ _ x9_2 t216 _ ?side1 ?side2 ?side3 ?side4 A42.out).mono ?_); (case side1 => repeat (first | exact (Kd.R_reads' HO_8.out).2.2 | (with_reducible refine Kd.C_alloc ?_ _) | (with_reducible refine Kd.C_drewN ?_ _) | (with_reducible refine Kd.C_drew ?_))); (case side2 => exact (Kd.R_reads' HO_8.out).2.1); (case side3 => repeat (first | exact (Kd.R_reads' HO_9.out).2.2 | (with_reducible refine Kd.C_alloc ?_ _) | (with_reducible refine Kd.C_drewN ?_ _) | (with_reducible refine Kd.C_drew ?_))); (case side4 => exact (Kd.R_reads' HO_9.out).2.1); rintro e w' ⟨rfl, ⟨nd, rfl⟩⟩; refine ⟨_, rfl, ?_⟩))
                          go_ret
                          exact ⟨by first | rfl | (simp [errW_none, errW_some] <;> rfl) | (simp [*, errW_none, errW_some] <;> rfl) | (simp [q_ne_nil]; done), by repeat (first | (with_reducible first | exact HB.out | apply below_alloc | apply pw_below_drewN | apply below_drew1) | exact HB.out)⟩
                      · rw [if_neg c44] at H
                        have c44b0 : decide ((t196.length : Int) ≤ (t199.length : Int)) = false := decide_eq_false c44
                        have c44b1 : decide (t196.length ≤ t199.length) = false := decide_eq_false (fun h => c44 (Int.ofNat_le.mpr h))
                        clear c44
                        obtain rfl := Option.some.inj H
                        obtain ⟨Ao53, co53, eo53⟩ := Kd.R_slice HO_8.out
                        subst eo53
                        obtain ⟨Ao54, co54, eo54⟩ := Kd.R_slice HO_9.out
                        subst eo54
                        go_wp2_with (first | ((with_reducible refine gate_callee (f := 17) rfl ?_); refine goesL_ (some 86) rfl rfl Tryd.func17 (by kernel_rfl) rfl #[.slice Ao53 t199.length co53, .slice Ao54 x9_2.length co54] rfl (by (try simp only [List.map_toArray, List.map_cons, List.map_nil]); first | done | rfl | (simp only [List.length_drop, List.length_take]; rfl)) ?_; (with_reducible refine (glacisref01_Texts.calls k3 _ _ t199 _ _ x9_2 t216 _ ?side1 ?side2 ?side3 ?side4 A42.out).mono ?_); (case side1 => repeat (first | exact (Kd.R_reads' HO_8.out).2.2 | (with_reducible refine Kd.C_alloc ?_ _) | (with_reducible refine Kd.C_drewN ?_ _) | (with_reducible refine Kd.C_drew ?_))); (case side2 => exact (Kd.R_reads' HO_8.out).2.1); (case side3 => repeat (first | exact (Kd.R_reads' HO_9.out).2.2 | (with_reducible refine Kd.C_alloc ?_ _) | (with_reducible refine Kd.C_drewN ?_ _) | (with_reducible refine Kd.C_drew ?_))); (case side4 => exact (Kd.R_reads' HO_9.out).2.1); rintro e w' ⟨rfl, ⟨nd, rfl⟩⟩; refine ⟨_, rfl, ?_⟩))
                        go_ret
                        exact ⟨by first | rfl | (simp [errW_none, errW_some] <;> rfl) | (simp [*, errW_none, errW_some] <;> rfl) | (simp [q_ne_nil]; done), by repeat (first | (with_reducible first | exact HB.out | apply below_alloc | apply pw_below_drewN | apply below_drew1) | exact HB.out)⟩
                    · replace c43 := Bool.eq_false_iff.mpr c43
                      subst c43
                      have H1 : (some false) = some r := by rw [if_neg (show ¬ (false = true) by decide)] at H; exact H
                      clear H
                      have H := H1
                      clear H1
                      obtain rfl := Option.some.inj H
                      obtain ⟨Ao55, co55, eo55⟩ := Kd.R_slice HO_8.out
                      subst eo55
                      obtain ⟨Ao56, co56, eo56⟩ := Kd.R_slice HO_9.out
                      subst eo56
                      go_wp2_with (first | ((with_reducible refine gate_callee (f := 17) rfl ?_); refine goesL_ (some 86) rfl rfl Tryd.func17 (by kernel_rfl) rfl #[.slice Ao55 t199.length co55, .slice Ao56 x9_2.length co56] rfl (by (try simp only [List.map_toArray, List.map_cons, List.map_nil]); first | done | rfl | (simp only [List.length_drop, List.length_take]; rfl)) ?_; (with_reducible refine (glacisref01_Texts.calls k3 _ _ t199 _ _ x9_2 t216 _ ?side1 ?side2 ?side3 ?side4 A42.out).mono ?_); (case side1 => repeat (first | exact (Kd.R_reads' HO_8.out).2.2 | (with_reducible refine Kd.C_alloc ?_ _) | (with_reducible refine Kd.C_drewN ?_ _) | (with_reducible refine Kd.C_drew ?_))); (case side2 => exact (Kd.R_reads' HO_8.out).2.1); (case side3 => repeat (first | exact (Kd.R_reads' HO_9.out).2.2 | (with_reducible refine Kd.C_alloc ?_ _) | (with_reducible refine Kd.C_drewN ?_ _) | (with_reducible refine Kd.C_drew ?_))); (case side4 => exact (Kd.R_reads' HO_9.out).2.1); rintro e w' ⟨rfl, ⟨nd, rfl⟩⟩; refine ⟨_, rfl, ?_⟩))
                      go_ret
                      exact ⟨by first | rfl | (simp [errW_none, errW_some] <;> rfl) | (simp [*, errW_none, errW_some] <;> rfl) | (simp [q_ne_nil]; done), by repeat (first | (with_reducible first | exact HB.out | apply below_alloc | apply pw_below_drewN | apply below_drew1) | exact HB.out)⟩

end Go.Proofs.YtebkibohejjkcaaDoor.Q
