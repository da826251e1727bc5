-- Laid by this seat's own driver (wip/tools/drive.py) out of the translation.
import Derived.Test.YtbhokhidlgkakaaDoorQx0
import Derived.Test.YtbhokhidlgkakaaDoorQx1
import Derived.Test.YtbhokhidlgkakaaDoorQx2
import Derived.Test.YtbhokhidlgkakaaDoorQx3
namespace Go.Proofs.YtbhokhidlgkakaaDoor.Q
open Go.RowKit Go.Proofs.YtbhokhidlgkakaaDoorW.PrintWords Go.Proofs.YtbhokhidlgkakaaDoorW.PrintLast Go.Proofs.YtbhokhidlgkakaaDoorW.PrintMore
attribute [local go_sem] max2_int min2_int max_two min_two max_three min_three max_four min_four   -- for this text's walks alone
set_option linter.unusedVariables false
set_option linter.unusedSimpArgs false

/-! ### glacislaw09_EmbedhdrOthers: function 8 -/
mutual
def glacislaw09_EmbedhdrOthers.j0 : Nat → List (S28) → Bool → Bool → ByteArray → ByteArray → Option (Bool)
  | 0, _, _, _, _, _ => none
  | k + 1, x0, x5, x35, x252000, x252001 => if x35 = true then (some x5) else (glacislaw09_EmbedhdrOthers.l0 k x0 x5 ([] : List (S28)) 0 x252000 x252001)
def glacislaw09_EmbedhdrOthers.l0 : Nat → List (S28) → Bool → List (S28) → Int → ByteArray → ByteArray → Option (Bool)
  | 0, _, _, _, _, _, _ => none
  | k + 1, x0, x5, x8, x9, x252000, x252001 => if x9 < (x0.length : Int) then (if 0 ≤ x9 then ((octet_Lower.f ((rd_T28 x0 x9).f0)).bind fun t268 => ((some (([(⟨x252000, x252001⟩ : S28), (⟨t268, (rd_T28 x0 x9).f1⟩ : S28)] : List (S28)) : List (S28))).bind fun y270 => (if x8.length + y270.length < 4398046511104 then (glacislaw09_EmbedhdrOthers.l0 k x0 x5 (x8 ++ y270) (wrap64 (x9 + 1)) x252000 x252001) else (none)))) else (none)) else (if (x8.length : Int) > 100 then (some x5) else (if x5 = true then ((embedhdr_Corp.f x0).bind fun t276 => ((embedhdr_Corp.f x8).bind fun t277 => (if t276 = t277 then ((embedhdr_Xfo.f x0).bind fun t278 => ((embedhdr_Xfo.f x8).bind fun t279 => (some (t278 == t279)))) else (some false)))) else (some false)))
end
def glacislaw09_EmbedhdrOthers.f (k : Nat) (l0 : List (S28)) (a1_0 : ByteArray) (a1_1 : ByteArray) : Option (Bool) := (glacislaw09_awake.f k).bind fun t252 => ((some (([] : List (S28)) : List (S28))).bind fun y253 => (if y253.length + l0.length < 4398046511104 then ((some (y253 ++ l0 : List (S28))).bind fun y256 => ((some (([(⟨a1_0, a1_1⟩ : S28)] : List (S28)) : List (S28))).bind fun y259 => (if y256.length + y259.length < 4398046511104 then ((glacislaw08_Few.f k (y256 ++ y259)).bind fun t265 => ((octet_Lower.f a1_0).bind fun t266 => (if t265 = true then (if (l0.length : Int) > 90 then (glacislaw09_EmbedhdrOthers.j0 k l0 t252 true a1_0 a1_1) else (if t266.toList = ([120, 45, 102, 114, 97, 109, 101, 45, 111, 112, 116, 105, 111, 110, 115] : List UInt8) then (glacislaw09_EmbedhdrOthers.j0 k l0 t252 true a1_0 a1_1) else (glacislaw09_EmbedhdrOthers.j0 k l0 t252 (t266.toList == ([99, 114, 111, 115, 115, 45, 111, 114, 105, 103, 105, 110, 45, 114, 101, 115, 111, 117, 114, 99, 101, 45, 112, 111, 108, 105, 99, 121] : List UInt8)) a1_0 a1_1))) else (glacislaw09_EmbedhdrOthers.j0 k l0 t252 true a1_0 a1_1)))) else (none)))) else (none)))
theorem glacislaw09_EmbedhdrOthers.mono_l : ∀ k, (∀ y0 y1 y2 y3 y4, LeO (glacislaw09_EmbedhdrOthers.j0 k y0 y1 y2 y3 y4) (glacislaw09_EmbedhdrOthers.j0 (k + 1) y0 y1 y2 y3 y4)) ∧ (∀ y0 y1 y2 y3 y4 y5, LeO (glacislaw09_EmbedhdrOthers.l0 k y0 y1 y2 y3 y4 y5) (glacislaw09_EmbedhdrOthers.l0 (k + 1) y0 y1 y2 y3 y4 y5))
  | 0 => ⟨fun _ _ _ _ _ r h => by simp [glacislaw09_EmbedhdrOthers.j0] at h, fun _ _ _ _ _ _ r h => by simp [glacislaw09_EmbedhdrOthers.l0] at h⟩
  | k + 1 => by
    obtain ⟨ih0, ih1⟩ := glacislaw09_EmbedhdrOthers.mono_l k
    refine ⟨?_, ?_⟩
    · intro y0 y1 y2 y3 y4
      unfold glacislaw09_EmbedhdrOthers.j0
      repeat' first
      | (with_reducible exact ih0 _ _ _ _ _)
      | (with_reducible exact ih1 _ _ _ _ _ _)
      | (with_reducible exact glacislaw08_Few.mono _ _)
      | (with_reducible exact glacislaw09_awake.mono _)
      | (with_reducible exact LeO.refl _)
      | (with_reducible exact LeO.none _)
      | (with_reducible refine LeO.ite ?_ ?_)
      | (with_reducible refine LeO.bind ?_ (fun _ => ?_))
      | exact ih0 _ _ _ _ _
      | exact ih1 _ _ _ _ _ _
      | exact glacislaw08_Few.mono _ _
      | exact glacislaw09_awake.mono _
      | exact LeO.none _
      | refine LeO.ite ?_ ?_
      | refine LeO.bind ?_ (fun _ => ?_)
    · intro y0 y1 y2 y3 y4 y5
      unfold glacislaw09_EmbedhdrOthers.l0
      repeat' first
      | (with_reducible exact ih0 _ _ _ _ _)
      | (with_reducible exact ih1 _ _ _ _ _ _)
      | (with_reducible exact glacislaw08_Few.mono _ _)
      | (with_reducible exact glacislaw09_awake.mono _)
      | (with_reducible exact LeO.refl _)
      | (with_reducible exact LeO.none _)
      | (with_reducible refine LeO.ite ?_ ?_)
      | (with_reducible refine LeO.bind ?_ (fun _ => ?_))
      | exact ih0 _ _ _ _ _
      | exact ih1 _ _ _ _ _ _
      | exact glacislaw08_Few.mono _ _
      | exact glacislaw09_awake.mono _
      | exact LeO.none _
      | refine LeO.ite ?_ ?_
      | refine LeO.bind ?_ (fun _ => ?_)
theorem glacislaw09_EmbedhdrOthers.mono : ∀ a0 a1 a2 k, LeO (glacislaw09_EmbedhdrOthers.f k a0 a1 a2) (glacislaw09_EmbedhdrOthers.f (k + 1) a0 a1 a2) := by
  intro a0 a1 a2 k
  obtain ⟨ih0, ih1⟩ := glacislaw09_EmbedhdrOthers.mono_l k
  unfold glacislaw09_EmbedhdrOthers.f
  repeat' first
      | (with_reducible exact ih0 _ _ _ _ _)
      | (with_reducible exact ih1 _ _ _ _ _ _)
      | (with_reducible exact glacislaw08_Few.mono _ _)
      | (with_reducible exact glacislaw09_awake.mono _)
      | (with_reducible exact LeO.refl _)
      | (with_reducible exact LeO.none _)
      | (with_reducible refine LeO.ite ?_ ?_)
      | (with_reducible refine LeO.bind ?_ (fun _ => ?_))
      | exact ih0 _ _ _ _ _
      | exact ih1 _ _ _ _ _ _
      | exact glacislaw08_Few.mono _ _
      | exact glacislaw09_awake.mono _
      | exact LeO.none _
      | refine LeO.ite ?_ ?_
      | refine LeO.bind ?_ (fun _ => ?_)
def glacislaw09_EmbedhdrOthers.T2 : Bool × List (List Nat × List Nat) := (true, [([], []), ([], []), ([0, 1], [0, 1]), ([], []), ([3], [3]), ([2, 4, 2], [2, 4]), ([5, 5], [5]), ([6, 6, 0, 1, 2, 3, 4, 5, 6], [6])])
def glacislaw09_EmbedhdrOthers.B2 : List Nat := [0, 0, 3, 0, 8, 31, 63, 127]
theorem glacislaw09_EmbedhdrOthers.tab2 : rtab .any (opsOf Tryd.f8 2) = glacislaw09_EmbedhdrOthers.T2 := by kernel_rfl
theorem glacislaw09_EmbedhdrOthers.bits2 : waitsOk glacislaw09_EmbedhdrOthers.T2.2 glacislaw09_EmbedhdrOthers.B2 = true := by kernel_rfl
def glacislaw09_EmbedhdrOthers.T10 : Bool × List (List Nat × List Nat) := (true, [([], []), ([], []), ([], []), ([], []), ([2, 3], [2, 3]), ([4], [4]), ([5], [5]), ([6], [6]), ([], []), ([], []), ([8, 9], [8, 9]), ([10], [10]), ([11], [11]), ([7, 12], [7, 12]), ([1, 13], [1, 13]), ([0, 14, 7], [0, 14]), ([15, 15, 0, 1, 2, 3, 4, 5, 6, 7, 8, 9, 10, 11, 12, 13, 14, 15], [0, 15])])
def glacislaw09_EmbedhdrOthers.B10 : List Nat := [0, 0, 0, 0, 12, 28, 60, 124, 0, 0, 768, 1792, 3840, 8188, 16382, 32767, 65535]
theorem glacislaw09_EmbedhdrOthers.tab10 : rtab .any (opsOf Tryd.f8 10) = glacislaw09_EmbedhdrOthers.T10 := by kernel_rfl
theorem glacislaw09_EmbedhdrOthers.bits10 : waitsOk glacislaw09_EmbedhdrOthers.T10.2 glacislaw09_EmbedhdrOthers.B10 = true := by kernel_rfl
set_option maxHeartbeats 8000000 in
set_option maxRecDepth 100000 in
theorem glacislaw09_EmbedhdrOthers.calls (k : Nat) (A0 : Option Addr) (c0 : Nat) (l0 : List (S28)) (a1_0 : ByteArray) (a1_1 : ByteArray) (r : Bool) (w : World) (hr0 : Kd.C k28 w A0 l0.length l0) (hc0 : l0.length ≤ c0) (h : glacislaw09_EmbedhdrOthers.f k l0 a1_0 a1_1 = some r) :
    Calls Tryd.prog 8 #[.slice A0 l0.length c0, .agg #[.string a1_0, .string a1_1]] w fun e w' => e = .returned (.bool r) ∧ Below w.heap.size w w' := by
  have hu28 := Tryd.underlying28
  have HR0 := Aside0.mk hr0
  have HC0 := Aside0.mk hc0
  clear hr0 hc0
  have HB := Aside0.mk (Below.refl w.heap.size w)
  have H : ((glacislaw09_awake.f k).bind fun t252 => ((some (([] : List (S28)) : List (S28))).bind fun y253 => (if y253.length + l0.length < 4398046511104 then ((some (y253 ++ l0 : List (S28))).bind fun y256 => ((some (([(⟨a1_0, a1_1⟩ : S28)] : List (S28)) : List (S28))).bind fun y259 => (if y256.length + y259.length < 4398046511104 then ((glacislaw08_Few.f k (y256 ++ y259)).bind fun t265 => ((octet_Lower.f a1_0).bind fun t266 => (if t265 = true then (if (l0.length : Int) > 90 then (glacislaw09_EmbedhdrOthers.j0 k l0 t252 true a1_0 a1_1) else (if t266.toList = ([120, 45, 102, 114, 97, 109, 101, 45, 111, 112, 116, 105, 111, 110, 115] : List UInt8) then (glacislaw09_EmbedhdrOthers.j0 k l0 t252 true a1_0 a1_1) else (glacislaw09_EmbedhdrOthers.j0 k l0 t252 (t266.toList == ([99, 114, 111, 115, 115, 45, 111, 114, 105, 103, 105, 110, 45, 114, 101, 115, 111, 117, 114, 99, 101, 45, 112, 111, 108, 105, 99, 121] : List UInt8)) a1_0 a1_1))) else (glacislaw09_EmbedhdrOthers.j0 k l0 t252 true a1_0 a1_1)))) else (none)))) else (none)))) = some r := h
  clear h
  replace H := Option.bind_eq_some_iff.mp H
  obtain ⟨t252, A30, H⟩ := H
  replace H : ((some (([] : List (S28)) : List (S28))).bind fun y253 => (if y253.length + l0.length < 4398046511104 then ((some (y253 ++ l0 : List (S28))).bind fun y256 => ((some (([(⟨a1_0, a1_1⟩ : S28)] : List (S28)) : List (S28))).bind fun y259 => (if y256.length + y259.length < 4398046511104 then ((glacislaw08_Few.f k (y256 ++ y259)).bind fun t265 => ((octet_Lower.f a1_0).bind fun t266 => (if t265 = true then (if (l0.length : Int) > 90 then (glacislaw09_EmbedhdrOthers.j0 k l0 t252 true a1_0 a1_1) else (if t266.toList = ([120, 45, 102, 114, 97, 109, 101, 45, 111, 112, 116, 105, 111, 110, 115] : List UInt8) then (glacislaw09_EmbedhdrOthers.j0 k l0 t252 true a1_0 a1_1) else (glacislaw09_EmbedhdrOthers.j0 k l0 t252 (t266.toList == ([99, 114, 111, 115, 115, 45, 111, 114, 105, 103, 105, 110, 45, 114, 101, 115, 111, 117, 114, 99, 101, 45, 112, 111, 108, 105, 99, 121] : List UInt8)) a1_0 a1_1))) else (glacislaw09_EmbedhdrOthers.j0 k l0 t252 true a1_0 a1_1)))) else (none)))) else (none))) = some r := H
  have A3 := Aside0.mk A30
  clear A30
  obtain ⟨y253, hy253⟩ : ∃ y_ : List (S28), y_ = (([] : List (S28))) := ⟨_, rfl⟩
  replace H : (if y253.length + l0.length < 4398046511104 then ((some (y253 ++ l0 : List (S28))).bind fun y256 => ((some (([(⟨a1_0, a1_1⟩ : S28)] : List (S28)) : List (S28))).bind fun y259 => (if y256.length + y259.length < 4398046511104 then ((glacislaw08_Few.f k (y256 ++ y259)).bind fun t265 => ((octet_Lower.f a1_0).bind fun t266 => (if t265 = true then (if (l0.length : Int) > 90 then (glacislaw09_EmbedhdrOthers.j0 k l0 t252 true a1_0 a1_1) else (if t266.toList = ([120, 45, 102, 114, 97, 109, 101, 45, 111, 112, 116, 105, 111, 110, 115] : List UInt8) then (glacislaw09_EmbedhdrOthers.j0 k l0 t252 true a1_0 a1_1) else (glacislaw09_EmbedhdrOthers.j0 k l0 t252 (t266.toList == ([99, 114, 111, 115, 115, 45, 111, 114, 105, 103, 105, 110, 45, 114, 101, 115, 111, 117, 114, 99, 101, 45, 112, 111, 108, 105, 99, 121] : List UInt8)) a1_0 a1_1))) else (glacislaw09_EmbedhdrOthers.j0 k l0 t252 true a1_0 a1_1)))) else (none)))) else (none)) = some r := by first | (rw [hy253]; with_reducible exact H) | (have H2_ := (Option.bind_some _ _).symm.trans H; rw [hy253]; with_reducible exact H2_) | (have H2_ := (Option.bind_some _ _).symm.trans H; with_reducible exact H2_) | with_reducible exact H | (rw [hy253]; exact H) | exact H
  have Ny253 := Aside0.mk hy253
  clear hy253
  by_cases c4 : y253.length + l0.length < 4398046511104
  · rw [if_pos c4] at H
    have LMc4 := Aside0.mk c4
    clear c4
    obtain ⟨y256, hy256⟩ : ∃ y_ : List (S28), y_ = (y253 ++ l0) := ⟨_, rfl⟩
    replace H : ((some (([(⟨a1_0, a1_1⟩ : S28)] : List (S28)) : List (S28))).bind fun y259 => (if y256.length + y259.length < 4398046511104 then ((glacislaw08_Few.f k (y256 ++ y259)).bind fun t265 => ((octet_Lower.f a1_0).bind fun t266 => (if t265 = true then (if (l0.length : Int) > 90 then (glacislaw09_EmbedhdrOthers.j0 k l0 t252 true a1_0 a1_1) else (if t266.toList = ([120, 45, 102, 114, 97, 109, 101, 45, 111, 112, 116, 105, 111, 110, 115] : List UInt8) then (glacislaw09_EmbedhdrOthers.j0 k l0 t252 true a1_0 a1_1) else (glacislaw09_EmbedhdrOthers.j0 k l0 t252 (t266.toList == ([99, 114, 111, 115, 115, 45, 111, 114, 105, 103, 105, 110, 45, 114, 101, 115, 111, 117, 114, 99, 101, 45, 112, 111, 108, 105, 99, 121] : List UInt8)) a1_0 a1_1))) else (glacislaw09_EmbedhdrOthers.j0 k l0 t252 true a1_0 a1_1)))) else (none))) = some r := by first | (rw [hy256]; with_reducible exact H) | (have H2_ := (Option.bind_some _ _).symm.trans H; rw [hy256]; with_reducible exact H2_) | (have H2_ := (Option.bind_some _ _).symm.trans H; with_reducible exact H2_) | with_reducible exact H | (rw [hy256]; exact H) | exact H
    have Ny256 := Aside0.mk hy256
    clear hy256
    obtain ⟨y259, hy259⟩ : ∃ y_ : List (S28), y_ = (([(⟨a1_0, a1_1⟩ : S28)] : List (S28))) := ⟨_, rfl⟩
    replace H : (if y256.length + y259.length < 4398046511104 then ((glacislaw08_Few.f k (y256 ++ y259)).bind fun t265 => ((octet_Lower.f a1_0).bind fun t266 => (if t265 = true then (if (l0.length : Int) > 90 then (glacislaw09_EmbedhdrOthers.j0 k l0 t252 true a1_0 a1_1) else (if t266.toList = ([120, 45, 102, 114, 97, 109, 101, 45, 111, 112, 116, 105, 111, 110, 115] : List UInt8) then (glacislaw09_EmbedhdrOthers.j0 k l0 t252 true a1_0 a1_1) else (glacislaw09_EmbedhdrOthers.j0 k l0 t252 (t266.toList == ([99, 114, 111, 115, 115, 45, 111, 114, 105, 103, 105, 110, 45, 114, 101, 115, 111, 117, 114, 99, 101, 45, 112, 111, 108, 105, 99, 121] : List UInt8)) a1_0 a1_1))) else (glacislaw09_EmbedhdrOthers.j0 k l0 t252 true a1_0 a1_1)))) else (none)) = some r := by first | (rw [hy259]; with_reducible exact H) | (have H2_ := (Option.bind_some _ _).symm.trans H; rw [hy259]; with_reducible exact H2_) | (have H2_ := (Option.bind_some _ _).symm.trans H; with_reducible exact H2_) | with_reducible exact H | (rw [hy259]; exact H) | exact H
    have Ny259 := Aside0.mk hy259
    clear hy259
    by_cases c5 : y256.length + y259.length < 4398046511104
    · rw [if_pos c5] at H
      have LMc5 := Aside0.mk c5
      clear c5
      obtain ⟨y262, hy262⟩ : ∃ y_ : List (S28), y_ = (y256 ++ y259) := ⟨_, rfl⟩
      replace H : ((glacislaw08_Few.f k y262).bind fun t265 => ((octet_Lower.f a1_0).bind fun t266 => (if t265 = true then (if (l0.length : Int) > 90 then (glacislaw09_EmbedhdrOthers.j0 k l0 t252 true a1_0 a1_1) else (if t266.toList = ([120, 45, 102, 114, 97, 109, 101, 45, 111, 112, 116, 105, 111, 110, 115] : List UInt8) then (glacislaw09_EmbedhdrOthers.j0 k l0 t252 true a1_0 a1_1) else (glacislaw09_EmbedhdrOthers.j0 k l0 t252 (t266.toList == ([99, 114, 111, 115, 115, 45, 111, 114, 105, 103, 105, 110, 45, 114, 101, 115, 111, 117, 114, 99, 101, 45, 112, 111, 108, 105, 99, 121] : List UInt8)) a1_0 a1_1))) else (glacislaw09_EmbedhdrOthers.j0 k l0 t252 true a1_0 a1_1)))) = some r := by first | (rw [hy262]; with_reducible exact H) | (have H2_ := (Option.bind_some _ _).symm.trans H; rw [hy262]; with_reducible exact H2_) | (have H2_ := (Option.bind_some _ _).symm.trans H; with_reducible exact H2_) | with_reducible exact H | (rw [hy262]; exact H) | exact H
      have Ny262 := Aside0.mk hy262
      clear hy262
      replace H := Option.bind_eq_some_iff.mp H
      obtain ⟨t265, A60, H⟩ := H
      replace H : ((octet_Lower.f a1_0).bind fun t266 => (if t265 = true then (if (l0.length : Int) > 90 then (glacislaw09_EmbedhdrOthers.j0 k l0 t252 true a1_0 a1_1) else (if t266.toList = ([120, 45, 102, 114, 97, 109, 101, 45, 111, 112, 116, 105, 111, 110, 115] : List UInt8) then (glacislaw09_EmbedhdrOthers.j0 k l0 t252 true a1_0 a1_1) else (glacislaw09_EmbedhdrOthers.j0 k l0 t252 (t266.toList == ([99, 114, 111, 115, 115, 45, 111, 114, 105, 103, 105, 110, 45, 114, 101, 115, 111, 117, 114, 99, 101, 45, 112, 111, 108, 105, 99, 121] : List UInt8)) a1_0 a1_1))) else (glacislaw09_EmbedhdrOthers.j0 k l0 t252 true a1_0 a1_1))) = some r := H
      have A6 := Aside0.mk A60
      clear A60
      replace H := Option.bind_eq_some_iff.mp H
      obtain ⟨t266, A70, H⟩ := H
      replace H : (if t265 = true then (if (l0.length : Int) > 90 then (glacislaw09_EmbedhdrOthers.j0 k l0 t252 true a1_0 a1_1) else (if t266.toList = ([120, 45, 102, 114, 97, 109, 101, 45, 111, 112, 116, 105, 111, 110, 115] : List UInt8) then (glacislaw09_EmbedhdrOthers.j0 k l0 t252 true a1_0 a1_1) else (glacislaw09_EmbedhdrOthers.j0 k l0 t252 (t266.toList == ([99, 114, 111, 115, 115, 45, 111, 114, 105, 103, 105, 110, 45, 114, 101, 115, 111, 117, 114, 99, 101, 45, 112, 111, 108, 105, 99, 121] : List UInt8)) a1_0 a1_1))) else (glacislaw09_EmbedhdrOthers.j0 k l0 t252 true a1_0 a1_1)) = some r := H
      have A7 := Aside0.mk A70
      clear A70
      have HC8 := Aside0.mk H
      clear H
      go_enter Tryd.func8, Tryd.ntmps8
      try go_wp2_with (first | ((with_reducible refine gate_dst (N := 3) rfl ?_); (try (refine gate_guard (by rfl) ?_; dsimp only)); refine box_event ?hg (N := 3) ?hd (cs := #[.string a1_0, .string a1_1]) (t := 28) ?hr ?_; (case hd => rfl); (case hg => rfl); (case hr => first | (go_simp; done) | (go_simp; rfl)); intro gb251 hg w9 hbox hb; have n0_ := Aside0.mk (below_step (by repeat (first | (with_reducible first | exact HB.out | apply below_alloc | apply pw_below_drewN | apply below_drew1) | exact HB.out)) hb); have n1_ := Aside0.mk (hbox); have n2_ := Aside0.mk ((by rw [hg]; exact (below_size (by repeat (first | (with_reducible first | exact HB.out | apply below_alloc | apply pw_below_drewN | apply below_drew1) | exact HB.out))) : w.heap.size ≤ gb251)); have n3_ := Aside0.mk ((by rw [hg]; exact (below_size (by repeat (first | (with_reducible first | exact HB.out | apply below_alloc | apply pw_below_drewN | apply below_drew1) | exact HB.out))) : w.heap.size ≤ gb251)); clear HB; have HB := n0_; have BK251 := n1_; have GW251 := n2_; have GE251 := n3_; clear n0_ n1_ n2_ n3_; clear hb hbox hg) | ((with_reducible refine gate_callee (f := 9) rfl ?_); refine goesL_ (some 10) rfl rfl Tryd.func9 (by kernel_rfl) rfl #[] rfl (by (try simp only [List.map_toArray, List.map_cons, List.map_nil]); first | done | rfl | (simp only [List.length_drop, List.length_take]; rfl)) ?_; (with_reducible refine (glacislaw09_awake.calls k  t252 _ A3.out).mono ?_); rintro e w10 ⟨rfl, hb⟩; refine ⟨_, rfl, ?_⟩; have n0_ := Aside0.mk (blk_below (g := gb251) (o := .cells #[.string a1_0, .string a1_1] 28 (0, 0)) (by (with_reducible repeat (first | refine blk_drewN ?_ _ | refine blk_drew ?_ | refine blk_alloc ?_ _)); exact BK251.out) hb); have n1_ := Aside0.mk (below_step (by repeat (first | (with_reducible first | exact HB.out | apply below_alloc | apply pw_below_drewN | apply below_drew1 | refine below_set ?_ GE251.out) | exact HB.out)) hb); clear BK251; clear HB; have BK251 := n0_; have HB := n1_; clear n0_ n1_; (try clear hb); (try clear hb2); (try clear hk); (try clear hi)))
      have n0_ := Aside0.mk (blk_drew BK251.out)
      have n1_ := Aside0.mk (below_drew1 HB.out)
      clear BK251
      clear HB
      have BK251 := n0_
      have HB := n1_
      clear n0_ n1_
      refine start_ (n := 8) (S := fun w' => w'.cell? ⟨gb251, 0, none⟩ = some (.string a1_0) ∧ w'.cell? ⟨gb251, 1, none⟩ = some (.string a1_1)) (ds := []) #[false, false, false, false, false, false, false, false] (by kernel_rfl) rfl rfl ⟨(blk_cell BK251.out 0).trans rfl, (blk_cell BK251.out 1).trans rfl⟩ (fun hHeld => ?_); refine with_tabW glacislaw09_EmbedhdrOthers.tab2 glacislaw09_EmbedhdrOthers.bits2 (fun HT_ HW_ => ?_)
      generalize w10.drew = w11 at BK251 HB hHeld ⊢
      refine pure_ (i := 1) (N := some 12) (v := ?_) (a' := ?_) #[false, true, false, false, false, false, false, false] rfl rfl (any_of HT_.out (by kernel_rfl)) (fun _ _ _ h => h) (Or.inl ⟨by rfl, ?_⟩) ?_ ?_
      rotate_left
      · intro w'
        go_simp
        with_reducible rfl
      rotate_left
      · simp only [Act.put, List.setIfInBounds_toArray, List.set_cons_zero, List.set_cons_succ, i64_w, i32_w]
        rfl
      refine take_ (i := 3) (N := some 14) (v := ?_) (a' := ?_) #[false, true, false, true, false, false, false, false] rfl rfl (take_ofW HT_.out HW_.out (by kernel_rfl)) (fun _ _ _ h => h) (Or.inl ⟨by rfl, ?_⟩) hHeld ?_ ?_
      rotate_left
      · rintro w' ⟨s0, s1⟩
        go_simp
        with_reducible rfl
      rotate_left
      · simp only [Act.put, List.setIfInBounds_toArray, List.set_cons_zero, List.set_cons_succ, i64_w, i32_w]
        rfl
      refine join_ (σ := Value × Value × Value) 3 #[true, true, true, true, true, false, false, false] (fun s_ => [(11, s_.1), (13, s_.2.1), (15, s_.2.2)]) (fun s_ w' => (w'.cell? ⟨gb251, 0, none⟩ = some (.string a1_0) ∧ w'.cell? ⟨gb251, 1, none⟩ = some (.string a1_1)) ∧ (Kd.R k28 28 w' w.heap.size (fun k_ => some k_ ≠ (s_.2.2 : Value).ownBlock ∧ k_ ≠ gb251) s_.2.1 y256) ∧ (Kd.R k28 28 w' w.heap.size (fun k_ => some k_ ≠ (s_.2.1 : Value).ownBlock ∧ k_ ≠ gb251) s_.2.2 y259) ∧ (w'.heap[gb251]? = some (.cells #[.string a1_0, .string a1_1] 28 (0, 0))) ∧ (Below w.heap.size w w')) ?_ ?_
      rotate_left
      · intro hCont
        refine two_ (i := 0) (j := 4) (Ni := some 11) (Nj := some 15) #[true, true, false, true, false, false, false, false] #[false, true, false, true, true, false, false, false] rfl rfl rfl rfl (two_of HT_.out (by kernel_rfl)) (by decide) (by decide) (fun K hK => ?_) (fun K hK => ?_)
        · skip
          refine Kd.R_lit_step k28 _ 28 ?hg (N := 11) ?hd (xs := ([] : List (S28))) (inner := []) (ok := fun _ => True) (okp := fun _ => True) ?hr ?hp (fun _ hk => hk) trivial (Below.refl _ _) (Nat.le_refl _) (by simp) ?_; (case hd => rfl); (case hg => rfl); (case hr => first | (go_simp; done) | (go_simp; rfl)); (case hp => exact (Reps.none _ _))
          intro v254 w12 ho13 hb hg_ hnew_
          clear hg_ hnew_
          (first | rw [← Ny253.out] at ho13 | (simp only [Int.reduceToNat] at ho13; rw [← Ny253.out] at ho13))
          have n0_ := Aside0.mk (Kd.R_lower (Kd.R_newB ho13 (g := gb251) (o := .cells #[.string a1_0, .string a1_1] 28 (0, 0)) (by (with_reducible repeat (first | refine blk_drewN ?_ _ | refine blk_drew ?_ | refine blk_alloc ?_ _)); exact BK251.out)) (below_size (by repeat (first | (with_reducible first | exact HB.out | apply below_alloc | apply pw_below_drewN | apply below_drew1 | refine below_set ?_ GE251.out) | exact HB.out))))
          have n1_ := Aside0.mk (blk_below (g := gb251) (o := .cells #[.string a1_0, .string a1_1] 28 (0, 0)) (by (with_reducible repeat (first | refine blk_drewN ?_ _ | refine blk_drew ?_ | refine blk_alloc ?_ _)); exact BK251.out) hb)
          have n2_ := Aside0.mk (below_step (by repeat (first | (with_reducible first | exact HB.out | apply below_alloc | apply pw_below_drewN | apply below_drew1 | refine below_set ?_ GE251.out) | exact HB.out)) hb)
          clear BK251
          clear HB
          have HO255 := n0_
          have BK251 := n1_
          have HB := n2_
          clear n0_ n1_ n2_
          clear hb ho13
          refine hK.out _ _ ⟨(blk_cell BK251.out 0).trans rfl, (blk_cell BK251.out 1).trans rfl⟩ (fun hHeld => ?_)
          clear hK K
          refine norm_ (a' := ?_) ?_ ?_
          rotate_left
          · show Act.put _ (some 11) _ = _
            simp only [Act.put, List.setIfInBounds_toArray, List.set_cons_zero, List.set_cons_succ, i64_w, i32_w]
            rfl
          refine two_ (i := 2) (j := 4) (Ni := some 13) (Nj := some 15) #[true, true, true, true, false, false, false, false] #[true, true, false, true, true, false, false, false] rfl rfl rfl rfl (two_of HT_.out (by kernel_rfl)) (by decide) (by decide) (fun K hK => ?_) (fun K hK => ?_)
          · skip
            refine Kd.R_append_rows_step k28 (w0 := w) w.heap.size (by rfl) (.tmp 11) (.tmp 12) 23 28 (.agg #[(.string ⟨#[]⟩), (.string ⟨#[]⟩)]) 32 rfl Tryd.underlying23 info28 rfl (by decide) (by omega) v254 y253 l0 _ _ _ (fun k_ => k_ ≠ gb251) (fun _ => False) rfl rfl ?aO ?aR (fun _ _ h => h) (fun _ h => h.elim) ?aF ?aB ?aS ?aL ?_
            (case aR => repeat (first | exact (Kd.C_below HR0.out HB.out) | (with_reducible refine Kd.C_alloc ?_ _) | (with_reducible refine Kd.C_drewN ?_ _) | (with_reducible refine Kd.C_drew ?_)))
            (case aB => exact (by repeat (first | (with_reducible first | exact HB.out | apply below_alloc | apply pw_below_drewN | apply below_drew1 | refine below_set ?_ GE251.out) | exact HB.out)))
            (case aF => exact (fun k_ hk => Kd.freshB (g := gb251) (o := .cells #[.string a1_0, .string a1_1] 28 (0, 0)) (by (with_reducible repeat (first | refine blk_drewN ?_ _ | refine blk_drew ?_ | refine blk_alloc ?_ _)); exact BK251.out) k_ hk))
            (case aO => exact (by (with_reducible repeat (first | apply Kd.R_alloc | apply Kd.R_drewN | apply Kd.R_drew)); exact Kd.R_mono HO255.out (fun _ hk => hk.2)))
            (case aS => exact (below_size (by repeat (first | (with_reducible first | exact HB.out | apply below_alloc | apply pw_below_drewN | apply below_drew1 | refine below_set ?_ GE251.out) | exact HB.out))))
            (case aL => have := LMc4.out; omega)
            intro v257 w14 ho hb hg hat
            rw [← Ny256.out] at ho
            have n0_ := Aside0.mk (blk_grown (g := gb251) (o := .cells #[.string a1_0, .string a1_1] 28 (0, 0)) (by (with_reducible repeat (first | refine blk_drewN ?_ _ | refine blk_drew ?_ | refine blk_alloc ?_ _)); exact BK251.out) hg (Kd.R_away HO255.out (fun _ hk => hk.2)))
            have n1_ := Aside0.mk (hb)
            have n2_ := Aside0.mk (ho)
            clear BK251
            clear HB
            clear HO255
            have BK251 := n0_
            have HB := n1_
            have HO258 := n2_
            clear n0_ n1_ n2_
            clear ho hb hg hat
            refine hK.out _ _ ⟨(blk_cell BK251.out 0).trans rfl, (blk_cell BK251.out 1).trans rfl⟩ (fun hHeld => ?_)
            clear hK K
            refine norm_ (a' := ?_) ?_ ?_
            rotate_left
            · show Act.put _ (some 13) _ = _
              simp only [Act.put, List.setIfInBounds_toArray, List.set_cons_zero, List.set_cons_succ, i64_w, i32_w]
              rfl
            refine one_ (i := 4) (N := some 15) #[true, true, true, true, true, false, false, false] rfl rfl (one_of HT_.out (by kernel_rfl)) (by decide) (fun K hK => ?_)
            refine Kd.R_lit_step k28 _ 28 ?hg (N := 15) ?hd (xs := ([(⟨a1_0, a1_1⟩ : S28)] : List (S28))) (inner := [.string a1_0, .string a1_1]) (ok := fun _ => True) (okp := fun _ => True) ?hr ?hp (fun _ hk => hk) trivial (Below.refl _ _) (Nat.le_refl _) (by simp) ?_; (case hd => rfl); (case hg => rfl); (case hr => first | (go_simp; done) | (go_simp; rfl)); (case hp => exact (Reps.c2 (show Kd.M k28 _ _ _ (⟨a1_0, a1_1⟩ : S28) [.string a1_0, .string a1_1] from (k28_mkM _ _ _ (⟨a1_0, a1_1⟩ : S28) )) (Reps.none _ _)))
            intro v260 w15 ho16 hb hg_ hnew_
            clear hg_ hnew_
            (first | rw [← Ny259.out] at ho16 | (simp only [Int.reduceToNat] at ho16; rw [← Ny259.out] at ho16))
            have n0_ := Aside0.mk (Kd.R_elder' (by (with_reducible repeat (first | apply Kd.R_alloc | apply Kd.R_drewN | apply Kd.R_drew)); exact HO258.out) (Kd.R_base ho16) hb)
            have n1_ := Aside0.mk (Kd.R_lower (Kd.R_newB (Kd.R_new' ho16 (Kd.R_lt (by (with_reducible repeat (first | apply Kd.R_alloc | apply Kd.R_drewN | apply Kd.R_drew)); exact HO258.out))) (g := gb251) (o := .cells #[.string a1_0, .string a1_1] 28 (0, 0)) (by (with_reducible repeat (first | refine blk_drewN ?_ _ | refine blk_drew ?_ | refine blk_alloc ?_ _)); exact BK251.out)) (below_size (by repeat (first | (with_reducible first | exact HB.out | apply below_alloc | apply pw_below_drewN | apply below_drew1 | refine below_set ?_ GE251.out) | exact HB.out))))
            have n2_ := Aside0.mk (blk_below (g := gb251) (o := .cells #[.string a1_0, .string a1_1] 28 (0, 0)) (by (with_reducible repeat (first | refine blk_drewN ?_ _ | refine blk_drew ?_ | refine blk_alloc ?_ _)); exact BK251.out) hb)
            have n3_ := Aside0.mk (below_step (by repeat (first | (with_reducible first | exact HB.out | apply below_alloc | apply pw_below_drewN | apply below_drew1 | refine below_set ?_ GE251.out) | exact HB.out)) hb)
            clear HO258
            clear BK251
            clear HB
            have HO258 := n0_
            have HO261 := n1_
            have BK251 := n2_
            have HB := n3_
            clear n0_ n1_ n2_ n3_
            clear hb ho16
            refine hK.out _ _ ⟨(blk_cell BK251.out 0).trans rfl, (blk_cell BK251.out 1).trans rfl⟩ (fun hHeld => ?_)
            clear hK K
            refine norm_ (a' := ?_) ?_ ?_
            rotate_left
            · show Act.put _ (some 15) _ = _
              simp only [Act.put, List.setIfInBounds_toArray, List.set_cons_zero, List.set_cons_succ, i64_w, i32_w]
              rfl
            exact norm_ (by simp only [putAll, Act.put, List.setIfInBounds_toArray, List.set_cons_zero, List.set_cons_succ]) (hCont (v254, v257, v260) _ ⟨hHeld, (by (with_reducible repeat (first | apply Kd.R_alloc | apply Kd.R_drewN | apply Kd.R_drew)); exact Kd.R_mono HO258.out (fun _ hk => ⟨hk.2, hk.1⟩)), (by (with_reducible repeat (first | apply Kd.R_alloc | apply Kd.R_drewN | apply Kd.R_drew)); exact Kd.R_mono HO261.out (fun _ hk => ⟨hk.1.2, hk.2⟩)), (by (with_reducible repeat (first | refine blk_drewN ?_ _ | refine blk_drew ?_ | refine blk_alloc ?_ _)); exact BK251.out), (by repeat (first | (with_reducible first | exact HB.out | apply below_alloc | apply pw_below_drewN | apply below_drew1 | refine below_set ?_ GE251.out) | exact HB.out))⟩)
          · skip
            refine Kd.R_lit_step k28 _ 28 ?hg (N := 15) ?hd (xs := ([(⟨a1_0, a1_1⟩ : S28)] : List (S28))) (inner := [.string a1_0, .string a1_1]) (ok := fun _ => True) (okp := fun _ => True) ?hr ?hp (fun _ hk => hk) trivial (Below.refl _ _) (Nat.le_refl _) (by simp) ?_; (case hd => rfl); (case hg => rfl); (case hr => first | (go_simp; done) | (go_simp; rfl)); (case hp => exact (Reps.c2 (show Kd.M k28 _ _ _ (⟨a1_0, a1_1⟩ : S28) [.string a1_0, .string a1_1] from (k28_mkM _ _ _ (⟨a1_0, a1_1⟩ : S28) )) (Reps.none _ _)))
            intro v260 w14 ho15 hb hg_ hnew_
            clear hg_ hnew_
            (first | rw [← Ny259.out] at ho15 | (simp only [Int.reduceToNat] at ho15; rw [← Ny259.out] at ho15))
            have n0_ := Aside0.mk (Kd.R_elder' (by (with_reducible repeat (first | apply Kd.R_alloc | apply Kd.R_drewN | apply Kd.R_drew)); exact HO255.out) (Kd.R_base ho15) hb)
            have n1_ := Aside0.mk (Kd.R_lower (Kd.R_newB (Kd.R_new' ho15 (Kd.R_lt (by (with_reducible repeat (first | apply Kd.R_alloc | apply Kd.R_drewN | apply Kd.R_drew)); exact HO255.out))) (g := gb251) (o := .cells #[.string a1_0, .string a1_1] 28 (0, 0)) (by (with_reducible repeat (first | refine blk_drewN ?_ _ | refine blk_drew ?_ | refine blk_alloc ?_ _)); exact BK251.out)) (below_size (by repeat (first | (with_reducible first | exact HB.out | apply below_alloc | apply pw_below_drewN | apply below_drew1 | refine below_set ?_ GE251.out) | exact HB.out))))
            have n2_ := Aside0.mk (blk_below (g := gb251) (o := .cells #[.string a1_0, .string a1_1] 28 (0, 0)) (by (with_reducible repeat (first | refine blk_drewN ?_ _ | refine blk_drew ?_ | refine blk_alloc ?_ _)); exact BK251.out) hb)
            have n3_ := Aside0.mk (below_step (by repeat (first | (with_reducible first | exact HB.out | apply below_alloc | apply pw_below_drewN | apply below_drew1 | refine below_set ?_ GE251.out) | exact HB.out)) hb)
            clear HO255
            clear BK251
            clear HB
            have HO255 := n0_
            have HO261 := n1_
            have BK251 := n2_
            have HB := n3_
            clear n0_ n1_ n2_ n3_
            clear hb ho15
            refine hK.out _ _ ⟨(blk_cell BK251.out 0).trans rfl, (blk_cell BK251.out 1).trans rfl⟩ (fun hHeld => ?_)
            clear hK K
            refine norm_ (a' := ?_) ?_ ?_
            rotate_left
            · show Act.put _ (some 15) _ = _
              simp only [Act.put, List.setIfInBounds_toArray, List.set_cons_zero, List.set_cons_succ, i64_w, i32_w]
              rfl
            refine one_ (i := 2) (N := some 13) #[true, true, true, true, true, false, false, false] rfl rfl (one_of HT_.out (by kernel_rfl)) (by decide) (fun K hK => ?_)
            refine Kd.R_append_rows_step k28 (w0 := w) w.heap.size (by rfl) (.tmp 11) (.tmp 12) 23 28 (.agg #[(.string ⟨#[]⟩), (.string ⟨#[]⟩)]) 32 rfl Tryd.underlying23 info28 rfl (by decide) (by omega) v254 y253 l0 _ _ _ (fun k_ => some k_ ≠ (v260 : Value).ownBlock ∧ k_ ≠ gb251) (fun _ => False) rfl rfl ?aO ?aR (fun _ _ h => h) (fun _ h => h.elim) ?aF ?aB ?aS ?aL ?_
            (case aR => repeat (first | exact (Kd.C_below HR0.out HB.out) | (with_reducible refine Kd.C_alloc ?_ _) | (with_reducible refine Kd.C_drewN ?_ _) | (with_reducible refine Kd.C_drew ?_)))
            (case aB => exact (by repeat (first | (with_reducible first | exact HB.out | apply below_alloc | apply pw_below_drewN | apply below_drew1 | refine below_set ?_ GE251.out) | exact HB.out)))
            (case aF => exact (fun k_ hk => ⟨Kd.fresh' (Kd.R_lt (by (with_reducible repeat (first | apply Kd.R_alloc | apply Kd.R_drewN | apply Kd.R_drew)); exact HO261.out)) k_ hk, Kd.freshB (g := gb251) (o := .cells #[.string a1_0, .string a1_1] 28 (0, 0)) (by (with_reducible repeat (first | refine blk_drewN ?_ _ | refine blk_drew ?_ | refine blk_alloc ?_ _)); exact BK251.out) k_ hk⟩))
            (case aO => exact (by (with_reducible repeat (first | apply Kd.R_alloc | apply Kd.R_drewN | apply Kd.R_drew)); exact Kd.R_mono HO255.out (fun _ hk => ⟨hk.2, hk.1.2⟩)))
            (case aS => exact (below_size (by repeat (first | (with_reducible first | exact HB.out | apply below_alloc | apply pw_below_drewN | apply below_drew1 | refine below_set ?_ GE251.out) | exact HB.out))))
            (case aL => have := LMc4.out; omega)
            intro v257 w16 ho hb hg hat
            rw [← Ny256.out] at ho
            have n0_ := Aside0.mk (blk_grown (g := gb251) (o := .cells #[.string a1_0, .string a1_1] 28 (0, 0)) (by (with_reducible repeat (first | refine blk_drewN ?_ _ | refine blk_drew ?_ | refine blk_alloc ?_ _)); exact BK251.out) hg (Kd.R_away HO255.out (fun _ hk => hk.1.2)))
            have n1_ := Aside0.mk (Kd.R_after (ok := (fun k_ => k_ ≠ gb251)) (by (with_reducible repeat (first | apply Kd.R_alloc | apply Kd.R_drewN | apply Kd.R_drew)); exact Kd.R_mono HO261.out (fun _ hk => ⟨hk.2, hk.1.2⟩)) hg hat)
            have n2_ := Aside0.mk (hb)
            have n3_ := Aside0.mk (ho)
            clear BK251
            clear HO261
            clear HB
            clear HO255
            have BK251 := n0_
            have HO261 := n1_
            have HB := n2_
            have HO258 := n3_
            clear n0_ n1_ n2_ n3_
            clear ho hb hg hat
            refine hK.out _ _ ⟨(blk_cell BK251.out 0).trans rfl, (blk_cell BK251.out 1).trans rfl⟩ (fun hHeld => ?_)
            clear hK K
            refine norm_ (a' := ?_) ?_ ?_
            rotate_left
            · show Act.put _ (some 13) _ = _
              simp only [Act.put, List.setIfInBounds_toArray, List.set_cons_zero, List.set_cons_succ, i64_w, i32_w]
              rfl
            exact norm_ (by simp only [putAll, Act.put, List.setIfInBounds_toArray, List.set_cons_zero, List.set_cons_succ]) (hCont (v254, v257, v260) _ ⟨hHeld, (by (with_reducible repeat (first | apply Kd.R_alloc | apply Kd.R_drewN | apply Kd.R_drew)); exact HO258.out), (by (with_reducible repeat (first | apply Kd.R_alloc | apply Kd.R_drewN | apply Kd.R_drew)); exact Kd.R_mono HO261.out (fun _ hk => ⟨hk.2, hk.1⟩)), (by (with_reducible repeat (first | refine blk_drewN ?_ _ | refine blk_drew ?_ | refine blk_alloc ?_ _)); exact BK251.out), (by repeat (first | (with_reducible first | exact HB.out | apply below_alloc | apply pw_below_drewN | apply below_drew1 | refine below_set ?_ GE251.out) | exact HB.out))⟩)
        · skip
          refine Kd.R_lit_step k28 _ 28 ?hg (N := 15) ?hd (xs := ([(⟨a1_0, a1_1⟩ : S28)] : List (S28))) (inner := [.string a1_0, .string a1_1]) (ok := fun _ => True) (okp := fun _ => True) ?hr ?hp (fun _ hk => hk) trivial (Below.refl _ _) (Nat.le_refl _) (by simp) ?_; (case hd => rfl); (case hg => rfl); (case hr => first | (go_simp; done) | (go_simp; rfl)); (case hp => exact (Reps.c2 (show Kd.M k28 _ _ _ (⟨a1_0, a1_1⟩ : S28) [.string a1_0, .string a1_1] from (k28_mkM _ _ _ (⟨a1_0, a1_1⟩ : S28) )) (Reps.none _ _)))
          intro v260 w12 ho13 hb hg_ hnew_
          clear hg_ hnew_
          (first | rw [← Ny259.out] at ho13 | (simp only [Int.reduceToNat] at ho13; rw [← Ny259.out] at ho13))
          have n0_ := Aside0.mk (Kd.R_lower (Kd.R_newB ho13 (g := gb251) (o := .cells #[.string a1_0, .string a1_1] 28 (0, 0)) (by (with_reducible repeat (first | refine blk_drewN ?_ _ | refine blk_drew ?_ | refine blk_alloc ?_ _)); exact BK251.out)) (below_size (by repeat (first | (with_reducible first | exact HB.out | apply below_alloc | apply pw_below_drewN | apply below_drew1 | refine below_set ?_ GE251.out) | exact HB.out))))
          have n1_ := Aside0.mk (blk_below (g := gb251) (o := .cells #[.string a1_0, .string a1_1] 28 (0, 0)) (by (with_reducible repeat (first | refine blk_drewN ?_ _ | refine blk_drew ?_ | refine blk_alloc ?_ _)); exact BK251.out) hb)
          have n2_ := Aside0.mk (below_step (by repeat (first | (with_reducible first | exact HB.out | apply below_alloc | apply pw_below_drewN | apply below_drew1 | refine below_set ?_ GE251.out) | exact HB.out)) hb)
          clear BK251
          clear HB
          have HO261 := n0_
          have BK251 := n1_
          have HB := n2_
          clear n0_ n1_ n2_
          clear hb ho13
          refine hK.out _ _ ⟨(blk_cell BK251.out 0).trans rfl, (blk_cell BK251.out 1).trans rfl⟩ (fun hHeld => ?_)
          clear hK K
          refine norm_ (a' := ?_) ?_ ?_
          rotate_left
          · show Act.put _ (some 15) _ = _
            simp only [Act.put, List.setIfInBounds_toArray, List.set_cons_zero, List.set_cons_succ, i64_w, i32_w]
            rfl
          refine one_ (i := 0) (N := some 11) #[true, true, false, true, true, false, false, false] rfl rfl (one_of HT_.out (by kernel_rfl)) (by decide) (fun K hK => ?_)
          refine Kd.R_lit_step k28 _ 28 ?hg (N := 11) ?hd (xs := ([] : List (S28))) (inner := []) (ok := fun _ => True) (okp := fun _ => True) ?hr ?hp (fun _ hk => hk) trivial (Below.refl _ _) (Nat.le_refl _) (by simp) ?_; (case hd => rfl); (case hg => rfl); (case hr => first | (go_simp; done) | (go_simp; rfl)); (case hp => exact (Reps.none _ _))
          intro v254 w14 ho15 hb hg_ hnew_
          clear hg_ hnew_
          (first | rw [← Ny253.out] at ho15 | (simp only [Int.reduceToNat] at ho15; rw [← Ny253.out] at ho15))
          have n0_ := Aside0.mk (Kd.R_elder' (by (with_reducible repeat (first | apply Kd.R_alloc | apply Kd.R_drewN | apply Kd.R_drew)); exact HO261.out) (Kd.R_base ho15) hb)
          have n1_ := Aside0.mk (Kd.R_lower (Kd.R_newB (Kd.R_new' ho15 (Kd.R_lt (by (with_reducible repeat (first | apply Kd.R_alloc | apply Kd.R_drewN | apply Kd.R_drew)); exact HO261.out))) (g := gb251) (o := .cells #[.string a1_0, .string a1_1] 28 (0, 0)) (by (with_reducible repeat (first | refine blk_drewN ?_ _ | refine blk_drew ?_ | refine blk_alloc ?_ _)); exact BK251.out)) (below_size (by repeat (first | (with_reducible first | exact HB.out | apply below_alloc | apply pw_below_drewN | apply below_drew1 | refine below_set ?_ GE251.out) | exact HB.out))))
          have n2_ := Aside0.mk (blk_below (g := gb251) (o := .cells #[.string a1_0, .string a1_1] 28 (0, 0)) (by (with_reducible repeat (first | refine blk_drewN ?_ _ | refine blk_drew ?_ | refine blk_alloc ?_ _)); exact BK251.out) hb)
          have n3_ := Aside0.mk (below_step (by repeat (first | (with_reducible first | exact HB.out | apply below_alloc | apply pw_below_drewN | apply below_drew1 | refine below_set ?_ GE251.out) | exact HB.out)) hb)
          clear HO261
          clear BK251
          clear HB
          have HO261 := n0_
          have HO255 := n1_
          have BK251 := n2_
          have HB := n3_
          clear n0_ n1_ n2_ n3_
          clear hb ho15
          refine hK.out _ _ ⟨(blk_cell BK251.out 0).trans rfl, (blk_cell BK251.out 1).trans rfl⟩ (fun hHeld => ?_)
          clear hK K
          refine norm_ (a' := ?_) ?_ ?_
          rotate_left
          · show Act.put _ (some 11) _ = _
            simp only [Act.put, List.setIfInBounds_toArray, List.set_cons_zero, List.set_cons_succ, i64_w, i32_w]
            rfl
          refine one_ (i := 2) (N := some 13) #[true, true, true, true, true, false, false, false] rfl rfl (one_of HT_.out (by kernel_rfl)) (by decide) (fun K hK => ?_)
          refine Kd.R_append_rows_step k28 (w0 := w) w.heap.size (by rfl) (.tmp 11) (.tmp 12) 23 28 (.agg #[(.string ⟨#[]⟩), (.string ⟨#[]⟩)]) 32 rfl Tryd.underlying23 info28 rfl (by decide) (by omega) v254 y253 l0 _ _ _ (fun k_ => some k_ ≠ (v260 : Value).ownBlock ∧ k_ ≠ gb251) (fun _ => False) rfl rfl ?aO ?aR (fun _ _ h => h) (fun _ h => h.elim) ?aF ?aB ?aS ?aL ?_
          (case aR => repeat (first | exact (Kd.C_below HR0.out HB.out) | (with_reducible refine Kd.C_alloc ?_ _) | (with_reducible refine Kd.C_drewN ?_ _) | (with_reducible refine Kd.C_drew ?_)))
          (case aB => exact (by repeat (first | (with_reducible first | exact HB.out | apply below_alloc | apply pw_below_drewN | apply below_drew1 | refine below_set ?_ GE251.out) | exact HB.out)))
          (case aF => exact (fun k_ hk => ⟨Kd.fresh' (Kd.R_lt (by (with_reducible repeat (first | apply Kd.R_alloc | apply Kd.R_drewN | apply Kd.R_drew)); exact HO261.out)) k_ hk, Kd.freshB (g := gb251) (o := .cells #[.string a1_0, .string a1_1] 28 (0, 0)) (by (with_reducible repeat (first | refine blk_drewN ?_ _ | refine blk_drew ?_ | refine blk_alloc ?_ _)); exact BK251.out) k_ hk⟩))
          (case aO => exact (by (with_reducible repeat (first | apply Kd.R_alloc | apply Kd.R_drewN | apply Kd.R_drew)); exact Kd.R_mono HO255.out (fun _ hk => ⟨hk.1.2, hk.2⟩)))
          (case aS => exact (below_size (by repeat (first | (with_reducible first | exact HB.out | apply below_alloc | apply pw_below_drewN | apply below_drew1 | refine below_set ?_ GE251.out) | exact HB.out))))
          (case aL => have := LMc4.out; omega)
          intro v257 w16 ho hb hg hat
          rw [← Ny256.out] at ho
          have n0_ := Aside0.mk (blk_grown (g := gb251) (o := .cells #[.string a1_0, .string a1_1] 28 (0, 0)) (by (with_reducible repeat (first | refine blk_drewN ?_ _ | refine blk_drew ?_ | refine blk_alloc ?_ _)); exact BK251.out) hg (Kd.R_away HO255.out (fun _ hk => hk.2)))
          have n1_ := Aside0.mk (Kd.R_after (ok := (fun k_ => k_ ≠ gb251)) (by (with_reducible repeat (first | apply Kd.R_alloc | apply Kd.R_drewN | apply Kd.R_drew)); exact Kd.R_mono HO261.out (fun _ hk => ⟨hk.1.2, hk.2⟩)) hg hat)
          have n2_ := Aside0.mk (hb)
          have n3_ := Aside0.mk (ho)
          clear BK251
          clear HO261
          clear HB
          clear HO255
          have BK251 := n0_
          have HO261 := n1_
          have HB := n2_
          have HO258 := n3_
          clear n0_ n1_ n2_ n3_
          clear ho hb hg hat
          refine hK.out _ _ ⟨(blk_cell BK251.out 0).trans rfl, (blk_cell BK251.out 1).trans rfl⟩ (fun hHeld => ?_)
          clear hK K
          refine norm_ (a' := ?_) ?_ ?_
          rotate_left
          · show Act.put _ (some 13) _ = _
            simp only [Act.put, List.setIfInBounds_toArray, List.set_cons_zero, List.set_cons_succ, i64_w, i32_w]
            rfl
          exact norm_ (by simp only [putAll, Act.put, List.setIfInBounds_toArray, List.set_cons_zero, List.set_cons_succ]) (hCont (v254, v257, v260) _ ⟨hHeld, (by (with_reducible repeat (first | apply Kd.R_alloc | apply Kd.R_drewN | apply Kd.R_drew)); exact HO258.out), (by (with_reducible repeat (first | apply Kd.R_alloc | apply Kd.R_drewN | apply Kd.R_drew)); exact Kd.R_mono HO261.out (fun _ hk => ⟨hk.2, hk.1⟩)), (by (with_reducible repeat (first | refine blk_drewN ?_ _ | refine blk_drew ?_ | refine blk_alloc ?_ _)); exact BK251.out), (by repeat (first | (with_reducible first | exact HB.out | apply below_alloc | apply pw_below_drewN | apply below_drew1 | refine below_set ?_ GE251.out) | exact HB.out))⟩)
      rintro ⟨v254, v257, v260⟩ w17 ⟨hS_, h0_, h1_, h2_, h3_⟩
      have n0_ : Aside0 (Kd.R k28 28 w17 w.heap.size (fun k_ => some k_ ≠ (v260 : Value).ownBlock ∧ k_ ≠ gb251) v257 y256) := ⟨h0_⟩
      have n1_ : Aside0 (Kd.R k28 28 w17 w.heap.size (fun k_ => some k_ ≠ (v257 : Value).ownBlock ∧ k_ ≠ gb251) v260 y259) := ⟨h1_⟩
      have n2_ : Aside0 (w17.heap[gb251]? = some (.cells #[.string a1_0, .string a1_1] 28 (0, 0))) := ⟨h2_⟩
      have n3_ : Aside0 (Below w.heap.size w w17) := ⟨h3_⟩
      clear BK251
      clear HB
      clear h0_ h1_ h2_ h3_
      have HO258 := n0_
      have HO261 := n1_
      have BK251 := n2_
      have HB := n3_
      clear n0_ n1_ n2_ n3_
      have hHeld : w17.cell? ⟨gb251, 0, none⟩ = some (.string a1_0) ∧ w17.cell? ⟨gb251, 1, none⟩ = some (.string a1_1) := hS_
      obtain ⟨Ao19, co19, eo19⟩ := Kd.R_slice HO261.out
      (first | subst eo19 | (injection eo19 with f1_ f2_ f3_; have f4_ := f1_.symm; have f5_ := f3_.symm; clear f1_ f2_ f3_; subst f4_; subst f5_))
      refine norm_ (a' := ?_) ?_ ?_
      rotate_left
      · simp only [putAll, Act.put, List.setIfInBounds_toArray, List.set_cons_zero, List.set_cons_succ]
        rfl
      refine one_ (i := 5) (N := some 16) #[true, true, true, true, true, true, false, false] rfl rfl (one_of HT_.out (by kernel_rfl)) (by decide) (fun K hK => ?_)
      refine Kd.R_append_rows_step k28 (w0 := w) w.heap.size (by rfl) (.tmp 13) (.tmp 15) 23 28 (.agg #[(.string ⟨#[]⟩), (.string ⟨#[]⟩)]) 32 rfl Tryd.underlying23 info28 rfl (by decide) (by omega) v257 y256 y259 _ _ _ (fun k_ => some k_ ≠ (.slice Ao19 y259.length co19 : Value).ownBlock ∧ k_ ≠ gb251) (fun _ => False) rfl rfl ?aO ?aR (fun _ _ h => h) (fun _ h => h.elim) ?aF ?aB ?aS ?aL ?_
      (case aR => repeat (first | exact (Kd.R_reads' HO261.out).2.2 | (with_reducible refine Kd.C_alloc ?_ _) | (with_reducible refine Kd.C_drewN ?_ _) | (with_reducible refine Kd.C_drew ?_)))
      (case aB => exact (by repeat (first | (with_reducible first | exact HB.out | apply below_alloc | apply pw_below_drewN | apply below_drew1 | refine below_set ?_ GE251.out) | exact HB.out)))
      (case aF => exact (fun k_ hk => ⟨Kd.fresh' (Kd.R_lt (by (with_reducible repeat (first | apply Kd.R_alloc | apply Kd.R_drewN | apply Kd.R_drew)); exact HO261.out)) k_ hk, Kd.freshB (g := gb251) (o := .cells #[.string a1_0, .string a1_1] 28 (0, 0)) (by (with_reducible repeat (first | refine blk_drewN ?_ _ | refine blk_drew ?_ | refine blk_alloc ?_ _)); exact BK251.out) k_ hk⟩))
      (case aO => exact (by (with_reducible repeat (first | apply Kd.R_alloc | apply Kd.R_drewN | apply Kd.R_drew)); exact HO258.out))
      (case aS => exact (below_size (by repeat (first | (with_reducible first | exact HB.out | apply below_alloc | apply pw_below_drewN | apply below_drew1 | refine below_set ?_ GE251.out) | exact HB.out))))
      (case aL => have := LMc5.out; omega)
      intro v263 w18 ho hb hg hat
      rw [← Ny262.out] at ho
      have n0_ := Aside0.mk (blk_grown (g := gb251) (o := .cells #[.string a1_0, .string a1_1] 28 (0, 0)) (by (with_reducible repeat (first | refine blk_drewN ?_ _ | refine blk_drew ?_ | refine blk_alloc ?_ _)); exact BK251.out) hg (Kd.R_away HO258.out (fun _ hk => hk.2)))
      have n1_ := Aside0.mk (Kd.R_after (ok := (fun k_ => k_ ≠ gb251)) (by (with_reducible repeat (first | apply Kd.R_alloc | apply Kd.R_drewN | apply Kd.R_drew)); exact Kd.R_mono HO261.out (fun _ hk => ⟨hk.2, hk.1⟩)) hg hat)
      have n2_ := Aside0.mk (hb)
      have n3_ := Aside0.mk (ho)
      clear BK251
      clear HO261
      clear HB
      clear HO258
      have BK251 := n0_
      have HO261 := n1_
      have HB := n2_
      have HO264 := n3_
      clear n0_ n1_ n2_ n3_
      clear ho hb hg hat
      obtain ⟨Ao20, co20, eo20⟩ := Kd.R_slice HO264.out
      (first | subst eo20 | (injection eo20 with f1_ f2_ f3_; have f4_ := f1_.symm; have f5_ := f3_.symm; clear f1_ f2_ f3_; subst f4_; subst f5_))
      refine hK.out _ _ ⟨(blk_cell BK251.out 0).trans rfl, (blk_cell BK251.out 1).trans rfl⟩ (fun hHeld => ?_)
      clear hK K
      refine norm_ (a' := ?_) ?_ ?_
      rotate_left
      · show Act.put _ (some 16) _ = _
        simp only [Act.put, List.setIfInBounds_toArray, List.set_cons_zero, List.set_cons_succ, i64_w, i32_w]
        rfl
      refine one_ (i := 6) (N := some 17) #[true, true, true, true, true, true, true, false] rfl rfl (one_of HT_.out (by kernel_rfl)) (by decide) (fun K hK => ?_)
      refine goes_ Tryd.func10 (by kernel_rfl) rfl #[.slice Ao20 y262.length co20] (by rfl) rfl rfl (by (try simp only [List.map_toArray, List.map_cons, List.map_nil]); first | done | rfl | (simp only [List.length_drop, List.length_take]; rfl)) ?_
      with_reducible refine (glacislaw08_Few.calls k _ _ y262 t265 _ ?side1 ?side2 A6.out).mono ?_
      (case side1 => repeat (first | exact (Kd.R_reads' HO264.out).2.2 | (with_reducible refine Kd.C_alloc ?_ _) | (with_reducible refine Kd.C_drewN ?_ _) | (with_reducible refine Kd.C_drew ?_)))
      (case side2 => exact (Kd.R_reads' HO264.out).2.1)
      rintro e w' ⟨rfl, ⟨nd, rfl⟩⟩
      refine ⟨_, rfl, ?_⟩
      refine hK.out _ _ ⟨(blk_cell BK251.out 0).trans rfl, (blk_cell BK251.out 1).trans rfl⟩ (fun hHeld => ?_)
      clear hK K
      refine norm_ (a' := ?_) ?_ ?_
      rotate_left
      · show Act.put _ (some 17) _ = _
        simp only [Act.put, List.setIfInBounds_toArray, List.set_cons_zero, List.set_cons_succ, i64_w, i32_w]
        rfl
      refine pure_ (i := 7) (N := some 6) (v := ?_) (a' := ?_) #[true, true, true, true, true, true, true, true] rfl rfl (any_of HT_.out (by kernel_rfl)) (fun _ _ _ h => h) (Or.inl ⟨by rfl, ?_⟩) ?_ ?_
      rotate_left
      · intro w'
        go_simp
        with_reducible rfl
      rotate_left
      · simp only [Act.put, List.setIfInBounds_toArray, List.set_cons_zero, List.set_cons_succ, i64_w, i32_w]
        rfl
      refine done_ (done_of HT_.out (by kernel_rfl)) ?_
      have hcz21_0 : w18.cell? ⟨gb251, 0, none⟩ = some (.string a1_0) := (blk_cell BK251.out 0).trans rfl
      have hcz21_1 : w18.cell? ⟨gb251, 1, none⟩ = some (.string a1_1) := (blk_cell BK251.out 1).trans rfl
      have hfz21_0 := blk_frozen BK251.out 0
      have hfz21_1 := blk_frozen BK251.out 1
      go_upto_region 4 with (first | ((with_reducible refine gate_callee (f := 16) rfl ?_); refine goesL_ (some 20) rfl rfl Tryd.func16 (by kernel_rfl) rfl #[.string a1_0] rfl (by (try simp only [List.map_toArray, List.map_cons, List.map_nil]); first | done | rfl | (simp only [List.length_drop, List.length_take]; rfl)) ?_; (with_reducible refine (octet_Lower.calls a1_0 t266 _ A7.out).mono ?_); rintro e w22 ⟨rfl, hb⟩; refine ⟨_, rfl, ?_⟩; have n0_ := Aside0.mk (Kd.R_below (by (with_reducible repeat (first | apply Kd.R_alloc | apply Kd.R_drewN | apply Kd.R_drew)); exact HO261.out) hb); have n1_ := Aside0.mk (Kd.R_below (by (with_reducible repeat (first | apply Kd.R_alloc | apply Kd.R_drewN | apply Kd.R_drew)); exact HO264.out) hb); have n2_ := Aside0.mk (blk_below (g := gb251) (o := .cells #[.string a1_0, .string a1_1] 28 (0, 0)) (by (with_reducible repeat (first | refine blk_drewN ?_ _ | refine blk_drew ?_ | refine blk_alloc ?_ _)); exact BK251.out) hb); have n3_ := Aside0.mk (below_step (by repeat (first | (with_reducible first | exact HB.out | apply below_alloc | apply pw_below_drewN | apply below_drew1 | refine below_set ?_ GE251.out) | exact HB.out)) hb); clear HO261; clear HO264; clear BK251; clear HB; have HO261 := n0_; have HO264 := n1_; have BK251 := n2_; have HB := n3_; clear n0_ n1_ n2_ n3_; (try clear hb); (try clear hb2); (try clear hk); (try clear hi)))
      (try simp only [Act.put, List.setIfInBounds_toArray, List.set_cons_zero, List.set_cons_succ])
      go_cut [35] (fun v35 wc => ∃ (kq : Nat) (x35_7 : Bool), v35 = .bool x35_7 ∧ Aside0 (glacislaw09_EmbedhdrOthers.j0 kq l0 t252 x35_7 a1_0 a1_1 = some r) ∧ Aside0 (kq ≤ k) ∧ Aside0 (wc.heap[gb251]? = some (.cells #[.string a1_0, .string a1_1] 28 (0, 0))) ∧ Aside0 (Below w.heap.size w wc))
      case first =>
        have H := HC8.out
        clear HC8
        by_cases c23 : t265 = true
        · subst c23
          have H1 : (if (l0.length : Int) > 90 then (glacislaw09_EmbedhdrOthers.j0 k l0 t252 true a1_0 a1_1) else (if t266.toList = ([120, 45, 102, 114, 97, 109, 101, 45, 111, 112, 116, 105, 111, 110, 115] : List UInt8) then (glacislaw09_EmbedhdrOthers.j0 k l0 t252 true a1_0 a1_1) else (glacislaw09_EmbedhdrOthers.j0 k l0 t252 (t266.toList == ([99, 114, 111, 115, 115, 45, 111, 114, 105, 103, 105, 110, 45, 114, 101, 115, 111, 117, 114, 99, 101, 45, 112, 111, 108, 105, 99, 121] : List UInt8)) a1_0 a1_1))) = some r := by rw [if_pos rfl] at H; exact H
          clear H
          have H := H1
          clear H1
          by_cases c24 : (l0.length : Int) > 90
          · rw [if_pos c24] at H
            have c24b0 : decide (90 < (l0.length : Int)) = true := decide_eq_true c24
            have c24b1 : decide (90 < l0.length) = true := decide_eq_true (by omega)
            clear c24
            (first | rw [c24b0] | (simp only [i64_w, i32_w]; rw [c24b0]) | skip)
            have H' := Aside0.mk H
            clear H
            go_wp2
            go_meet
            case rel => exact ⟨_, (true), (by first | rfl | (simp; done) | (simp [*]; done) | (simp [q_ne_nil]; done)), H', ⟨by first | omega | exact Nat.le_refl _⟩, ⟨by (with_reducible repeat (first | refine blk_drewN ?_ _ | refine blk_drew ?_ | refine blk_alloc ?_ _)); exact BK251.out⟩, ⟨by repeat (first | (with_reducible first | exact HB.out | apply below_alloc | apply pw_below_drewN | apply below_drew1 | refine below_set ?_ GE251.out) | exact HB.out)⟩⟩
          · rw [if_neg c24] at H
            have c24b0 : decide (90 < (l0.length : Int)) = false := decide_eq_false c24
            have c24b1 : decide (90 < l0.length) = false := decide_eq_false (by omega)
            clear c24
            (first | rw [c24b0] | (simp only [i64_w, i32_w]; rw [c24b0]) | skip)
            by_cases c25 : t266.toList = ([120, 45, 102, 114, 97, 109, 101, 45, 111, 112, 116, 105, 111, 110, 115] : List UInt8)
            · rw [if_pos c25] at H
              have c25b0 : (t266.toList == ([120, 45, 102, 114, 97, 109, 101, 45, 111, 112, 116, 105, 111, 110, 115] : List UInt8)) = true := beq_iff_eq.mpr c25
              have c25b1 : (t266.toList != ([120, 45, 102, 114, 97, 109, 101, 45, 111, 112, 116, 105, 111, 110, 115] : List UInt8)) = false := bne_eq_false_iff_eq.mpr c25
              clear c25
              have H' := Aside0.mk H
              clear H
              go_wp2
              go_meet
              case rel => exact ⟨_, (true), (by first | rfl | (simp; done) | (simp [*]; done) | (simp [q_ne_nil]; done)), H', ⟨by first | omega | exact Nat.le_refl _⟩, ⟨by (with_reducible repeat (first | refine blk_drewN ?_ _ | refine blk_drew ?_ | refine blk_alloc ?_ _)); exact BK251.out⟩, ⟨by repeat (first | (with_reducible first | exact HB.out | apply below_alloc | apply pw_below_drewN | apply below_drew1 | refine below_set ?_ GE251.out) | exact HB.out)⟩⟩
            · rw [if_neg c25] at H
              have c25b0 : (t266.toList == ([120, 45, 102, 114, 97, 109, 101, 45, 111, 112, 116, 105, 111, 110, 115] : List UInt8)) = false := beq_eq_false_iff_ne.mpr c25
              have c25b1 : (t266.toList != ([120, 45, 102, 114, 97, 109, 101, 45, 111, 112, 116, 105, 111, 110, 115] : List UInt8)) = true := bne_iff_ne.mpr c25
              have H' := Aside0.mk H
              clear H
              go_wp2
              go_meet
              case rel => exact ⟨_, ((t266.toList == ([99, 114, 111, 115, 115, 45, 111, 114, 105, 103, 105, 110, 45, 114, 101, 115, 111, 117, 114, 99, 101, 45, 112, 111, 108, 105, 99, 121] : List UInt8))), (by first | rfl | (simp; done) | (simp [*]; done) | (simp [q_ne_nil]; done)), H', ⟨by first | omega | exact Nat.le_refl _⟩, ⟨by (with_reducible repeat (first | refine blk_drewN ?_ _ | refine blk_drew ?_ | refine blk_alloc ?_ _)); exact BK251.out⟩, ⟨by repeat (first | (with_reducible first | exact HB.out | apply below_alloc | apply pw_below_drewN | apply below_drew1 | refine below_set ?_ GE251.out) | exact HB.out)⟩⟩
        · replace c23 := Bool.eq_false_iff.mpr c23
          subst c23
          have H1 : (glacislaw09_EmbedhdrOthers.j0 k l0 t252 true a1_0 a1_1) = some r := by rw [if_neg (show ¬ (false = true) by decide)] at H; exact H
          clear H
          have H := H1
          clear H1
          have H' := Aside0.mk H
          clear H
          go_wp2
          go_meet
          case rel => exact ⟨_, (true), (by first | rfl | (simp; done) | (simp [*]; done) | (simp [q_ne_nil]; done)), H', ⟨by first | omega | exact Nat.le_refl _⟩, ⟨by (with_reducible repeat (first | refine blk_drewN ?_ _ | refine blk_drew ?_ | refine blk_alloc ?_ _)); exact BK251.out⟩, ⟨by repeat (first | (with_reducible first | exact HB.out | apply below_alloc | apply pw_below_drewN | apply below_drew1 | refine below_set ?_ GE251.out) | exact HB.out)⟩⟩
      case rest =>
        clear HC8
        try clear c1
        try clear c2
        try clear p2
        try clear c4
        try clear c5
        try clear c8
        try clear c9
        try clear c10
        try clear c16
        try clear c23
        try clear c24
        try clear c24b0
        try clear c24b1
        try clear c25
        try clear c25b0
        try clear c25b1
        try clear hcz21_0
        try clear hcz21_1
        try clear hfz21_0
        try clear hfz21_1
        obtain ⟨kq, x35_7, rfl, HA, HJ7, BK251, HB⟩ := hcut
        cases kq with
        | zero => exact absurd HA.out (by simp [glacislaw09_EmbedhdrOthers.j0])
        | succ kj7 =>
          have H := HA.out
          clear HA
          simp only [glacislaw09_EmbedhdrOthers.j0] at H
          by_cases c26 : x35_7 = true
          · subst c26
            have H1 : (some t252) = some r := by rw [if_pos rfl] at H; exact H
            clear H
            have H := H1
            clear H1
            obtain rfl := Option.some.inj H
            go_wp2
            go_ret
            exact ⟨by first | rfl | (simp [errW_none, errW_some] <;> rfl) | (simp [*, errW_none, errW_some] <;> rfl) | (simp [q_ne_nil]; done), by repeat (first | (with_reducible first | exact HB.out | apply below_alloc | apply pw_below_drewN | apply below_drew1 | refine below_set ?_ GE251.out) | exact HB.out)⟩
          · replace c26 := Bool.eq_false_iff.mpr c26
            subst c26
            have H1 : (glacislaw09_EmbedhdrOthers.l0 kj7 l0 t252 ([] : List (S28)) 0 a1_0 a1_1) = some r := by rw [if_neg (show ¬ (false = true) by decide)] at H; exact H
            clear H
            have H := H1
            clear H1
            have H' := Aside0.mk H
            clear H
            go_wp2
            go_loopg [8, 9] kj7 (fun kq v8 v9 w' => ∃ (x8_2 : List (S28)) (x9_2 : Int), v9 = .int .i64 x9_2 ∧ Aside0 (glacislaw09_EmbedhdrOthers.l0 kq l0 t252 x8_2 x9_2 a1_0 a1_1 = some r) ∧ Aside0 (kq ≤ kj7) ∧ Aside0 (Kd.R k28 28 w' w.heap.size (fun k_ => k_ ≠ gb251) v8 x8_2) ∧ Aside0 (w'.heap[gb251]? = some (.cells #[.string a1_0, .string a1_1] 28 (0, 0))) ∧ Aside0 (Below w.heap.size w w'))
            case atStart => exact ⟨(([] : List (S28))), (0), (by first | rfl | (simp; done) | (simp [*]; done) | (simp [q_ne_nil]; done)), H', ⟨Nat.le_refl _⟩, ⟨by first | exact Kd.R_nil _ _ _ _ _ | exact Kd.N_nil _ _ _ _ _ | exact Kd.V_nil _ _ _ _ _ | exact Kd.Q_nil _ _ _ _ _ | exact Kd.S_nil _ _ _ _ _⟩, ⟨by (with_reducible repeat (first | refine blk_drewN ?_ _ | refine blk_drew ?_ | refine blk_alloc ?_ _)); exact BK251.out⟩, ⟨by repeat (first | (with_reducible first | exact HB.out | apply below_alloc | apply pw_below_drewN | apply below_drew1 | refine below_set ?_ GE251.out) | exact HB.out)⟩⟩
            case round =>
              clear H'
              try clear c1
              try clear c2
              try clear p2
              try clear c4
              try clear c5
              try clear c8
              try clear c9
              try clear c10
              try clear c16
              try clear c23
              try clear c24
              try clear c24b0
              try clear c24b1
              try clear c25
              try clear c25b0
              try clear c25b1
              try clear c26
              try clear hcz21_0
              try clear hcz21_1
              try clear hfz21_0
              try clear hfz21_1
              try clear p2
              obtain ⟨x8_2, x9_2, rfl, HA, HK2, HO_8, BK251, HB⟩ := hrel
              cases gk with
              | zero => exact absurd HA.out (by simp [glacislaw09_EmbedhdrOthers.l0])
              | succ k2 =>
                have H := HA.out
                clear HA
                simp only [glacislaw09_EmbedhdrOthers.l0] at H
                by_cases c27 : x9_2 < (l0.length : Int)
                · rw [if_pos c27] at H
                  have c27b0 : decide (x9_2 < (l0.length : Int)) = true := decide_eq_true c27
                  clear c27
                  by_cases c28 : 0 ≤ x9_2
                  · rw [if_pos c28] at H
                    have c28b0 : decide (0 ≤ x9_2) = true := decide_eq_true c28
                    clear c28
                    replace H := Option.bind_eq_some_iff.mp H
                    obtain ⟨t268, A290, H⟩ := H
                    replace H : ((some (([(⟨a1_0, a1_1⟩ : S28), (⟨t268, (rd_T28 l0 x9_2).f1⟩ : S28)] : List (S28)) : List (S28))).bind fun y270 => (if x8_2.length + y270.length < 4398046511104 then (glacislaw09_EmbedhdrOthers.l0 k2 l0 t252 (x8_2 ++ y270) (wrap64 (x9_2 + 1)) a1_0 a1_1) else (none))) = some r := H
                    have A29 := Aside0.mk A290
                    clear A290
                    obtain ⟨y270, hy270⟩ : ∃ y_ : List (S28), y_ = (([(⟨a1_0, a1_1⟩ : S28), (⟨t268, (rd_T28 l0 x9_2).f1⟩ : S28)] : List (S28))) := ⟨_, rfl⟩
                    replace H : (if x8_2.length + y270.length < 4398046511104 then (glacislaw09_EmbedhdrOthers.l0 k2 l0 t252 (x8_2 ++ y270) (wrap64 (x9_2 + 1)) a1_0 a1_1) else (none)) = some r := by first | (rw [hy270]; with_reducible exact H) | (have H2_ := (Option.bind_some _ _).symm.trans H; rw [hy270]; with_reducible exact H2_) | (have H2_ := (Option.bind_some _ _).symm.trans H; with_reducible exact H2_) | with_reducible exact H | (rw [hy270]; exact H) | exact H
                    have Ny270 := Aside0.mk hy270
                    clear hy270
                    by_cases c30 : x8_2.length + y270.length < 4398046511104
                    · rw [if_pos c30] at H
                      have LMc30 := Aside0.mk c30
                      clear c30
                      obtain ⟨y273, hy273⟩ : ∃ y_ : List (S28), y_ = (x8_2 ++ y270) := ⟨_, rfl⟩
                      replace H : (glacislaw09_EmbedhdrOthers.l0 k2 l0 t252 y273 (wrap64 (x9_2 + 1)) a1_0 a1_1) = some r := by first | (rw [hy273]; with_reducible exact H) | (have H2_ := (Option.bind_some _ _).symm.trans H; rw [hy273]; with_reducible exact H2_) | (have H2_ := (Option.bind_some _ _).symm.trans H; with_reducible exact H2_) | with_reducible exact H | (rw [hy273]; exact H) | exact H
                      have Ny273 := Aside0.mk hy273
                      clear hy273
                      have H' := Aside0.mk H
                      clear H
                      try go_wp2
                      have n0_ := Aside0.mk (Kd.R_drew HO_8.out)
                      have n1_ := Aside0.mk (blk_drew BK251.out)
                      have n2_ := Aside0.mk (below_drew1 HB.out)
                      clear HO_8
                      clear BK251
                      clear HB
                      have HO_8 := n0_
                      have BK251 := n1_
                      have HB := n2_
                      clear n0_ n1_ n2_
                      have p267 : 0 ≤ (x9_2 : Int) := of_decide_eq_true (by first | (with_reducible assumption) | assumption)
                      have q267 : x9_2 < (l0.length : Int) := of_decide_eq_true (by first | (with_reducible assumption) | assumption)
                      obtain ⟨ad267, e267, hx267_0, hx267_1⟩ := at_T28 HR0.out x9_2 p267 q267
                      have hw267_1 := hx267_1
                      have hw267_0 := hx267_0
                      cases e267
                      replace hx267_0 := (HB.out.cell (World.block_lt_of_cell? w _ hx267_0)).trans hx267_0
                      replace hx267_1 := (HB.out.cell (World.block_lt_of_cell? w _ hx267_1)).trans hx267_1
                      replace p267 := eq_true p267
                      replace q267 := eq_true q267
                      have p269 : 0 ≤ (x9_2 : Int) := of_decide_eq_true (by first | (with_reducible assumption) | assumption)
                      have q269 : x9_2 < (l0.length : Int) := of_decide_eq_true (by first | (with_reducible assumption) | assumption)
                      obtain ⟨ad269, e269, hx269_0, hx269_1⟩ := at_T28 HR0.out x9_2 p269 q269
                      have hw269_1 := hx269_1
                      have hw269_0 := hx269_0
                      obtain rfl : ad267 = ad269 := (by injection e269)
                      replace hx269_0 := (HB.out.cell (World.block_lt_of_cell? w _ hx269_0)).trans hx269_0
                      replace hx269_1 := (HB.out.cell (World.block_lt_of_cell? w _ hx269_1)).trans hx269_1
                      replace p269 := eq_true p269
                      replace q269 := eq_true q269
                      refine start_ (n := 17) (S := fun w' => w'.cell? ⟨gb251, 0, none⟩ = some (.string a1_0) ∧ w'.cell? ⟨gb251, 1, none⟩ = some (.string a1_1) ∧ w'.cell? (ad267.add ((x9_2).toNat * 2)) = some (.string ((rd_T28 l0 x9_2).f0)) ∧ w'.cell? ⟨(ad267.add ((x9_2).toNat * 2)).block, (ad267.add ((x9_2).toNat * 2)).off + 1, none⟩ = some (.string ((rd_T28 l0 x9_2).f1)) ∧ w'.cell? (ad267.add ((x9_2).toNat * 2)) = some (.string ((rd_T28 l0 x9_2).f0)) ∧ w'.cell? ⟨(ad267.add ((x9_2).toNat * 2)).block, (ad267.add ((x9_2).toNat * 2)).off + 1, none⟩ = some (.string ((rd_T28 l0 x9_2).f1))) (ds := []) #[false, false, false, false, false, false, false, false, false, false, false, false, false, false, false, false, false] (by kernel_rfl) rfl rfl ⟨(blk_cell BK251.out 0).trans rfl, (blk_cell BK251.out 1).trans rfl, ((HB.out.cell (World.block_lt_of_cell? w _ hw267_0)).trans hw267_0), ((HB.out.cell (World.block_lt_of_cell? w _ hw267_1)).trans hw267_1), ((HB.out.cell (World.block_lt_of_cell? w _ hw269_0)).trans hw269_0), ((HB.out.cell (World.block_lt_of_cell? w _ hw269_1)).trans hw269_1)⟩ (fun hHeld => ?_); refine with_tabW glacislaw09_EmbedhdrOthers.tab10 glacislaw09_EmbedhdrOthers.bits10 (fun HT_ HW_ => ?_)
                      generalize wr.drew = w31 at HO_8 BK251 HB hx267_0 hx267_1 hx269_0 hx269_1 hHeld ⊢
                      refine pure_ (i := 0) (N := some 43) (v := ?_) (a' := ?_) #[true, false, false, false, false, false, false, false, false, false, false, false, false, false, false, false, false] rfl rfl (any_of HT_.out (by kernel_rfl)) (fun _ _ _ h => h) (Or.inl ⟨by rfl, ?_⟩) ?_ ?_
                      rotate_left
                      · intro w'
                        go_simp
                        with_reducible rfl
                      rotate_left
                      · simp only [Act.put, List.setIfInBounds_toArray, List.set_cons_zero, List.set_cons_succ, i64_w, i32_w]
                        rfl
                      refine pure_ (i := 2) (N := some 45) (v := ?_) (a' := ?_) #[true, false, true, false, false, false, false, false, false, false, false, false, false, false, false, false, false] rfl rfl (any_of HT_.out (by kernel_rfl)) (fun _ _ _ h => h) (Or.inl ⟨by rfl, ?_⟩) ?_ ?_
                      rotate_left
                      · intro w'
                        go_simp
                        with_reducible rfl
                      rotate_left
                      · simp only [Act.put, List.setIfInBounds_toArray, List.set_cons_zero, List.set_cons_succ, i64_w, i32_w]
                        rfl
                      refine pure_ (i := 3) (N := some 46) (v := ?_) (a' := ?_) #[true, false, true, true, false, false, false, false, false, false, false, false, false, false, false, false, false] rfl rfl (any_of HT_.out (by kernel_rfl)) (fun _ _ _ h => h) (Or.inl ⟨by rfl, ?_⟩) ?_ ?_
                      rotate_left
                      · intro w'
                        go_simp
                        with_reducible rfl
                      rotate_left
                      · simp only [Act.put, List.setIfInBounds_toArray, List.set_cons_zero, List.set_cons_succ, i64_w, i32_w]
                        rfl
                      refine pure_ (i := 4) (N := some 47) (v := ?_) (a' := ?_) #[true, false, true, true, true, false, false, false, false, false, false, false, false, false, false, false, false] rfl rfl (any_of HT_.out (by kernel_rfl)) (fun _ _ _ h => h) (Or.inl ⟨by rfl, ?_⟩) ?_ ?_
                      rotate_left
                      · intro w'
                        go_simp
                        with_reducible rfl
                      rotate_left
                      · simp only [Act.put, List.setIfInBounds_toArray, List.set_cons_zero, List.set_cons_succ, i64_w, i32_w]
                        rfl
                      refine pure_ (i := 5) (N := some 48) (v := ?_) (a' := ?_) #[true, false, true, true, true, true, false, false, false, false, false, false, false, false, false, false, false] rfl rfl (any_of HT_.out (by kernel_rfl)) (fun _ _ _ h => h) (Or.inl ⟨by rfl, ?_⟩) ?_ ?_
                      rotate_left
                      · intro w'
                        go_simp
                        with_reducible rfl
                      rotate_left
                      · simp only [Act.put, List.setIfInBounds_toArray, List.set_cons_zero, List.set_cons_succ, i64_w, i32_w]
                        rfl
                      refine pure_ (i := 8) (N := some 51) (v := ?_) (a' := ?_) #[true, false, true, true, true, true, false, false, true, false, false, false, false, false, false, false, false] rfl rfl (any_of HT_.out (by kernel_rfl)) (fun _ _ _ h => h) (Or.inl ⟨by rfl, ?_⟩) ?_ ?_
                      rotate_left
                      · intro w'
                        go_simp
                        with_reducible rfl
                      rotate_left
                      · simp only [Act.put, List.setIfInBounds_toArray, List.set_cons_zero, List.set_cons_succ, i64_w, i32_w]
                        rfl
                      refine pure_ (i := 9) (N := some 52) (v := ?_) (a' := ?_) #[true, false, true, true, true, true, false, false, true, true, false, false, false, false, false, false, false] rfl rfl (any_of HT_.out (by kernel_rfl)) (fun _ _ _ h => h) (Or.inl ⟨by rfl, ?_⟩) ?_ ?_
                      rotate_left
                      · intro w'
                        go_simp
                        with_reducible rfl
                      rotate_left
                      · simp only [Act.put, List.setIfInBounds_toArray, List.set_cons_zero, List.set_cons_succ, i64_w, i32_w]
                        rfl
                      refine pure_ (i := 10) (N := some 53) (v := ?_) (a' := ?_) #[true, false, true, true, true, true, false, false, true, true, true, false, false, false, false, false, false] rfl rfl (any_of HT_.out (by kernel_rfl)) (fun _ _ _ h => h) (Or.inl ⟨by rfl, ?_⟩) ?_ ?_
                      rotate_left
                      · intro w'
                        go_simp
                        with_reducible rfl
                      rotate_left
                      · simp only [Act.put, List.setIfInBounds_toArray, List.set_cons_zero, List.set_cons_succ, i64_w, i32_w]
                        rfl
                      refine pure_ (i := 11) (N := some 54) (v := ?_) (a' := ?_) #[true, false, true, true, true, true, false, false, true, true, true, true, false, false, false, false, false] rfl rfl (any_of HT_.out (by kernel_rfl)) (fun _ _ _ h => h) (Or.inl ⟨by rfl, ?_⟩) ?_ ?_
                      rotate_left
                      · intro w'
                        go_simp
                        with_reducible rfl
                      rotate_left
                      · simp only [Act.put, List.setIfInBounds_toArray, List.set_cons_zero, List.set_cons_succ, i64_w, i32_w]
                        rfl
                      refine take_ (i := 1) (N := some 44) (v := ?_) (a' := ?_) #[true, true, true, true, true, true, false, false, true, true, true, true, false, false, false, false, false] rfl rfl (take_ofW HT_.out HW_.out (by kernel_rfl)) (fun _ _ _ h => h) (Or.inl ⟨by rfl, ?_⟩) hHeld ?_ ?_
                      rotate_left
                      · rintro w' ⟨s0, s1, s2, s3, s4, s5⟩
                        go_simp
                        with_reducible rfl
                      rotate_left
                      · simp only [Act.put, List.setIfInBounds_toArray, List.set_cons_zero, List.set_cons_succ, i64_w, i32_w]
                        rfl
                      refine take_ (i := 6) (N := some 49) (v := ?_) (a' := ?_) #[true, true, true, true, true, true, true, false, true, true, true, true, false, false, false, false, false] rfl rfl (take_ofW HT_.out HW_.out (by kernel_rfl)) (fun _ _ _ h => h) (Or.inl ⟨by rfl, ?_⟩) hHeld ?_ ?_
                      rotate_left
                      · rintro w' ⟨s0, s1, s2, s3, s4, s5⟩
                        go_simp
                        with_reducible rfl
                      rotate_left
                      · simp only [Act.put, List.setIfInBounds_toArray, List.set_cons_zero, List.set_cons_succ, i64_w, i32_w]
                        rfl
                      refine take_ (i := 12) (N := some 55) (v := ?_) (a' := ?_) #[true, true, true, true, true, true, true, false, true, true, true, true, true, false, false, false, false] rfl rfl (take_ofW HT_.out HW_.out (by kernel_rfl)) (fun _ _ _ h => h) (Or.inl ⟨by rfl, ?_⟩) hHeld ?_ ?_
                      rotate_left
                      · rintro w' ⟨s0, s1, s2, s3, s4, s5⟩
                        go_simp
                        with_reducible rfl
                      rotate_left
                      · simp only [Act.put, List.setIfInBounds_toArray, List.set_cons_zero, List.set_cons_succ, i64_w, i32_w]
                        rfl
                      refine one_ (i := 7) (N := some 50) #[true, true, true, true, true, true, true, true, true, true, true, true, true, false, false, false, false] rfl rfl (one_of HT_.out (by kernel_rfl)) (by decide) (fun K hK => ?_)
                      refine goes_ Tryd.func16 (by kernel_rfl) rfl #[.string ((rd_T28 l0 x9_2).f0)] (by rfl) rfl rfl (by (try simp only [List.map_toArray, List.map_cons, List.map_nil]); first | done | rfl | (simp only [List.length_drop, List.length_take]; rfl)) ?_
                      with_reducible refine (octet_Lower.calls ((rd_T28 l0 x9_2).f0) t268 _ A29.out).mono ?_
                      rintro e w32 ⟨rfl, hb⟩
                      refine ⟨_, rfl, ?_⟩
                      have n0_ := Aside0.mk (Kd.R_below (by (with_reducible repeat (first | apply Kd.R_alloc | apply Kd.R_drewN | apply Kd.R_drew)); exact HO_8.out) hb)
                      have n1_ := Aside0.mk (blk_below (g := gb251) (o := .cells #[.string a1_0, .string a1_1] 28 (0, 0)) (by (with_reducible repeat (first | refine blk_drewN ?_ _ | refine blk_drew ?_ | refine blk_alloc ?_ _)); exact BK251.out) hb)
                      have n2_ := Aside0.mk (below_step (by repeat (first | (with_reducible first | exact HB.out | apply below_alloc | apply pw_below_drewN | apply below_drew1 | refine below_set ?_ GE251.out) | exact HB.out)) hb)
                      clear HO_8
                      clear BK251
                      clear HB
                      have HO_8 := n0_
                      have BK251 := n1_
                      have HB := n2_
                      clear n0_ n1_ n2_
                      (try clear hb)
                      (try clear hb2)
                      (try clear hk)
                      (try clear hi)
                      refine hK.out _ _ ⟨(blk_cell BK251.out 0).trans rfl, (blk_cell BK251.out 1).trans rfl, ((HB.out.cell (World.block_lt_of_cell? w _ hw267_0)).trans hw267_0), ((HB.out.cell (World.block_lt_of_cell? w _ hw267_1)).trans hw267_1), ((HB.out.cell (World.block_lt_of_cell? w _ hw269_0)).trans hw269_0), ((HB.out.cell (World.block_lt_of_cell? w _ hw269_1)).trans hw269_1)⟩ (fun hHeld => ?_)
                      clear hK K
                      refine norm_ (a' := ?_) ?_ ?_
                      rotate_left
                      · show Act.put _ (some 50) _ = _
                        simp only [Act.put, List.setIfInBounds_toArray, List.set_cons_zero, List.set_cons_succ, i64_w, i32_w]
                        rfl
                      refine pure_ (i := 13) (N := some 56) (v := ?_) (a' := ?_) #[true, true, true, true, true, true, true, true, true, true, true, true, true, true, false, false, false] rfl rfl (any_of HT_.out (by kernel_rfl)) (fun _ _ _ h => h) (Or.inl ⟨by rfl, ?_⟩) ?_ ?_
                      rotate_left
                      · intro w'
                        go_simp
                        with_reducible rfl
                      rotate_left
                      · simp only [Act.put, List.setIfInBounds_toArray, List.set_cons_zero, List.set_cons_succ, i64_w, i32_w]
                        rfl
                      refine one_ (i := 14) (N := some 57) #[true, true, true, true, true, true, true, true, true, true, true, true, true, true, true, false, false] rfl rfl (one_of HT_.out (by kernel_rfl)) (by decide) (fun K hK => ?_)
                      refine Kd.R_lit_step k28 _ 28 ?hg (N := 57) ?hd (xs := ([(⟨a1_0, a1_1⟩ : S28), (⟨t268, (rd_T28 l0 x9_2).f1⟩ : S28)] : List (S28))) (inner := [.string a1_0, .string a1_1, .string t268, .string ((rd_T28 l0 x9_2).f1)]) (ok := fun _ => True) (okp := fun _ => True) ?hr ?hp (fun _ hk => hk) trivial (Below.refl _ _) (Nat.le_refl _) (by simp) ?_; (case hd => rfl); (case hg => rfl); (case hr => first | (go_simp; done) | (go_simp; rfl)); (case hp => exact (Reps.c2 (show Kd.M k28 _ _ _ (⟨a1_0, a1_1⟩ : S28) [.string a1_0, .string a1_1] from (k28_mkM _ _ _ (⟨a1_0, a1_1⟩ : S28) )) (Reps.c2 (show Kd.M k28 _ _ _ (⟨t268, (rd_T28 l0 x9_2).f1⟩ : S28) [.string t268, .string ((rd_T28 l0 x9_2).f1)] from (k28_mkM _ _ _ (⟨t268, (rd_T28 l0 x9_2).f1⟩ : S28) )) (Reps.none _ _))))
                      intro v271 w33 ho34 hb hg_ hnew_
                      clear hg_ hnew_
                      (first | rw [← Ny270.out] at ho34 | (simp only [Int.reduceToNat] at ho34; rw [← Ny270.out] at ho34))
                      have n0_ := Aside0.mk (Kd.R_elder' (by (with_reducible repeat (first | apply Kd.R_alloc | apply Kd.R_drewN | apply Kd.R_drew)); exact HO_8.out) (Kd.R_base ho34) hb)
                      have n1_ := Aside0.mk (Kd.R_lower (Kd.R_newB (Kd.R_new' ho34 (Kd.R_lt (by (with_reducible repeat (first | apply Kd.R_alloc | apply Kd.R_drewN | apply Kd.R_drew)); exact HO_8.out))) (g := gb251) (o := .cells #[.string a1_0, .string a1_1] 28 (0, 0)) (by (with_reducible repeat (first | refine blk_drewN ?_ _ | refine blk_drew ?_ | refine blk_alloc ?_ _)); exact BK251.out)) (below_size (by repeat (first | (with_reducible first | exact HB.out | apply below_alloc | apply pw_below_drewN | apply below_drew1 | refine below_set ?_ GE251.out) | exact HB.out))))
                      have n2_ := Aside0.mk (blk_below (g := gb251) (o := .cells #[.string a1_0, .string a1_1] 28 (0, 0)) (by (with_reducible repeat (first | refine blk_drewN ?_ _ | refine blk_drew ?_ | refine blk_alloc ?_ _)); exact BK251.out) hb)
                      have n3_ := Aside0.mk (below_step (by repeat (first | (with_reducible first | exact HB.out | apply below_alloc | apply pw_below_drewN | apply below_drew1 | refine below_set ?_ GE251.out) | exact HB.out)) hb)
                      clear HO_8
                      clear BK251
                      clear HB
                      have HO_8 := n0_
                      have HO272 := n1_
                      have BK251 := n2_
                      have HB := n3_
                      clear n0_ n1_ n2_ n3_
                      clear hb ho34
                      obtain ⟨Ao36, co36, eo36⟩ := Kd.R_slice HO272.out
                      (first | subst eo36 | (injection eo36 with f1_ f2_ f3_; have f4_ := f1_.symm; have f5_ := f3_.symm; clear f1_ f2_ f3_; subst f4_; subst f5_))
                      refine hK.out _ _ ⟨(blk_cell BK251.out 0).trans rfl, (blk_cell BK251.out 1).trans rfl, ((HB.out.cell (World.block_lt_of_cell? w _ hw267_0)).trans hw267_0), ((HB.out.cell (World.block_lt_of_cell? w _ hw267_1)).trans hw267_1), ((HB.out.cell (World.block_lt_of_cell? w _ hw269_0)).trans hw269_0), ((HB.out.cell (World.block_lt_of_cell? w _ hw269_1)).trans hw269_1)⟩ (fun hHeld => ?_)
                      clear hK K
                      refine norm_ (a' := ?_) ?_ ?_
                      rotate_left
                      · show Act.put _ (some 57) _ = _
                        simp only [Act.put, List.setIfInBounds_toArray, List.set_cons_zero, List.set_cons_succ, i64_w, i32_w]
                        rfl
                      refine one_ (i := 15) (N := some 58) #[true, true, true, true, true, true, true, true, true, true, true, true, true, true, true, true, false] rfl rfl (one_of HT_.out (by kernel_rfl)) (by decide) (fun K hK => ?_)
                      refine Kd.R_append_rows_step k28 (w0 := w) w.heap.size (by rfl) (.tmp 43) (.tmp 57) 23 28 (.agg #[(.string ⟨#[]⟩), (.string ⟨#[]⟩)]) 32 rfl Tryd.underlying23 info28 rfl (by decide) (by omega) u8 x8_2 y270 _ _ _ (fun k_ => some k_ ≠ (.slice Ao36 y270.length co36 : Value).ownBlock ∧ k_ ≠ gb251) (fun _ => False) rfl rfl ?aO ?aR (fun _ _ h => h) (fun _ h => h.elim) ?aF ?aB ?aS ?aL ?_
                      (case aR => repeat (first | exact (Kd.R_reads' HO272.out).2.2 | (with_reducible refine Kd.C_alloc ?_ _) | (with_reducible refine Kd.C_drewN ?_ _) | (with_reducible refine Kd.C_drew ?_)))
                      (case aB => exact (by repeat (first | (with_reducible first | exact HB.out | apply below_alloc | apply pw_below_drewN | apply below_drew1 | refine below_set ?_ GE251.out) | exact HB.out)))
                      (case aF => exact (fun k_ hk => ⟨Kd.fresh' (Kd.R_lt (by (with_reducible repeat (first | apply Kd.R_alloc | apply Kd.R_drewN | apply Kd.R_drew)); exact HO272.out)) k_ hk, Kd.freshB (g := gb251) (o := .cells #[.string a1_0, .string a1_1] 28 (0, 0)) (by (with_reducible repeat (first | refine blk_drewN ?_ _ | refine blk_drew ?_ | refine blk_alloc ?_ _)); exact BK251.out) k_ hk⟩))
                      (case aO => exact (by (with_reducible repeat (first | apply Kd.R_alloc | apply Kd.R_drewN | apply Kd.R_drew)); exact Kd.R_mono HO_8.out (fun _ hk => ⟨hk.2, hk.1⟩)))
                      (case aS => exact (below_size (by repeat (first | (with_reducible first | exact HB.out | apply below_alloc | apply pw_below_drewN | apply below_drew1 | refine below_set ?_ GE251.out) | exact HB.out))))
                      (case aL => have := LMc30.out; omega)
                      intro v274 w35 ho hb hg hat
                      rw [← Ny273.out] at ho
                      have n0_ := Aside0.mk (blk_grown (g := gb251) (o := .cells #[.string a1_0, .string a1_1] 28 (0, 0)) (by (with_reducible repeat (first | refine blk_drewN ?_ _ | refine blk_drew ?_ | refine blk_alloc ?_ _)); exact BK251.out) hg (Kd.R_away HO_8.out (fun _ hk => hk.1)))
                      have n1_ := Aside0.mk (Kd.R_after (ok := (fun k_ => k_ ≠ gb251)) (by (with_reducible repeat (first | apply Kd.R_alloc | apply Kd.R_drewN | apply Kd.R_drew)); exact Kd.R_mono HO272.out (fun _ hk => ⟨hk.2, hk.1.2⟩)) hg hat)
                      have n2_ := Aside0.mk (hb)
                      have n3_ := Aside0.mk (ho)
                      clear BK251
                      clear HO272
                      clear HB
                      clear HO_8
                      have BK251 := n0_
                      have HO272 := n1_
                      have HB := n2_
                      have HO275 := n3_
                      clear n0_ n1_ n2_ n3_
                      clear ho hb hg hat
                      refine hK.out _ _ ⟨(blk_cell BK251.out 0).trans rfl, (blk_cell BK251.out 1).trans rfl, ((HB.out.cell (World.block_lt_of_cell? w _ hw267_0)).trans hw267_0), ((HB.out.cell (World.block_lt_of_cell? w _ hw267_1)).trans hw267_1), ((HB.out.cell (World.block_lt_of_cell? w _ hw269_0)).trans hw269_0), ((HB.out.cell (World.block_lt_of_cell? w _ hw269_1)).trans hw269_1)⟩ (fun hHeld => ?_)
                      clear hK K
                      refine norm_ (a' := ?_) ?_ ?_
                      rotate_left
                      · show Act.put _ (some 58) _ = _
                        simp only [Act.put, List.setIfInBounds_toArray, List.set_cons_zero, List.set_cons_succ, i64_w, i32_w]
                        rfl
                      refine pure_ (i := 16) (N := some 8) (v := ?_) (a' := ?_) #[true, true, true, true, true, true, true, true, true, true, true, true, true, true, true, true, true] rfl rfl (any_of HT_.out (by kernel_rfl)) (fun _ _ _ h => h) (Or.inl ⟨by rfl, ?_⟩) ?_ ?_
                      rotate_left
                      · intro w'
                        go_simp
                        with_reducible rfl
                      rotate_left
                      · simp only [Act.put, List.setIfInBounds_toArray, List.set_cons_zero, List.set_cons_succ, i64_w, i32_w]
                        rfl
                      refine done_ (done_of HT_.out (by kernel_rfl)) ?_
                      try go_wp2
                      go_roundg k2
                      case measure => have := HJ7.out; have := HK2.out; omega
                      case rel => exact ⟨(y273), (wrap64 (x9_2 + 1)), (by first | rfl | (simp; done) | (simp [*]; done) | (simp [q_ne_nil]; done)), H', ⟨by have := HJ7.out; have := HK2.out; omega⟩, ⟨by (with_reducible repeat (first | apply Kd.R_alloc | apply Kd.R_drewN | apply Kd.R_drew)); exact Kd.R_mono HO275.out (fun _ hk => hk.2)⟩, ⟨by (with_reducible repeat (first | refine blk_drewN ?_ _ | refine blk_drew ?_ | refine blk_alloc ?_ _)); exact BK251.out⟩, ⟨by repeat (first | (with_reducible first | exact HB.out | apply below_alloc | apply pw_below_drewN | apply below_drew1 | refine below_set ?_ GE251.out) | exact HB.out)⟩⟩
                    · rw [if_neg c30] at H
                      exact absurd H (by simp)
                  · rw [if_neg c28] at H
                    exact absurd H (by simp)
                · rw [if_neg c27] at H
                  have c27b0 : decide (x9_2 < (l0.length : Int)) = false := decide_eq_false c27
                  clear c27
                  by_cases c37 : (x8_2.length : Int) > 100
                  · rw [if_pos c37] at H
                    have c37b0 : decide (100 < (x8_2.length : Int)) = true := decide_eq_true c37
                    have c37b1 : decide (100 < x8_2.length) = true := decide_eq_true (by omega)
                    clear c37
                    obtain rfl := Option.some.inj H
                    obtain ⟨Ao38, co38, eo38⟩ := Kd.R_slice HO_8.out
                    subst eo38
                    go_wp2
                    go_ret
                    exact ⟨by first | rfl | (simp [errW_none, errW_some] <;> rfl) | (simp [*, errW_none, errW_some] <;> rfl) | (simp [q_ne_nil]; done), by repeat (first | (with_reducible first | exact HB.out | apply below_alloc | apply pw_below_drewN | apply below_drew1 | refine below_set ?_ GE251.out) | exact HB.out)⟩
                  · rw [if_neg c37] at H
                    have c37b0 : decide (100 < (x8_2.length : Int)) = false := decide_eq_false c37
                    have c37b1 : decide (100 < x8_2.length) = false := decide_eq_false (by omega)
                    clear c37
                    by_cases c39 : t252 = true
                    · subst c39
                      have H1 : ((embedhdr_Corp.f l0).bind fun t276 => ((embedhdr_Corp.f x8_2).bind fun t277 => (if t276 = t277 then ((embedhdr_Xfo.f l0).bind fun t278 => ((embedhdr_Xfo.f x8_2).bind fun t279 => (some (t278 == t279)))) else (some false)))) = some r := by rw [if_pos rfl] at H; exact H
                      clear H
                      have H := H1
                      clear H1
                      replace H := Option.bind_eq_some_iff.mp H
                      obtain ⟨t276, A400, H⟩ := H
                      replace H : ((embedhdr_Corp.f x8_2).bind fun t277 => (if t276 = t277 then ((embedhdr_Xfo.f l0).bind fun t278 => ((embedhdr_Xfo.f x8_2).bind fun t279 => (some (t278 == t279)))) else (some false))) = some r := H
                      have A40 := Aside0.mk A400
                      clear A400
                      replace H := Option.bind_eq_some_iff.mp H
                      obtain ⟨t277, A410, H⟩ := H
                      replace H : (if t276 = t277 then ((embedhdr_Xfo.f l0).bind fun t278 => ((embedhdr_Xfo.f x8_2).bind fun t279 => (some (t278 == t279)))) else (some false)) = some r := H
                      have A41 := Aside0.mk A410
                      clear A410
                      by_cases c42 : t276 = t277
                      · rw [if_pos c42] at H
                        have c42b0 : (t276 == t277) = true := beq_iff_eq.mpr c42
                        have c42b1 : (t276 != t277) = false := bne_eq_false_iff_eq.mpr c42
                        clear c42
                        replace H := Option.bind_eq_some_iff.mp H
                        obtain ⟨t278, A430, H⟩ := H
                        replace H : ((embedhdr_Xfo.f x8_2).bind fun t279 => (some (t278 == t279))) = some r := H
                        have A43 := Aside0.mk A430
                        clear A430
                        replace H := Option.bind_eq_some_iff.mp H
                        obtain ⟨t279, A440, H⟩ := H
                        replace H : (some (t278 == t279)) = some r := H
                        have A44 := Aside0.mk A440
                        clear A440
                        obtain rfl := Option.some.inj H
                        obtain ⟨Ao45, co45, eo45⟩ := Kd.R_slice HO_8.out
                        subst eo45
                        go_wp2_with (first | (go_at_call 11; (with_reducible refine (embedhdr_Corp.calls _ _ l0 t276 _ ?side1 ?side2 A40.out).mono ?_); (case side1 => repeat (first | exact (Kd.C_below HR0.out HB.out) | (with_reducible refine Kd.C_alloc ?_ _) | (with_reducible refine Kd.C_drewN ?_ _) | (with_reducible refine Kd.C_drew ?_))); (case side2 => exact HC0.out); rintro e w46 ⟨rfl, hb⟩; have n0_ := Aside0.mk (Kd.R_below (by (with_reducible repeat (first | apply Kd.R_alloc | apply Kd.R_drewN | apply Kd.R_drew)); exact HO_8.out) hb); have n1_ := Aside0.mk (blk_below (g := gb251) (o := .cells #[.string a1_0, .string a1_1] 28 (0, 0)) (by (with_reducible repeat (first | refine blk_drewN ?_ _ | refine blk_drew ?_ | refine blk_alloc ?_ _)); exact BK251.out) hb); have n2_ := Aside0.mk (below_step (by repeat (first | (with_reducible first | exact HB.out | apply below_alloc | apply pw_below_drewN | apply below_drew1 | refine below_set ?_ GE251.out) | exact HB.out)) hb); clear HO_8; clear BK251; clear HB; have HO_8 := n0_; have BK251 := n1_; have HB := n2_; clear n0_ n1_ n2_; (try clear hb); (try clear hb2); (try clear hk); (try clear hi)) | (go_at_call 11; (with_reducible refine (embedhdr_Corp.calls _ _ x8_2 t277 _ ?side1 ?side2 A41.out).mono ?_); (case side1 => repeat (first | exact (Kd.R_reads' HO_8.out).2.2 | (with_reducible refine Kd.C_alloc ?_ _) | (with_reducible refine Kd.C_drewN ?_ _) | (with_reducible refine Kd.C_drew ?_))); (case side2 => exact (Kd.R_reads' HO_8.out).2.1); rintro e w47 ⟨rfl, hb⟩; have n0_ := Aside0.mk (Kd.R_below (by (with_reducible repeat (first | apply Kd.R_alloc | apply Kd.R_drewN | apply Kd.R_drew)); exact HO_8.out) hb); have n1_ := Aside0.mk (blk_below (g := gb251) (o := .cells #[.string a1_0, .string a1_1] 28 (0, 0)) (by (with_reducible repeat (first | refine blk_drewN ?_ _ | refine blk_drew ?_ | refine blk_alloc ?_ _)); exact BK251.out) hb); have n2_ := Aside0.mk (below_step (by repeat (first | (with_reducible first | exact HB.out | apply below_alloc | apply pw_below_drewN | apply below_drew1 | refine below_set ?_ GE251.out) | exact HB.out)) hb); clear HO_8; clear BK251; clear HB; have HO_8 := n0_; have BK251 := n1_; have HB := n2_; clear n0_ n1_ n2_; (try clear hb); (try clear hb2); (try clear hk); (try clear hi)) | (go_at_call 13; (with_reducible refine (embedhdr_Xfo.calls _ _ l0 t278 _ ?side1 ?side2 A43.out).mono ?_); (case side1 => repeat (first | exact (Kd.C_below HR0.out HB.out) | (with_reducible refine Kd.C_alloc ?_ _) | (with_reducible refine Kd.C_drewN ?_ _) | (with_reducible refine Kd.C_drew ?_))); (case side2 => exact HC0.out); rintro e w48 ⟨rfl, hb⟩; have n0_ := Aside0.mk (Kd.R_below (by (with_reducible repeat (first | apply Kd.R_alloc | apply Kd.R_drewN | apply Kd.R_drew)); exact HO_8.out) hb); have n1_ := Aside0.mk (blk_below (g := gb251) (o := .cells #[.string a1_0, .string a1_1] 28 (0, 0)) (by (with_reducible repeat (first | refine blk_drewN ?_ _ | refine blk_drew ?_ | refine blk_alloc ?_ _)); exact BK251.out) hb); have n2_ := Aside0.mk (below_step (by repeat (first | (with_reducible first | exact HB.out | apply below_alloc | apply pw_below_drewN | apply below_drew1 | refine below_set ?_ GE251.out) | exact HB.out)) hb); clear HO_8; clear BK251; clear HB; have HO_8 := n0_; have BK251 := n1_; have HB := n2_; clear n0_ n1_ n2_; (try clear hb); (try clear hb2); (try clear hk); (try clear hi)) | (go_at_call 13; (with_reducible refine (embedhdr_Xfo.calls _ _ x8_2 t279 _ ?side1 ?side2 A44.out).mono ?_); (case side1 => repeat (first | exact (Kd.R_reads' HO_8.out).2.2 | (with_reducible refine Kd.C_alloc ?_ _) | (with_reducible refine Kd.C_drewN ?_ _) | (with_reducible refine Kd.C_drew ?_))); (case side2 => exact (Kd.R_reads' HO_8.out).2.1); rintro e w49 ⟨rfl, hb⟩; have n0_ := Aside0.mk (Kd.R_below (by (with_reducible repeat (first | apply Kd.R_alloc | apply Kd.R_drewN | apply Kd.R_drew)); exact HO_8.out) hb); have n1_ := Aside0.mk (blk_below (g := gb251) (o := .cells #[.string a1_0, .string a1_1] 28 (0, 0)) (by (with_reducible repeat (first | refine blk_drewN ?_ _ | refine blk_drew ?_ | refine blk_alloc ?_ _)); exact BK251.out) hb); have n2_ := Aside0.mk (below_step (by repeat (first | (with_reducible first | exact HB.out | apply below_alloc | apply pw_below_drewN | apply below_drew1 | refine below_set ?_ GE251.out) | exact HB.out)) hb); clear HO_8; clear BK251; clear HB; have HO_8 := n0_; have BK251 := n1_; have HB := n2_; clear n0_ n1_ n2_; (try clear hb); (try clear hb2); (try clear hk); (try clear hi)))
                        go_ret
                        exact ⟨by first | rfl | (simp [errW_none, errW_some] <;> rfl) | (simp [*, errW_none, errW_some] <;> rfl) | (simp [q_ne_nil]; done), by repeat (first | (with_reducible first | exact HB.out | apply below_alloc | apply pw_below_drewN | apply below_drew1 | refine below_set ?_ GE251.out) | exact HB.out)⟩
                      · rw [if_neg c42] at H
                        have c42b0 : (t276 == t277) = false := beq_eq_false_iff_ne.mpr c42
                        have c42b1 : (t276 != t277) = true := bne_iff_ne.mpr c42
                        obtain rfl := Option.some.inj H
                        obtain ⟨Ao50, co50, eo50⟩ := Kd.R_slice HO_8.out
                        subst eo50
                        go_wp2_with (first | (go_at_call 11; (with_reducible refine (embedhdr_Corp.calls _ _ l0 t276 _ ?side1 ?side2 A40.out).mono ?_); (case side1 => repeat (first | exact (Kd.C_below HR0.out HB.out) | (with_reducible refine Kd.C_alloc ?_ _) | (with_reducible refine Kd.C_drewN ?_ _) | (with_reducible refine Kd.C_drew ?_))); (case side2 => exact HC0.out); rintro e w51 ⟨rfl, hb⟩; have n0_ := Aside0.mk (Kd.R_below (by (with_reducible repeat (first | apply Kd.R_alloc | apply Kd.R_drewN | apply Kd.R_drew)); exact HO_8.out) hb); have n1_ := Aside0.mk (blk_below (g := gb251) (o := .cells #[.string a1_0, .string a1_1] 28 (0, 0)) (by (with_reducible repeat (first | refine blk_drewN ?_ _ | refine blk_drew ?_ | refine blk_alloc ?_ _)); exact BK251.out) hb); have n2_ := Aside0.mk (below_step (by repeat (first | (with_reducible first | exact HB.out | apply below_alloc | apply pw_below_drewN | apply below_drew1 | refine below_set ?_ GE251.out) | exact HB.out)) hb); clear HO_8; clear BK251; clear HB; have HO_8 := n0_; have BK251 := n1_; have HB := n2_; clear n0_ n1_ n2_; (try clear hb); (try clear hb2); (try clear hk); (try clear hi)) | (go_at_call 11; (with_reducible refine (embedhdr_Corp.calls _ _ x8_2 t277 _ ?side1 ?side2 A41.out).mono ?_); (case side1 => repeat (first | exact (Kd.R_reads' HO_8.out).2.2 | (with_reducible refine Kd.C_alloc ?_ _) | (with_reducible refine Kd.C_drewN ?_ _) | (with_reducible refine Kd.C_drew ?_))); (case side2 => exact (Kd.R_reads' HO_8.out).2.1); rintro e w52 ⟨rfl, hb⟩; have n0_ := Aside0.mk (Kd.R_below (by (with_reducible repeat (first | apply Kd.R_alloc | apply Kd.R_drewN | apply Kd.R_drew)); exact HO_8.out) hb); have n1_ := Aside0.mk (blk_below (g := gb251) (o := .cells #[.string a1_0, .string a1_1] 28 (0, 0)) (by (with_reducible repeat (first | refine blk_drewN ?_ _ | refine blk_drew ?_ | refine blk_alloc ?_ _)); exact BK251.out) hb); have n2_ := Aside0.mk (below_step (by repeat (first | (with_reducible first | exact HB.out | apply below_alloc | apply pw_below_drewN | apply below_drew1 | refine below_set ?_ GE251.out) | exact HB.out)) hb); clear HO_8; clear BK251; clear HB; have HO_8 := n0_; have BK251 := n1_; have HB := n2_; clear n0_ n1_ n2_; (try clear hb); (try clear hb2); (try clear hk); (try clear hi)))
                        go_ret
                        exact ⟨by first | rfl | (simp [errW_none, errW_some] <;> rfl) | (simp [*, errW_none, errW_some] <;> rfl) | (simp [q_ne_nil]; done), by repeat (first | (with_reducible first | exact HB.out | apply below_alloc | apply pw_below_drewN | apply below_drew1 | refine below_set ?_ GE251.out) | exact HB.out)⟩
                    · replace c39 := Bool.eq_false_iff.mpr c39
                      subst c39
                      have H1 : (some false) = some r := by rw [if_neg (show ¬ (false = true) by decide)] at H; exact H
                      clear H
                      have H := H1
                      clear H1
                      obtain rfl := Option.some.inj H
                      obtain ⟨Ao53, co53, eo53⟩ := Kd.R_slice HO_8.out
                      subst eo53
                      go_wp2
                      go_ret
                      exact ⟨by first | rfl | (simp [errW_none, errW_some] <;> rfl) | (simp [*, errW_none, errW_some] <;> rfl) | (simp [q_ne_nil]; done), by repeat (first | (with_reducible first | exact HB.out | apply below_alloc | apply pw_below_drewN | apply below_drew1 | refine below_set ?_ GE251.out) | exact HB.out)⟩
    · rw [if_neg c5] at H
      exact absurd H (by simp)
  · rw [if_neg c4] at H
    exact absurd H (by simp)

end Go.Proofs.YtbhokhidlgkakaaDoor.Q
