-- Laid by this seat's own driver (wip/tools/drive.py) out of the translation.
import Derived.Test.YtciigmlibnpeeaaDoorQx0
import Derived.Test.YtciigmlibnpeeaaDoorQx1
import Derived.Test.YtciigmlibnpeeaaDoorQx2
import Derived.Test.YtciigmlibnpeeaaDoorQx3
import Derived.Test.YtciigmlibnpeeaaDoorQx5
import Derived.Test.YtciigmlibnpeeaaDoorQx6
import Derived.Test.YtciigmlibnpeeaaDoorQx11
namespace Go.Proofs.YtciigmlibnpeeaaDoor.Q
open Go.RowKit Go.Proofs.YtciigmlibnpeeaaDoorW.PrintWords Go.Proofs.YtciigmlibnpeeaaDoorW.PrintLast Go.Proofs.YtciigmlibnpeeaaDoorW.PrintMore
attribute [local go_sem] max2_int min2_int max_two min_two max_three min_three max_four min_four   -- for this text's walks alone
set_option linter.unusedVariables false
set_option linter.unusedSimpArgs false

attribute [local go_sem high] eqA26 eqA29
theorem coop_off_ {l : List S33} {a c : Int} {b d : ByteArray} (h : coop_Coop.f l false = some (a, b, c, d)) : a = 0 ∧ b.toList = ([] : List UInt8) ∧ c = 0 ∧ d.toList = ([] : List UInt8) := by
  unfold coop_Coop.f at h
  rw [if_neg (by decide)] at h
  cases h
  exact ⟨rfl, by rw [Lib.toList_data], rfl, by rw [Lib.toList_data]⟩
theorem coep_off_ {l : List S33} {a c : Int} {b d : ByteArray} (h : coop_Coep.f l false = some (a, b, c, d)) : a = 0 ∧ b.toList = ([] : List UInt8) ∧ c = 0 ∧ d.toList = ([] : List UInt8) := by
  unfold coop_Coep.f at h
  rw [if_neg (by decide)] at h
  cases h
  exact ⟨rfl, by rw [Lib.toList_data], rfl, by rw [Lib.toList_data]⟩
/-! ### glacislaw08_CoopSecure: function 6 -/
mutual
def glacislaw08_CoopSecure.j0 : Nat → List (S33) → Int → Bool → Bool → ByteArray → ByteArray → Option (Bool)
  | 0, _, _, _, _, _, _ => none
  | k + 1, x0, x2, x7, x25, x219000, x219001 => if x25 = true then (some x7) else ((coop_Coop.f x0 false).bind fun bt233 => (if (!(bt233.1 == 0) || (!(bt233.2.1.toList == ([] : List UInt8)) || (!(bt233.2.2.1 == 0) || (!(bt233.2.2.2.toList == ([] : List UInt8)))))) = true then (glacislaw08_CoopSecure.j1 k x0 x2 x7 true x219000 x219001) else ((coop_Coep.f x0 false).bind fun bt237 => (glacislaw08_CoopSecure.j1 k x0 x2 x7 (!(bt237.1 == 0) || (!(bt237.2.1.toList == ([] : List UInt8)) || (!(bt237.2.2.1 == 0) || (!(bt237.2.2.2.toList == ([] : List UInt8)))))) x219000 x219001))))
def glacislaw08_CoopSecure.j1 : Nat → List (S33) → Int → Bool → Bool → ByteArray → ByteArray → Option (Bool)
  | 0, _, _, _, _, _, _ => none
  | k + 1, x0, x2, x7, x36, x219000, x219001 => if x36 = true then (none) else ((octet_Lower.f x219000).bind fun t241 => (if t241.toList = ([99, 114, 111, 115, 115, 45, 111, 114, 105, 103, 105, 110, 45, 111, 112, 101, 110, 101, 114, 45, 112, 111, 108, 105, 99, 121] : List UInt8) then (glacislaw08_CoopSecure.j2 k x0 x2 x7 true x219000 x219001) else (if t241.toList = ([99, 114, 111, 115, 115, 45, 111, 114, 105, 103, 105, 110, 45, 101, 109, 98, 101, 100, 100, 101, 114, 45, 112, 111, 108, 105, 99, 121] : List UInt8) then (glacislaw08_CoopSecure.j2 k x0 x2 x7 true x219000 x219001) else (if t241.toList = ([99, 114, 111, 115, 115, 45, 111, 114, 105, 103, 105, 110, 45, 111, 112, 101, 110, 101, 114, 45, 112, 111, 108, 105, 99, 121, 45, 114, 101, 112, 111, 114, 116, 45, 111, 110, 108, 121] : List UInt8) then (glacislaw08_CoopSecure.j2 k x0 x2 x7 true x219000 x219001) else (glacislaw08_CoopSecure.j2 k x0 x2 x7 (t241.toList == ([99, 114, 111, 115, 115, 45, 111, 114, 105, 103, 105, 110, 45, 101, 109, 98, 101, 100, 100, 101, 114, 45, 112, 111, 108, 105, 99, 121, 45, 114, 101, 112, 111, 114, 116, 45, 111, 110, 108, 121] : List UInt8)) x219000 x219001)))))
def glacislaw08_CoopSecure.j2 : Nat → List (S33) → Int → Bool → Bool → ByteArray → ByteArray → Option (Bool)
  | 0, _, _, _, _, _, _ => none
  | k + 1, x0, x2, x7, x53, x219000, x219001 => if x53 = true then (some x7) else (if x2 < 0 then (glacislaw08_CoopSecure.j3 k x0 (wrap64 (-(wrap64 (x2 + 1)))) x7 x219000 x219001) else (glacislaw08_CoopSecure.j3 k x0 x2 x7 x219000 x219001))
def glacislaw08_CoopSecure.j3 : Nat → List (S33) → Int → Bool → ByteArray → ByteArray → Option (Bool)
  | 0, _, _, _, _, _ => none
  | k + 1, x0, x2, x7, x219000, x219001 => if (wrap64 ((x0.length : Int) + 1)) = 0 then (none) else ((some (([] : List (S33)) : List (S33))).bind fun y242 => (if 0 ≤ (Int.tmod x2 (wrap64 ((x0.length : Int) + 1))) then (if (Int.tmod x2 (wrap64 ((x0.length : Int) + 1))) ≤ (x0.length : Int) then ((some (x0.take ((Int.tmod x2 (wrap64 ((x0.length : Int) + 1))) : Int).toNat : List (S33))).bind fun y245 => (if y242.length + y245.length < 4398046511104 then ((some (y242 ++ y245 : List (S33))).bind fun y249 => ((some (([(⟨x219000, x219001⟩ : S33)] : List (S33)) : List (S33))).bind fun y252 => (if y249.length + y252.length < 4398046511104 then ((some (y249 ++ y252 : List (S33))).bind fun y255 => ((some (x0.drop ((Int.tmod x2 (wrap64 ((x0.length : Int) + 1))) : Int).toNat : List (S33))).bind fun y258 => (if y255.length + y258.length < 4398046511104 then ((some (y255 ++ y258 : List (S33))).bind fun y262 => (if x7 = true then ((coop_Coop.f x0 true).bind fun bt265 => ((coop_Coop.f y262 true).bind fun bt269 => (if (bt265.1 == bt269.1 && (bt265.2.1.toList == bt269.2.1.toList && (bt265.2.2.1 == bt269.2.2.1 && (bt265.2.2.2.toList == bt269.2.2.2.toList)))) = true then ((coop_Coep.f x0 true).bind fun bt273 => ((coop_Coep.f y262 true).bind fun bt277 => (some (bt273.1 == bt277.1 && (bt273.2.1.toList == bt277.2.1.toList && (bt273.2.2.1 == bt277.2.2.1 && (bt273.2.2.2.toList == bt277.2.2.2.toList))))))) else (none)))) else (none))) else (none)))) else (none)))) else (none))) else (none)) else (none)))
end
def glacislaw08_CoopSecure.f (k : Nat) (l0 : List (S33)) (a1_0 : ByteArray) (a1_1 : ByteArray) (a2 : Int) : Option (Bool) := (glacislaw08_awake.f k).bind fun t219 => ((some (([] : List (S33)) : List (S33))).bind fun y220 => (if y220.length + l0.length < 4398046511104 then ((some (y220 ++ l0 : List (S33))).bind fun y223 => ((some (([(⟨a1_0, a1_1⟩ : S33)] : List (S33)) : List (S33))).bind fun y226 => (if y223.length + y226.length < 4398046511104 then ((glacislaw08_Few.f k (y223 ++ y226)).bind fun t232 => (if t232 = true then (glacislaw08_CoopSecure.j0 k l0 a2 t219 (decide ((l0.length : Int) > 90)) a1_0 a1_1) else (glacislaw08_CoopSecure.j0 k l0 a2 t219 true a1_0 a1_1))) else (none)))) else (none)))
theorem glacislaw08_CoopSecure.mono_l : ∀ k, (∀ y0 y1 y2 y3 y4 y5, LeO (glacislaw08_CoopSecure.j0 k y0 y1 y2 y3 y4 y5) (glacislaw08_CoopSecure.j0 (k + 1) y0 y1 y2 y3 y4 y5)) ∧ (∀ y0 y1 y2 y3 y4 y5, LeO (glacislaw08_CoopSecure.j1 k y0 y1 y2 y3 y4 y5) (glacislaw08_CoopSecure.j1 (k + 1) y0 y1 y2 y3 y4 y5)) ∧ (∀ y0 y1 y2 y3 y4 y5, LeO (glacislaw08_CoopSecure.j2 k y0 y1 y2 y3 y4 y5) (glacislaw08_CoopSecure.j2 (k + 1) y0 y1 y2 y3 y4 y5)) ∧ (∀ y0 y1 y2 y3 y4, LeO (glacislaw08_CoopSecure.j3 k y0 y1 y2 y3 y4) (glacislaw08_CoopSecure.j3 (k + 1) y0 y1 y2 y3 y4))
  | 0 => ⟨fun _ _ _ _ _ _ r h => by simp [glacislaw08_CoopSecure.j0] at h, fun _ _ _ _ _ _ r h => by simp [glacislaw08_CoopSecure.j1] at h, fun _ _ _ _ _ _ r h => by simp [glacislaw08_CoopSecure.j2] at h, fun _ _ _ _ _ r h => by simp [glacislaw08_CoopSecure.j3] at h⟩
  | k + 1 => by
    obtain ⟨ih0, ih1, ih2, ih3⟩ := glacislaw08_CoopSecure.mono_l k
    refine ⟨?_, ?_, ?_, ?_⟩
    · intro y0 y1 y2 y3 y4 y5
      unfold glacislaw08_CoopSecure.j0
      repeat' first
      | (with_reducible exact ih0 _ _ _ _ _ _)
      | (with_reducible exact ih1 _ _ _ _ _ _)
      | (with_reducible exact ih2 _ _ _ _ _ _)
      | (with_reducible exact ih3 _ _ _ _ _)
      | (with_reducible exact glacislaw08_Few.mono _ _)
      | (with_reducible exact glacislaw08_awake.mono _)
      | (with_reducible exact LeO.refl _)
      | (with_reducible exact LeO.none _)
      | (with_reducible refine LeO.ite ?_ ?_)
      | (with_reducible refine LeO.bind ?_ (fun _ => ?_))
      | exact ih0 _ _ _ _ _ _
      | exact ih1 _ _ _ _ _ _
      | exact ih2 _ _ _ _ _ _
      | exact ih3 _ _ _ _ _
      | exact glacislaw08_Few.mono _ _
      | exact glacislaw08_awake.mono _
      | exact LeO.none _
      | refine LeO.ite ?_ ?_
      | refine LeO.bind ?_ (fun _ => ?_)
    · intro y0 y1 y2 y3 y4 y5
      unfold glacislaw08_CoopSecure.j1
      repeat' first
      | (with_reducible exact ih0 _ _ _ _ _ _)
      | (with_reducible exact ih1 _ _ _ _ _ _)
      | (with_reducible exact ih2 _ _ _ _ _ _)
      | (with_reducible exact ih3 _ _ _ _ _)
      | (with_reducible exact glacislaw08_Few.mono _ _)
      | (with_reducible exact glacislaw08_awake.mono _)
      | (with_reducible exact LeO.refl _)
      | (with_reducible exact LeO.none _)
      | (with_reducible refine LeO.ite ?_ ?_)
      | (with_reducible refine LeO.bind ?_ (fun _ => ?_))
      | exact ih0 _ _ _ _ _ _
      | exact ih1 _ _ _ _ _ _
      | exact ih2 _ _ _ _ _ _
      | exact ih3 _ _ _ _ _
      | exact glacislaw08_Few.mono _ _
      | exact glacislaw08_awake.mono _
      | exact LeO.none _
      | refine LeO.ite ?_ ?_
      | refine LeO.bind ?_ (fun _ => ?_)
    · intro y0 y1 y2 y3 y4 y5
      unfold glacislaw08_CoopSecure.j2
      repeat' first
      | (with_reducible exact ih0 _ _ _ _ _ _)
      | (with_reducible exact ih1 _ _ _ _ _ _)
      | (with_reducible exact ih2 _ _ _ _ _ _)
      | (with_reducible exact ih3 _ _ _ _ _)
      | (with_reducible exact glacislaw08_Few.mono _ _)
      | (with_reducible exact glacislaw08_awake.mono _)
      | (with_reducible exact LeO.refl _)
      | (with_reducible exact LeO.none _)
      | (with_reducible refine LeO.ite ?_ ?_)
      | (with_reducible refine LeO.bind ?_ (fun _ => ?_))
      | exact ih0 _ _ _ _ _ _
      | exact ih1 _ _ _ _ _ _
      | exact ih2 _ _ _ _ _ _
      | exact ih3 _ _ _ _ _
      | exact glacislaw08_Few.mono _ _
      | exact glacislaw08_awake.mono _
      | exact LeO.none _
      | refine LeO.ite ?_ ?_
      | refine LeO.bind ?_ (fun _ => ?_)
    · intro y0 y1 y2 y3 y4
      unfold glacislaw08_CoopSecure.j3
      repeat' first
      | (with_reducible exact ih0 _ _ _ _ _ _)
      | (with_reducible exact ih1 _ _ _ _ _ _)
      | (with_reducible exact ih2 _ _ _ _ _ _)
      | (with_reducible exact ih3 _ _ _ _ _)
      | (with_reducible exact glacislaw08_Few.mono _ _)
      | (with_reducible exact glacislaw08_awake.mono _)
      | (with_reducible exact LeO.refl _)
      | (with_reducible exact LeO.none _)
      | (with_reducible refine LeO.ite ?_ ?_)
      | (with_reducible refine LeO.bind ?_ (fun _ => ?_))
      | exact ih0 _ _ _ _ _ _
      | exact ih1 _ _ _ _ _ _
      | exact ih2 _ _ _ _ _ _
      | exact ih3 _ _ _ _ _
      | exact glacislaw08_Few.mono _ _
      | exact glacislaw08_awake.mono _
      | exact LeO.none _
      | refine LeO.ite ?_ ?_
      | refine LeO.bind ?_ (fun _ => ?_)
theorem glacislaw08_CoopSecure.mono : ∀ a0 a1 a2 a3 k, LeO (glacislaw08_CoopSecure.f k a0 a1 a2 a3) (glacislaw08_CoopSecure.f (k + 1) a0 a1 a2 a3) := by
  intro a0 a1 a2 a3 k
  obtain ⟨ih0, ih1, ih2, ih3⟩ := glacislaw08_CoopSecure.mono_l k
  unfold glacislaw08_CoopSecure.f
  repeat' first
      | (with_reducible exact ih0 _ _ _ _ _ _)
      | (with_reducible exact ih1 _ _ _ _ _ _)
      | (with_reducible exact ih2 _ _ _ _ _ _)
      | (with_reducible exact ih3 _ _ _ _ _)
      | (with_reducible exact glacislaw08_Few.mono _ _)
      | (with_reducible exact glacislaw08_awake.mono _)
      | (with_reducible exact LeO.refl _)
      | (with_reducible exact LeO.none _)
      | (with_reducible refine LeO.ite ?_ ?_)
      | (with_reducible refine LeO.bind ?_ (fun _ => ?_))
      | exact ih0 _ _ _ _ _ _
      | exact ih1 _ _ _ _ _ _
      | exact ih2 _ _ _ _ _ _
      | exact ih3 _ _ _ _ _
      | exact glacislaw08_Few.mono _ _
      | exact glacislaw08_awake.mono _
      | exact LeO.none _
      | refine LeO.ite ?_ ?_
      | refine LeO.bind ?_ (fun _ => ?_)
def glacislaw08_CoopSecure.T2 : Bool × List (List Nat × List Nat) := (true, [([], []), ([], []), ([0, 1], [0, 1]), ([], []), ([3], [3]), ([2, 4, 2], [2, 4]), ([5, 5], [5]), ([6, 6, 0, 1, 2, 3, 4, 5, 6], [6])])
def glacislaw08_CoopSecure.B2 : List Nat := [0, 0, 3, 0, 8, 31, 63, 127]
theorem glacislaw08_CoopSecure.tab2 : rtab .any (opsOf Tryd.f6 2) = glacislaw08_CoopSecure.T2 := by kernel_rfl
theorem glacislaw08_CoopSecure.bits2 : waitsOk glacislaw08_CoopSecure.T2.2 glacislaw08_CoopSecure.B2 = true := by kernel_rfl
def glacislaw08_CoopSecure.T13 : Bool × List (List Nat × List Nat) := (true, [([], []), ([], []), ([], []), ([1, 2], [1, 2]), ([0, 3], [0, 3]), ([], []), ([5], [5]), ([4, 6, 4], [4, 6]), ([], []), ([], []), ([8, 9], [8, 9]), ([7, 10, 7], [7, 10]), ([11, 11, 0, 1, 2, 3, 4, 5, 6, 7, 8, 9, 10, 11], [11])])
def glacislaw08_CoopSecure.B13 : List Nat := [0, 0, 0, 6, 15, 0, 32, 127, 0, 0, 768, 2047, 4095]
theorem glacislaw08_CoopSecure.tab13 : rtab .any (opsOf Tryd.f6 13) = glacislaw08_CoopSecure.T13 := by kernel_rfl
theorem glacislaw08_CoopSecure.bits13 : waitsOk glacislaw08_CoopSecure.T13.2 glacislaw08_CoopSecure.B13 = true := by kernel_rfl
set_option maxHeartbeats 8000000 in
set_option maxRecDepth 100000 in
theorem glacislaw08_CoopSecure.calls (k : Nat) (A0 : Option Addr) (c0 : Nat) (l0 : List (S33)) (a1_0 : ByteArray) (a1_1 : ByteArray) (a2 : Int) (r : Bool) (w : World) (hr0 : Kd.C k33 w A0 l0.length l0) (hc0 : l0.length ≤ c0) (h : glacislaw08_CoopSecure.f k l0 a1_0 a1_1 a2 = some r) :
    Calls Tryd.prog 6 #[.slice A0 l0.length c0, .agg #[.string a1_0, .string a1_1], .int .i64 a2] w fun e w' => e = .returned (.bool r) ∧ Below w.heap.size w w' := by
  have hu33 := Tryd.underlying33
  have hu26 := Tryd.underlying26
  have hu29 := Tryd.underlying29
  have HR0 := Aside0.mk hr0
  have HC0 := Aside0.mk hc0
  clear hr0 hc0
  have HB := Aside0.mk (Below.refl w.heap.size w)
  have H : ((glacislaw08_awake.f k).bind fun t219 => ((some (([] : List (S33)) : List (S33))).bind fun y220 => (if y220.length + l0.length < 4398046511104 then ((some (y220 ++ l0 : List (S33))).bind fun y223 => ((some (([(⟨a1_0, a1_1⟩ : S33)] : List (S33)) : List (S33))).bind fun y226 => (if y223.length + y226.length < 4398046511104 then ((glacislaw08_Few.f k (y223 ++ y226)).bind fun t232 => (if t232 = true then (glacislaw08_CoopSecure.j0 k l0 a2 t219 (decide ((l0.length : Int) > 90)) a1_0 a1_1) else (glacislaw08_CoopSecure.j0 k l0 a2 t219 true a1_0 a1_1))) else (none)))) else (none)))) = some r := h
  clear h
  replace H := Option.bind_eq_some_iff.mp H
  obtain ⟨t219, A40, H⟩ := H
  replace H : ((some (([] : List (S33)) : List (S33))).bind fun y220 => (if y220.length + l0.length < 4398046511104 then ((some (y220 ++ l0 : List (S33))).bind fun y223 => ((some (([(⟨a1_0, a1_1⟩ : S33)] : List (S33)) : List (S33))).bind fun y226 => (if y223.length + y226.length < 4398046511104 then ((glacislaw08_Few.f k (y223 ++ y226)).bind fun t232 => (if t232 = true then (glacislaw08_CoopSecure.j0 k l0 a2 t219 (decide ((l0.length : Int) > 90)) a1_0 a1_1) else (glacislaw08_CoopSecure.j0 k l0 a2 t219 true a1_0 a1_1))) else (none)))) else (none))) = some r := H
  have A4 := Aside0.mk A40
  clear A40
  obtain ⟨y220, hy220⟩ : ∃ y_ : List (S33), y_ = (([] : List (S33))) := ⟨_, rfl⟩
  replace H : (if y220.length + l0.length < 4398046511104 then ((some (y220 ++ l0 : List (S33))).bind fun y223 => ((some (([(⟨a1_0, a1_1⟩ : S33)] : List (S33)) : List (S33))).bind fun y226 => (if y223.length + y226.length < 4398046511104 then ((glacislaw08_Few.f k (y223 ++ y226)).bind fun t232 => (if t232 = true then (glacislaw08_CoopSecure.j0 k l0 a2 t219 (decide ((l0.length : Int) > 90)) a1_0 a1_1) else (glacislaw08_CoopSecure.j0 k l0 a2 t219 true a1_0 a1_1))) else (none)))) else (none)) = some r := by first | (rw [hy220]; with_reducible exact H) | (have H2_ := (Option.bind_some _ _).symm.trans H; rw [hy220]; with_reducible exact H2_) | (have H2_ := (Option.bind_some _ _).symm.trans H; with_reducible exact H2_) | with_reducible exact H | (rw [hy220]; exact H) | exact H
  have Ny220 := Aside0.mk hy220
  clear hy220
  by_cases c5 : y220.length + l0.length < 4398046511104
  · rw [if_pos c5] at H
    have LMc5 := Aside0.mk c5
    clear c5
    obtain ⟨y223, hy223⟩ : ∃ y_ : List (S33), y_ = (y220 ++ l0) := ⟨_, rfl⟩
    replace H : ((some (([(⟨a1_0, a1_1⟩ : S33)] : List (S33)) : List (S33))).bind fun y226 => (if y223.length + y226.length < 4398046511104 then ((glacislaw08_Few.f k (y223 ++ y226)).bind fun t232 => (if t232 = true then (glacislaw08_CoopSecure.j0 k l0 a2 t219 (decide ((l0.length : Int) > 90)) a1_0 a1_1) else (glacislaw08_CoopSecure.j0 k l0 a2 t219 true a1_0 a1_1))) else (none))) = some r := by first | (rw [hy223]; with_reducible exact H) | (have H2_ := (Option.bind_some _ _).symm.trans H; rw [hy223]; with_reducible exact H2_) | (have H2_ := (Option.bind_some _ _).symm.trans H; with_reducible exact H2_) | with_reducible exact H | (rw [hy223]; exact H) | exact H
    have Ny223 := Aside0.mk hy223
    clear hy223
    obtain ⟨y226, hy226⟩ : ∃ y_ : List (S33), y_ = (([(⟨a1_0, a1_1⟩ : S33)] : List (S33))) := ⟨_, rfl⟩
    replace H : (if y223.length + y226.length < 4398046511104 then ((glacislaw08_Few.f k (y223 ++ y226)).bind fun t232 => (if t232 = true then (glacislaw08_CoopSecure.j0 k l0 a2 t219 (decide ((l0.length : Int) > 90)) a1_0 a1_1) else (glacislaw08_CoopSecure.j0 k l0 a2 t219 true a1_0 a1_1))) else (none)) = some r := by first | (rw [hy226]; with_reducible exact H) | (have H2_ := (Option.bind_some _ _).symm.trans H; rw [hy226]; with_reducible exact H2_) | (have H2_ := (Option.bind_some _ _).symm.trans H; with_reducible exact H2_) | with_reducible exact H | (rw [hy226]; exact H) | exact H
    have Ny226 := Aside0.mk hy226
    clear hy226
    by_cases c6 : y223.length + y226.length < 4398046511104
    · rw [if_pos c6] at H
      have LMc6 := Aside0.mk c6
      clear c6
      obtain ⟨y229, hy229⟩ : ∃ y_ : List (S33), y_ = (y223 ++ y226) := ⟨_, rfl⟩
      replace H : ((glacislaw08_Few.f k y229).bind fun t232 => (if t232 = true then (glacislaw08_CoopSecure.j0 k l0 a2 t219 (decide ((l0.length : Int) > 90)) a1_0 a1_1) else (glacislaw08_CoopSecure.j0 k l0 a2 t219 true a1_0 a1_1))) = some r := by first | (rw [hy229]; with_reducible exact H) | (have H2_ := (Option.bind_some _ _).symm.trans H; rw [hy229]; with_reducible exact H2_) | (have H2_ := (Option.bind_some _ _).symm.trans H; with_reducible exact H2_) | with_reducible exact H | (rw [hy229]; exact H) | exact H
      have Ny229 := Aside0.mk hy229
      clear hy229
      replace H := Option.bind_eq_some_iff.mp H
      obtain ⟨t232, A70, H⟩ := H
      replace H : (if t232 = true then (glacislaw08_CoopSecure.j0 k l0 a2 t219 (decide ((l0.length : Int) > 90)) a1_0 a1_1) else (glacislaw08_CoopSecure.j0 k l0 a2 t219 true a1_0 a1_1)) = some r := H
      have A7 := Aside0.mk A70
      clear A70
      have HC8 := Aside0.mk H
      clear H
      go_enter Tryd.func6, Tryd.ntmps6
      try go_wp2_with (first | ((with_reducible refine gate_dst (N := 4) rfl ?_); (try (refine gate_guard (by rfl) ?_; dsimp only)); refine box_event ?hg (N := 4) ?hd (cs := #[.string a1_0, .string a1_1]) (t := 33) ?hr ?_; (case hd => rfl); (case hg => rfl); (case hr => first | (go_simp; done) | (go_simp; rfl)); intro gb218 hg w9 hbox hb; have n0_ := Aside0.mk (below_step (by repeat (first | (with_reducible first | exact HB.out | apply below_alloc | apply pw_below_drewN | apply below_drew1) | exact HB.out)) hb); have n1_ := Aside0.mk (hbox); have n2_ := Aside0.mk ((by rw [hg]; exact (below_size (by repeat (first | (with_reducible first | exact HB.out | apply below_alloc | apply pw_below_drewN | apply below_drew1) | exact HB.out))) : w.heap.size ≤ gb218)); have n3_ := Aside0.mk ((by rw [hg]; exact (below_size (by repeat (first | (with_reducible first | exact HB.out | apply below_alloc | apply pw_below_drewN | apply below_drew1) | exact HB.out))) : w.heap.size ≤ gb218)); clear HB; have HB := n0_; have BK218 := n1_; have GW218 := n2_; have GE218 := n3_; clear n0_ n1_ n2_ n3_; clear hb hbox hg) | ((with_reducible refine gate_callee (f := 7) rfl ?_); refine goesL_ (some 11) rfl rfl Tryd.func7 (by kernel_rfl) rfl #[] rfl (by (try simp only [List.map_toArray, List.map_cons, List.map_nil]); first | done | rfl | (simp only [List.length_drop, List.length_take]; rfl)) ?_; (with_reducible refine (glacislaw08_awake.calls k  t219 _ A4.out).mono ?_); rintro e w10 ⟨rfl, hb⟩; refine ⟨_, rfl, ?_⟩; have n0_ := Aside0.mk (blk_below (g := gb218) (o := .cells #[.string a1_0, .string a1_1] 33 (0, 0)) (by (with_reducible repeat (first | refine blk_drewN ?_ _ | refine blk_drew ?_ | refine blk_alloc ?_ _)); exact BK218.out) hb); have n1_ := Aside0.mk (below_step (by repeat (first | (with_reducible first | exact HB.out | apply below_alloc | apply pw_below_drewN | apply below_drew1 | refine below_set ?_ GE218.out) | exact HB.out)) hb); clear BK218; clear HB; have BK218 := n0_; have HB := n1_; clear n0_ n1_; (try clear hb); (try clear hb2); (try clear hk); (try clear hi)))
      have n0_ := Aside0.mk (blk_drew BK218.out)
      have n1_ := Aside0.mk (below_drew1 HB.out)
      clear BK218
      clear HB
      have BK218 := n0_
      have HB := n1_
      clear n0_ n1_
      refine start_ (n := 8) (S := fun w' => w'.cell? ⟨gb218, 0, none⟩ = some (.string a1_0) ∧ w'.cell? ⟨gb218, 1, none⟩ = some (.string a1_1)) (ds := []) #[false, false, false, false, false, false, false, false] (by kernel_rfl) rfl rfl ⟨(blk_cell BK218.out 0).trans rfl, (blk_cell BK218.out 1).trans rfl⟩ (fun hHeld => ?_); refine with_tabW glacislaw08_CoopSecure.tab2 glacislaw08_CoopSecure.bits2 (fun HT_ HW_ => ?_)
      generalize w10.drew = w11 at BK218 HB hHeld ⊢
      refine pure_ (i := 1) (N := some 13) (v := ?_) (a' := ?_) #[false, true, false, false, false, false, false, false] rfl rfl (any_of HT_.out (by kernel_rfl)) (fun _ _ _ h => h) (Or.inl ⟨by rfl, ?_⟩) ?_ ?_
      rotate_left
      · intro w'
        go_simp
        with_reducible rfl
      rotate_left
      · simp only [Act.put, List.setIfInBounds_toArray, List.set_cons_zero, List.set_cons_succ, i64_w, i32_w]
        rfl
      refine take_ (i := 3) (N := some 15) (v := ?_) (a' := ?_) #[false, true, false, true, false, false, false, false] rfl rfl (take_ofW HT_.out HW_.out (by kernel_rfl)) (fun _ _ _ h => h) (Or.inl ⟨by rfl, ?_⟩) hHeld ?_ ?_
      rotate_left
      · rintro w' ⟨s0, s1⟩
        go_simp
        with_reducible rfl
      rotate_left
      · simp only [Act.put, List.setIfInBounds_toArray, List.set_cons_zero, List.set_cons_succ, i64_w, i32_w]
        rfl
      refine join_ (σ := Value × Value × Value) 3 #[true, true, true, true, true, false, false, false] (fun s_ => [(12, s_.1), (14, s_.2.1), (16, s_.2.2)]) (fun s_ w' => (w'.cell? ⟨gb218, 0, none⟩ = some (.string a1_0) ∧ w'.cell? ⟨gb218, 1, none⟩ = some (.string a1_1)) ∧ (Kd.R k33 33 w' w.heap.size (fun k_ => some k_ ≠ (s_.2.2 : Value).ownBlock ∧ k_ ≠ gb218) s_.2.1 y223) ∧ (Kd.R k33 33 w' w.heap.size (fun k_ => some k_ ≠ (s_.2.1 : Value).ownBlock ∧ k_ ≠ gb218) s_.2.2 y226) ∧ (w'.heap[gb218]? = some (.cells #[.string a1_0, .string a1_1] 33 (0, 0))) ∧ (Below w.heap.size w w')) ?_ ?_
      rotate_left
      · intro hCont
        refine two_ (i := 0) (j := 4) (Ni := some 12) (Nj := some 16) #[true, true, false, true, false, false, false, false] #[false, true, false, true, true, false, false, false] rfl rfl rfl rfl (two_of HT_.out (by kernel_rfl)) (by decide) (by decide) (fun K hK => ?_) (fun K hK => ?_)
        · skip
          refine Kd.R_lit_step k33 _ 33 ?hg (N := 12) ?hd (xs := ([] : List (S33))) (inner := []) (ok := fun _ => True) (okp := fun _ => True) ?hr ?hp (fun _ hk => hk) trivial (Below.refl _ _) (Nat.le_refl _) (by simp) ?_; (case hd => rfl); (case hg => rfl); (case hr => first | (go_simp; done) | (go_simp; rfl)); (case hp => exact (Reps.none _ _))
          intro v221 w12 ho13 hb hg_ hnew_
          clear hg_ hnew_
          (first | rw [← Ny220.out] at ho13 | (simp only [Int.reduceToNat] at ho13; rw [← Ny220.out] at ho13))
          have n0_ := Aside0.mk (Kd.R_lower (Kd.R_newB ho13 (g := gb218) (o := .cells #[.string a1_0, .string a1_1] 33 (0, 0)) (by (with_reducible repeat (first | refine blk_drewN ?_ _ | refine blk_drew ?_ | refine blk_alloc ?_ _)); exact BK218.out)) (below_size (by repeat (first | (with_reducible first | exact HB.out | apply below_alloc | apply pw_below_drewN | apply below_drew1 | refine below_set ?_ GE218.out) | exact HB.out))))
          have n1_ := Aside0.mk (blk_below (g := gb218) (o := .cells #[.string a1_0, .string a1_1] 33 (0, 0)) (by (with_reducible repeat (first | refine blk_drewN ?_ _ | refine blk_drew ?_ | refine blk_alloc ?_ _)); exact BK218.out) hb)
          have n2_ := Aside0.mk (below_step (by repeat (first | (with_reducible first | exact HB.out | apply below_alloc | apply pw_below_drewN | apply below_drew1 | refine below_set ?_ GE218.out) | exact HB.out)) hb)
          clear BK218
          clear HB
          have HO222 := n0_
          have BK218 := n1_
          have HB := n2_
          clear n0_ n1_ n2_
          clear hb ho13
          refine hK.out _ _ ⟨(blk_cell BK218.out 0).trans rfl, (blk_cell BK218.out 1).trans rfl⟩ (fun hHeld => ?_)
          clear hK K
          refine norm_ (a' := ?_) ?_ ?_
          rotate_left
          · show Act.put _ (some 12) _ = _
            simp only [Act.put, List.setIfInBounds_toArray, List.set_cons_zero, List.set_cons_succ, i64_w, i32_w]
            rfl
          refine two_ (i := 2) (j := 4) (Ni := some 14) (Nj := some 16) #[true, true, true, true, false, false, false, false] #[true, true, false, true, true, false, false, false] rfl rfl rfl rfl (two_of HT_.out (by kernel_rfl)) (by decide) (by decide) (fun K hK => ?_) (fun K hK => ?_)
          · skip
            refine Kd.R_append_rows_step k33 (w0 := w) w.heap.size (by rfl) (.tmp 12) (.tmp 13) 23 33 (.agg #[(.string ⟨#[]⟩), (.string ⟨#[]⟩)]) 32 rfl Tryd.underlying23 info33 rfl (by decide) (by omega) v221 y220 l0 _ _ _ (fun k_ => k_ ≠ gb218) (fun _ => False) rfl rfl ?aO ?aR (fun _ _ h => h) (fun _ h => h.elim) ?aF ?aB ?aS ?aL ?_
            (case aR => repeat (first | exact (Kd.C_below HR0.out HB.out) | (with_reducible refine Kd.C_alloc ?_ _) | (with_reducible refine Kd.C_drewN ?_ _) | (with_reducible refine Kd.C_drew ?_)))
            (case aB => exact (by repeat (first | (with_reducible first | exact HB.out | apply below_alloc | apply pw_below_drewN | apply below_drew1 | refine below_set ?_ GE218.out) | exact HB.out)))
            (case aF => exact (fun k_ hk => Kd.freshB (g := gb218) (o := .cells #[.string a1_0, .string a1_1] 33 (0, 0)) (by (with_reducible repeat (first | refine blk_drewN ?_ _ | refine blk_drew ?_ | refine blk_alloc ?_ _)); exact BK218.out) k_ hk))
            (case aO => exact (by (with_reducible repeat (first | apply Kd.R_alloc | apply Kd.R_drewN | apply Kd.R_drew)); exact Kd.R_mono HO222.out (fun _ hk => hk.2)))
            (case aS => exact (below_size (by repeat (first | (with_reducible first | exact HB.out | apply below_alloc | apply pw_below_drewN | apply below_drew1 | refine below_set ?_ GE218.out) | exact HB.out))))
            (case aL => have := LMc5.out; omega)
            intro v224 w14 ho hb hg hat
            rw [← Ny223.out] at ho
            have n0_ := Aside0.mk (blk_grown (g := gb218) (o := .cells #[.string a1_0, .string a1_1] 33 (0, 0)) (by (with_reducible repeat (first | refine blk_drewN ?_ _ | refine blk_drew ?_ | refine blk_alloc ?_ _)); exact BK218.out) hg (Kd.R_away HO222.out (fun _ hk => hk.2)))
            have n1_ := Aside0.mk (hb)
            have n2_ := Aside0.mk (ho)
            clear BK218
            clear HB
            clear HO222
            have BK218 := n0_
            have HB := n1_
            have HO225 := n2_
            clear n0_ n1_ n2_
            clear ho hb hg hat
            refine hK.out _ _ ⟨(blk_cell BK218.out 0).trans rfl, (blk_cell BK218.out 1).trans rfl⟩ (fun hHeld => ?_)
            clear hK K
            refine norm_ (a' := ?_) ?_ ?_
            rotate_left
            · show Act.put _ (some 14) _ = _
              simp only [Act.put, List.setIfInBounds_toArray, List.set_cons_zero, List.set_cons_succ, i64_w, i32_w]
              rfl
            refine one_ (i := 4) (N := some 16) #[true, true, true, true, true, false, false, false] rfl rfl (one_of HT_.out (by kernel_rfl)) (by decide) (fun K hK => ?_)
            refine Kd.R_lit_step k33 _ 33 ?hg (N := 16) ?hd (xs := ([(⟨a1_0, a1_1⟩ : S33)] : List (S33))) (inner := [.string a1_0, .string a1_1]) (ok := fun _ => True) (okp := fun _ => True) ?hr ?hp (fun _ hk => hk) trivial (Below.refl _ _) (Nat.le_refl _) (by simp) ?_; (case hd => rfl); (case hg => rfl); (case hr => first | (go_simp; done) | (go_simp; rfl)); (case hp => exact (Reps.c2 (show Kd.M k33 _ _ _ (⟨a1_0, a1_1⟩ : S33) [.string a1_0, .string a1_1] from (k33_mkM _ _ _ (⟨a1_0, a1_1⟩ : S33) )) (Reps.none _ _)))
            intro v227 w15 ho16 hb hg_ hnew_
            clear hg_ hnew_
            (first | rw [← Ny226.out] at ho16 | (simp only [Int.reduceToNat] at ho16; rw [← Ny226.out] at ho16))
            have n0_ := Aside0.mk (Kd.R_elder' (by (with_reducible repeat (first | apply Kd.R_alloc | apply Kd.R_drewN | apply Kd.R_drew)); exact HO225.out) (Kd.R_base ho16) hb)
            have n1_ := Aside0.mk (Kd.R_lower (Kd.R_newB (Kd.R_new' ho16 (Kd.R_lt (by (with_reducible repeat (first | apply Kd.R_alloc | apply Kd.R_drewN | apply Kd.R_drew)); exact HO225.out))) (g := gb218) (o := .cells #[.string a1_0, .string a1_1] 33 (0, 0)) (by (with_reducible repeat (first | refine blk_drewN ?_ _ | refine blk_drew ?_ | refine blk_alloc ?_ _)); exact BK218.out)) (below_size (by repeat (first | (with_reducible first | exact HB.out | apply below_alloc | apply pw_below_drewN | apply below_drew1 | refine below_set ?_ GE218.out) | exact HB.out))))
            have n2_ := Aside0.mk (blk_below (g := gb218) (o := .cells #[.string a1_0, .string a1_1] 33 (0, 0)) (by (with_reducible repeat (first | refine blk_drewN ?_ _ | refine blk_drew ?_ | refine blk_alloc ?_ _)); exact BK218.out) hb)
            have n3_ := Aside0.mk (below_step (by repeat (first | (with_reducible first | exact HB.out | apply below_alloc | apply pw_below_drewN | apply below_drew1 | refine below_set ?_ GE218.out) | exact HB.out)) hb)
            clear HO225
            clear BK218
            clear HB
            have HO225 := n0_
            have HO228 := n1_
            have BK218 := n2_
            have HB := n3_
            clear n0_ n1_ n2_ n3_
            clear hb ho16
            refine hK.out _ _ ⟨(blk_cell BK218.out 0).trans rfl, (blk_cell BK218.out 1).trans rfl⟩ (fun hHeld => ?_)
            clear hK K
            refine norm_ (a' := ?_) ?_ ?_
            rotate_left
            · show Act.put _ (some 16) _ = _
              simp only [Act.put, List.setIfInBounds_toArray, List.set_cons_zero, List.set_cons_succ, i64_w, i32_w]
              rfl
            exact norm_ (by simp only [putAll, Act.put, List.setIfInBounds_toArray, List.set_cons_zero, List.set_cons_succ]) (hCont (v221, v224, v227) _ ⟨hHeld, (by (with_reducible repeat (first | apply Kd.R_alloc | apply Kd.R_drewN | apply Kd.R_drew)); exact Kd.R_mono HO225.out (fun _ hk => ⟨hk.2, hk.1⟩)), (by (with_reducible repeat (first | apply Kd.R_alloc | apply Kd.R_drewN | apply Kd.R_drew)); exact Kd.R_mono HO228.out (fun _ hk => ⟨hk.1.2, hk.2⟩)), (by (with_reducible repeat (first | refine blk_drewN ?_ _ | refine blk_drew ?_ | refine blk_alloc ?_ _)); exact BK218.out), (by repeat (first | (with_reducible first | exact HB.out | apply below_alloc | apply pw_below_drewN | apply below_drew1 | refine below_set ?_ GE218.out) | exact HB.out))⟩)
          · skip
            refine Kd.R_lit_step k33 _ 33 ?hg (N := 16) ?hd (xs := ([(⟨a1_0, a1_1⟩ : S33)] : List (S33))) (inner := [.string a1_0, .string a1_1]) (ok := fun _ => True) (okp := fun _ => True) ?hr ?hp (fun _ hk => hk) trivial (Below.refl _ _) (Nat.le_refl _) (by simp) ?_; (case hd => rfl); (case hg => rfl); (case hr => first | (go_simp; done) | (go_simp; rfl)); (case hp => exact (Reps.c2 (show Kd.M k33 _ _ _ (⟨a1_0, a1_1⟩ : S33) [.string a1_0, .string a1_1] from (k33_mkM _ _ _ (⟨a1_0, a1_1⟩ : S33) )) (Reps.none _ _)))
            intro v227 w14 ho15 hb hg_ hnew_
            clear hg_ hnew_
            (first | rw [← Ny226.out] at ho15 | (simp only [Int.reduceToNat] at ho15; rw [← Ny226.out] at ho15))
            have n0_ := Aside0.mk (Kd.R_elder' (by (with_reducible repeat (first | apply Kd.R_alloc | apply Kd.R_drewN | apply Kd.R_drew)); exact HO222.out) (Kd.R_base ho15) hb)
            have n1_ := Aside0.mk (Kd.R_lower (Kd.R_newB (Kd.R_new' ho15 (Kd.R_lt (by (with_reducible repeat (first | apply Kd.R_alloc | apply Kd.R_drewN | apply Kd.R_drew)); exact HO222.out))) (g := gb218) (o := .cells #[.string a1_0, .string a1_1] 33 (0, 0)) (by (with_reducible repeat (first | refine blk_drewN ?_ _ | refine blk_drew ?_ | refine blk_alloc ?_ _)); exact BK218.out)) (below_size (by repeat (first | (with_reducible first | exact HB.out | apply below_alloc | apply pw_below_drewN | apply below_drew1 | refine below_set ?_ GE218.out) | exact HB.out))))
            have n2_ := Aside0.mk (blk_below (g := gb218) (o := .cells #[.string a1_0, .string a1_1] 33 (0, 0)) (by (with_reducible repeat (first | refine blk_drewN ?_ _ | refine blk_drew ?_ | refine blk_alloc ?_ _)); exact BK218.out) hb)
            have n3_ := Aside0.mk (below_step (by repeat (first | (with_reducible first | exact HB.out | apply below_alloc | apply pw_below_drewN | apply below_drew1 | refine below_set ?_ GE218.out) | exact HB.out)) hb)
            clear HO222
            clear BK218
            clear HB
            have HO222 := n0_
            have HO228 := n1_
            have BK218 := n2_
            have HB := n3_
            clear n0_ n1_ n2_ n3_
            clear hb ho15
            refine hK.out _ _ ⟨(blk_cell BK218.out 0).trans rfl, (blk_cell BK218.out 1).trans rfl⟩ (fun hHeld => ?_)
            clear hK K
            refine norm_ (a' := ?_) ?_ ?_
            rotate_left
            · show Act.put _ (some 16) _ = _
              simp only [Act.put, List.setIfInBounds_toArray, List.set_cons_zero, List.set_cons_succ, i64_w, i32_w]
              rfl
            refine one_ (i := 2) (N := some 14) #[true, true, true, true, true, false, false, false] rfl rfl (one_of HT_.out (by kernel_rfl)) (by decide) (fun K hK => ?_)
            refine Kd.R_append_rows_step k33 (w0 := w) w.heap.size (by rfl) (.tmp 12) (.tmp 13) 23 33 (.agg #[(.string ⟨#[]⟩), (.string ⟨#[]⟩)]) 32 rfl Tryd.underlying23 info33 rfl (by decide) (by omega) v221 y220 l0 _ _ _ (fun k_ => some k_ ≠ (v227 : Value).ownBlock ∧ k_ ≠ gb218) (fun _ => False) rfl rfl ?aO ?aR (fun _ _ h => h) (fun _ h => h.elim) ?aF ?aB ?aS ?aL ?_
            (case aR => repeat (first | exact (Kd.C_below HR0.out HB.out) | (with_reducible refine Kd.C_alloc ?_ _) | (with_reducible refine Kd.C_drewN ?_ _) | (with_reducible refine Kd.C_drew ?_)))
            (case aB => exact (by repeat (first | (with_reducible first | exact HB.out | apply below_alloc | apply pw_below_drewN | apply below_drew1 | refine below_set ?_ GE218.out) | exact HB.out)))
            (case aF => exact (fun k_ hk => ⟨Kd.fresh' (Kd.R_lt (by (with_reducible repeat (first | apply Kd.R_alloc | apply Kd.R_drewN | apply Kd.R_drew)); exact HO228.out)) k_ hk, Kd.freshB (g := gb218) (o := .cells #[.string a1_0, .string a1_1] 33 (0, 0)) (by (with_reducible repeat (first | refine blk_drewN ?_ _ | refine blk_drew ?_ | refine blk_alloc ?_ _)); exact BK218.out) k_ hk⟩))
            (case aO => exact (by (with_reducible repeat (first | apply Kd.R_alloc | apply Kd.R_drewN | apply Kd.R_drew)); exact Kd.R_mono HO222.out (fun _ hk => ⟨hk.2, hk.1.2⟩)))
            (case aS => exact (below_size (by repeat (first | (with_reducible first | exact HB.out | apply below_alloc | apply pw_below_drewN | apply below_drew1 | refine below_set ?_ GE218.out) | exact HB.out))))
            (case aL => have := LMc5.out; omega)
            intro v224 w16 ho hb hg hat
            rw [← Ny223.out] at ho
            have n0_ := Aside0.mk (blk_grown (g := gb218) (o := .cells #[.string a1_0, .string a1_1] 33 (0, 0)) (by (with_reducible repeat (first | refine blk_drewN ?_ _ | refine blk_drew ?_ | refine blk_alloc ?_ _)); exact BK218.out) hg (Kd.R_away HO222.out (fun _ hk => hk.1.2)))
            have n1_ := Aside0.mk (Kd.R_after (ok := (fun k_ => k_ ≠ gb218)) (by (with_reducible repeat (first | apply Kd.R_alloc | apply Kd.R_drewN | apply Kd.R_drew)); exact Kd.R_mono HO228.out (fun _ hk => ⟨hk.2, hk.1.2⟩)) hg hat)
            have n2_ := Aside0.mk (hb)
            have n3_ := Aside0.mk (ho)
            clear BK218
            clear HO228
            clear HB
            clear HO222
            have BK218 := n0_
            have HO228 := n1_
            have HB := n2_
            have HO225 := n3_
            clear n0_ n1_ n2_ n3_
            clear ho hb hg hat
            refine hK.out _ _ ⟨(blk_cell BK218.out 0).trans rfl, (blk_cell BK218.out 1).trans rfl⟩ (fun hHeld => ?_)
            clear hK K
            refine norm_ (a' := ?_) ?_ ?_
            rotate_left
            · show Act.put _ (some 14) _ = _
              simp only [Act.put, List.setIfInBounds_toArray, List.set_cons_zero, List.set_cons_succ, i64_w, i32_w]
              rfl
            exact norm_ (by simp only [putAll, Act.put, List.setIfInBounds_toArray, List.set_cons_zero, List.set_cons_succ]) (hCont (v221, v224, v227) _ ⟨hHeld, (by (with_reducible repeat (first | apply Kd.R_alloc | apply Kd.R_drewN | apply Kd.R_drew)); exact HO225.out), (by (with_reducible repeat (first | apply Kd.R_alloc | apply Kd.R_drewN | apply Kd.R_drew)); exact Kd.R_mono HO228.out (fun _ hk => ⟨hk.2, hk.1⟩)), (by (with_reducible repeat (first | refine blk_drewN ?_ _ | refine blk_drew ?_ | refine blk_alloc ?_ _)); exact BK218.out), (by repeat (first | (with_reducible first | exact HB.out | apply below_alloc | apply pw_below_drewN | apply below_drew1 | refine below_set ?_ GE218.out) | exact HB.out))⟩)
        · skip
          refine Kd.R_lit_step k33 _ 33 ?hg (N := 16) ?hd (xs := ([(⟨a1_0, a1_1⟩ : S33)] : List (S33))) (inner := [.string a1_0, .string a1_1]) (ok := fun _ => True) (okp := fun _ => True) ?hr ?hp (fun _ hk => hk) trivial (Below.refl _ _) (Nat.le_refl _) (by simp) ?_; (case hd => rfl); (case hg => rfl); (case hr => first | (go_simp; done) | (go_simp; rfl)); (case hp => exact (Reps.c2 (show Kd.M k33 _ _ _ (⟨a1_0, a1_1⟩ : S33) [.string a1_0, .string a1_1] from (k33_mkM _ _ _ (⟨a1_0, a1_1⟩ : S33) )) (Reps.none _ _)))
          intro v227 w12 ho13 hb hg_ hnew_
          clear hg_ hnew_
          (first | rw [← Ny226.out] at ho13 | (simp only [Int.reduceToNat] at ho13; rw [← Ny226.out] at ho13))
          have n0_ := Aside0.mk (Kd.R_lower (Kd.R_newB ho13 (g := gb218) (o := .cells #[.string a1_0, .string a1_1] 33 (0, 0)) (by (with_reducible repeat (first | refine blk_drewN ?_ _ | refine blk_drew ?_ | refine blk_alloc ?_ _)); exact BK218.out)) (below_size (by repeat (first | (with_reducible first | exact HB.out | apply below_alloc | apply pw_below_drewN | apply below_drew1 | refine below_set ?_ GE218.out) | exact HB.out))))
          have n1_ := Aside0.mk (blk_below (g := gb218) (o := .cells #[.string a1_0, .string a1_1] 33 (0, 0)) (by (with_reducible repeat (first | refine blk_drewN ?_ _ | refine blk_drew ?_ | refine blk_alloc ?_ _)); exact BK218.out) hb)
          have n2_ := Aside0.mk (below_step (by repeat (first | (with_reducible first | exact HB.out | apply below_alloc | apply pw_below_drewN | apply below_drew1 | refine below_set ?_ GE218.out) | exact HB.out)) hb)
          clear BK218
          clear HB
          have HO228 := n0_
          have BK218 := n1_
          have HB := n2_
          clear n0_ n1_ n2_
          clear hb ho13
          refine hK.out _ _ ⟨(blk_cell BK218.out 0).trans rfl, (blk_cell BK218.out 1).trans rfl⟩ (fun hHeld => ?_)
          clear hK K
          refine norm_ (a' := ?_) ?_ ?_
          rotate_left
          · show Act.put _ (some 16) _ = _
            simp only [Act.put, List.setIfInBounds_toArray, List.set_cons_zero, List.set_cons_succ, i64_w, i32_w]
            rfl
          refine one_ (i := 0) (N := some 12) #[true, true, false, true, true, false, false, false] rfl rfl (one_of HT_.out (by kernel_rfl)) (by decide) (fun K hK => ?_)
          refine Kd.R_lit_step k33 _ 33 ?hg (N := 12) ?hd (xs := ([] : List (S33))) (inner := []) (ok := fun _ => True) (okp := fun _ => True) ?hr ?hp (fun _ hk => hk) trivial (Below.refl _ _) (Nat.le_refl _) (by simp) ?_; (case hd => rfl); (case hg => rfl); (case hr => first | (go_simp; done) | (go_simp; rfl)); (case hp => exact (Reps.none _ _))
          intro v221 w14 ho15 hb hg_ hnew_
          clear hg_ hnew_
          (first | rw [← Ny220.out] at ho15 | (simp only [Int.reduceToNat] at ho15; rw [← Ny220.out] at ho15))
          have n0_ := Aside0.mk (Kd.R_elder' (by (with_reducible repeat (first | apply Kd.R_alloc | apply Kd.R_drewN | apply Kd.R_drew)); exact HO228.out) (Kd.R_base ho15) hb)
          have n1_ := Aside0.mk (Kd.R_lower (Kd.R_newB (Kd.R_new' ho15 (Kd.R_lt (by (with_reducible repeat (first | apply Kd.R_alloc | apply Kd.R_drewN | apply Kd.R_drew)); exact HO228.out))) (g := gb218) (o := .cells #[.string a1_0, .string a1_1] 33 (0, 0)) (by (with_reducible repeat (first | refine blk_drewN ?_ _ | refine blk_drew ?_ | refine blk_alloc ?_ _)); exact BK218.out)) (below_size (by repeat (first | (with_reducible first | exact HB.out | apply below_alloc | apply pw_below_drewN | apply below_drew1 | refine below_set ?_ GE218.out) | exact HB.out))))
          have n2_ := Aside0.mk (blk_below (g := gb218) (o := .cells #[.string a1_0, .string a1_1] 33 (0, 0)) (by (with_reducible repeat (first | refine blk_drewN ?_ _ | refine blk_drew ?_ | refine blk_alloc ?_ _)); exact BK218.out) hb)
          have n3_ := Aside0.mk (below_step (by repeat (first | (with_reducible first | exact HB.out | apply below_alloc | apply pw_below_drewN | apply below_drew1 | refine below_set ?_ GE218.out) | exact HB.out)) hb)
          clear HO228
          clear BK218
          clear HB
          have HO228 := n0_
          have HO222 := n1_
          have BK218 := n2_
          have HB := n3_
          clear n0_ n1_ n2_ n3_
          clear hb ho15
          refine hK.out _ _ ⟨(blk_cell BK218.out 0).trans rfl, (blk_cell BK218.out 1).trans rfl⟩ (fun hHeld => ?_)
          clear hK K
          refine norm_ (a' := ?_) ?_ ?_
          rotate_left
          · show Act.put _ (some 12) _ = _
            simp only [Act.put, List.setIfInBounds_toArray, List.set_cons_zero, List.set_cons_succ, i64_w, i32_w]
            rfl
          refine one_ (i := 2) (N := some 14) #[true, true, true, true, true, false, false, false] rfl rfl (one_of HT_.out (by kernel_rfl)) (by decide) (fun K hK => ?_)
          refine Kd.R_append_rows_step k33 (w0 := w) w.heap.size (by rfl) (.tmp 12) (.tmp 13) 23 33 (.agg #[(.string ⟨#[]⟩), (.string ⟨#[]⟩)]) 32 rfl Tryd.underlying23 info33 rfl (by decide) (by omega) v221 y220 l0 _ _ _ (fun k_ => some k_ ≠ (v227 : Value).ownBlock ∧ k_ ≠ gb218) (fun _ => False) rfl rfl ?aO ?aR (fun _ _ h => h) (fun _ h => h.elim) ?aF ?aB ?aS ?aL ?_
          (case aR => repeat (first | exact (Kd.C_below HR0.out HB.out) | (with_reducible refine Kd.C_alloc ?_ _) | (with_reducible refine Kd.C_drewN ?_ _) | (with_reducible refine Kd.C_drew ?_)))
          (case aB => exact (by repeat (first | (with_reducible first | exact HB.out | apply below_alloc | apply pw_below_drewN | apply below_drew1 | refine below_set ?_ GE218.out) | exact HB.out)))
          (case aF => exact (fun k_ hk => ⟨Kd.fresh' (Kd.R_lt (by (with_reducible repeat (first | apply Kd.R_alloc | apply Kd.R_drewN | apply Kd.R_drew)); exact HO228.out)) k_ hk, Kd.freshB (g := gb218) (o := .cells #[.string a1_0, .string a1_1] 33 (0, 0)) (by (with_reducible repeat (first | refine blk_drewN ?_ _ | refine blk_drew ?_ | refine blk_alloc ?_ _)); exact BK218.out) k_ hk⟩))
          (case aO => exact (by (with_reducible repeat (first | apply Kd.R_alloc | apply Kd.R_drewN | apply Kd.R_drew)); exact Kd.R_mono HO222.out (fun _ hk => ⟨hk.1.2, hk.2⟩)))
          (case aS => exact (below_size (by repeat (first | (with_reducible first | exact HB.out | apply below_alloc | apply pw_below_drewN | apply below_drew1 | refine below_set ?_ GE218.out) | exact HB.out))))
          (case aL => have := LMc5.out; omega)
          intro v224 w16 ho hb hg hat
          rw [← Ny223.out] at ho
          have n0_ := Aside0.mk (blk_grown (g := gb218) (o := .cells #[.string a1_0, .string a1_1] 33 (0, 0)) (by (with_reducible repeat (first | refine blk_drewN ?_ _ | refine blk_drew ?_ | refine blk_alloc ?_ _)); exact BK218.out) hg (Kd.R_away HO222.out (fun _ hk => hk.2)))
          have n1_ := Aside0.mk (Kd.R_after (ok := (fun k_ => k_ ≠ gb218)) (by (with_reducible repeat (first | apply Kd.R_alloc | apply Kd.R_drewN | apply Kd.R_drew)); exact Kd.R_mono HO228.out (fun _ hk => ⟨hk.1.2, hk.2⟩)) hg hat)
          have n2_ := Aside0.mk (hb)
          have n3_ := Aside0.mk (ho)
          clear BK218
          clear HO228
          clear HB
          clear HO222
          have BK218 := n0_
          have HO228 := n1_
          have HB := n2_
          have HO225 := n3_
          clear n0_ n1_ n2_ n3_
          clear ho hb hg hat
          refine hK.out _ _ ⟨(blk_cell BK218.out 0).trans rfl, (blk_cell BK218.out 1).trans rfl⟩ (fun hHeld => ?_)
          clear hK K
          refine norm_ (a' := ?_) ?_ ?_
          rotate_left
          · show Act.put _ (some 14) _ = _
            simp only [Act.put, List.setIfInBounds_toArray, List.set_cons_zero, List.set_cons_succ, i64_w, i32_w]
            rfl
          exact norm_ (by simp only [putAll, Act.put, List.setIfInBounds_toArray, List.set_cons_zero, List.set_cons_succ]) (hCont (v221, v224, v227) _ ⟨hHeld, (by (with_reducible repeat (first | apply Kd.R_alloc | apply Kd.R_drewN | apply Kd.R_drew)); exact HO225.out), (by (with_reducible repeat (first | apply Kd.R_alloc | apply Kd.R_drewN | apply Kd.R_drew)); exact Kd.R_mono HO228.out (fun _ hk => ⟨hk.2, hk.1⟩)), (by (with_reducible repeat (first | refine blk_drewN ?_ _ | refine blk_drew ?_ | refine blk_alloc ?_ _)); exact BK218.out), (by repeat (first | (with_reducible first | exact HB.out | apply below_alloc | apply pw_below_drewN | apply below_drew1 | refine below_set ?_ GE218.out) | exact HB.out))⟩)
      rintro ⟨v221, v224, v227⟩ w17 ⟨hS_, h0_, h1_, h2_, h3_⟩
      have n0_ : Aside0 (Kd.R k33 33 w17 w.heap.size (fun k_ => some k_ ≠ (v227 : Value).ownBlock ∧ k_ ≠ gb218) v224 y223) := ⟨h0_⟩
      have n1_ : Aside0 (Kd.R k33 33 w17 w.heap.size (fun k_ => some k_ ≠ (v224 : Value).ownBlock ∧ k_ ≠ gb218) v227 y226) := ⟨h1_⟩
      have n2_ : Aside0 (w17.heap[gb218]? = some (.cells #[.string a1_0, .string a1_1] 33 (0, 0))) := ⟨h2_⟩
      have n3_ : Aside0 (Below w.heap.size w w17) := ⟨h3_⟩
      clear BK218
      clear HB
      clear h0_ h1_ h2_ h3_
      have HO225 := n0_
      have HO228 := n1_
      have BK218 := n2_
      have HB := n3_
      clear n0_ n1_ n2_ n3_
      have hHeld : w17.cell? ⟨gb218, 0, none⟩ = some (.string a1_0) ∧ w17.cell? ⟨gb218, 1, none⟩ = some (.string a1_1) := hS_
      obtain ⟨Ao19, co19, eo19⟩ := Kd.R_slice HO228.out
      (first | subst eo19 | (injection eo19 with f1_ f2_ f3_; have f4_ := f1_.symm; have f5_ := f3_.symm; clear f1_ f2_ f3_; subst f4_; subst f5_))
      refine norm_ (a' := ?_) ?_ ?_
      rotate_left
      · simp only [putAll, Act.put, List.setIfInBounds_toArray, List.set_cons_zero, List.set_cons_succ]
        rfl
      refine one_ (i := 5) (N := some 17) #[true, true, true, true, true, true, false, false] rfl rfl (one_of HT_.out (by kernel_rfl)) (by decide) (fun K hK => ?_)
      refine Kd.R_append_rows_step k33 (w0 := w) w.heap.size (by rfl) (.tmp 14) (.tmp 16) 23 33 (.agg #[(.string ⟨#[]⟩), (.string ⟨#[]⟩)]) 32 rfl Tryd.underlying23 info33 rfl (by decide) (by omega) v224 y223 y226 _ _ _ (fun k_ => some k_ ≠ (.slice Ao19 y226.length co19 : Value).ownBlock ∧ k_ ≠ gb218) (fun _ => False) rfl rfl ?aO ?aR (fun _ _ h => h) (fun _ h => h.elim) ?aF ?aB ?aS ?aL ?_
      (case aR => repeat (first | exact (Kd.R_reads' HO228.out).2.2 | (with_reducible refine Kd.C_alloc ?_ _) | (with_reducible refine Kd.C_drewN ?_ _) | (with_reducible refine Kd.C_drew ?_)))
      (case aB => exact (by repeat (first | (with_reducible first | exact HB.out | apply below_alloc | apply pw_below_drewN | apply below_drew1 | refine below_set ?_ GE218.out) | exact HB.out)))
      (case aF => exact (fun k_ hk => ⟨Kd.fresh' (Kd.R_lt (by (with_reducible repeat (first | apply Kd.R_alloc | apply Kd.R_drewN | apply Kd.R_drew)); exact HO228.out)) k_ hk, Kd.freshB (g := gb218) (o := .cells #[.string a1_0, .string a1_1] 33 (0, 0)) (by (with_reducible repeat (first | refine blk_drewN ?_ _ | refine blk_drew ?_ | refine blk_alloc ?_ _)); exact BK218.out) k_ hk⟩))
      (case aO => exact (by (with_reducible repeat (first | apply Kd.R_alloc | apply Kd.R_drewN | apply Kd.R_drew)); exact HO225.out))
      (case aS => exact (below_size (by repeat (first | (with_reducible first | exact HB.out | apply below_alloc | apply pw_below_drewN | apply below_drew1 | refine below_set ?_ GE218.out) | exact HB.out))))
      (case aL => have := LMc6.out; omega)
      intro v230 w18 ho hb hg hat
      rw [← Ny229.out] at ho
      have n0_ := Aside0.mk (blk_grown (g := gb218) (o := .cells #[.string a1_0, .string a1_1] 33 (0, 0)) (by (with_reducible repeat (first | refine blk_drewN ?_ _ | refine blk_drew ?_ | refine blk_alloc ?_ _)); exact BK218.out) hg (Kd.R_away HO225.out (fun _ hk => hk.2)))
      have n1_ := Aside0.mk (Kd.R_after (ok := (fun k_ => k_ ≠ gb218)) (by (with_reducible repeat (first | apply Kd.R_alloc | apply Kd.R_drewN | apply Kd.R_drew)); exact Kd.R_mono HO228.out (fun _ hk => ⟨hk.2, hk.1⟩)) hg hat)
      have n2_ := Aside0.mk (hb)
      have n3_ := Aside0.mk (ho)
      clear BK218
      clear HO228
      clear HB
      clear HO225
      have BK218 := n0_
      have HO228 := n1_
      have HB := n2_
      have HO231 := n3_
      clear n0_ n1_ n2_ n3_
      clear ho hb hg hat
      obtain ⟨Ao20, co20, eo20⟩ := Kd.R_slice HO231.out
      (first | subst eo20 | (injection eo20 with f1_ f2_ f3_; have f4_ := f1_.symm; have f5_ := f3_.symm; clear f1_ f2_ f3_; subst f4_; subst f5_))
      refine hK.out _ _ ⟨(blk_cell BK218.out 0).trans rfl, (blk_cell BK218.out 1).trans rfl⟩ (fun hHeld => ?_)
      clear hK K
      refine norm_ (a' := ?_) ?_ ?_
      rotate_left
      · show Act.put _ (some 17) _ = _
        simp only [Act.put, List.setIfInBounds_toArray, List.set_cons_zero, List.set_cons_succ, i64_w, i32_w]
        rfl
      refine one_ (i := 6) (N := some 18) #[true, true, true, true, true, true, true, false] rfl rfl (one_of HT_.out (by kernel_rfl)) (by decide) (fun K hK => ?_)
      refine goes_ Tryd.func8 (by kernel_rfl) rfl #[.slice Ao20 y229.length co20] (by rfl) rfl rfl (by (try simp only [List.map_toArray, List.map_cons, List.map_nil]); first | done | rfl | (simp only [List.length_drop, List.length_take]; rfl)) ?_
      with_reducible refine (glacislaw08_Few.calls k _ _ y229 t232 _ ?side1 ?side2 A7.out).mono ?_
      (case side1 => repeat (first | exact (Kd.R_reads' HO231.out).2.2 | (with_reducible refine Kd.C_alloc ?_ _) | (with_reducible refine Kd.C_drewN ?_ _) | (with_reducible refine Kd.C_drew ?_)))
      (case side2 => exact (Kd.R_reads' HO231.out).2.1)
      rintro e w' ⟨rfl, ⟨nd, rfl⟩⟩
      refine ⟨_, rfl, ?_⟩
      refine hK.out _ _ ⟨(blk_cell BK218.out 0).trans rfl, (blk_cell BK218.out 1).trans rfl⟩ (fun hHeld => ?_)
      clear hK K
      refine norm_ (a' := ?_) ?_ ?_
      rotate_left
      · show Act.put _ (some 18) _ = _
        simp only [Act.put, List.setIfInBounds_toArray, List.set_cons_zero, List.set_cons_succ, i64_w, i32_w]
        rfl
      refine pure_ (i := 7) (N := some 8) (v := ?_) (a' := ?_) #[true, true, true, true, true, true, true, true] rfl rfl (any_of HT_.out (by kernel_rfl)) (fun _ _ _ h => h) (Or.inl ⟨by rfl, ?_⟩) ?_ ?_
      rotate_left
      · intro w'
        go_simp
        with_reducible rfl
      rotate_left
      · simp only [Act.put, List.setIfInBounds_toArray, List.set_cons_zero, List.set_cons_succ, i64_w, i32_w]
        rfl
      refine done_ (done_of HT_.out (by kernel_rfl)) ?_
      go_upto_region 3 with (fail)
      go_cut [25] (fun v25 wc => ∃ (kq : Nat) (x25_7 : Bool), v25 = .bool x25_7 ∧ Aside0 (glacislaw08_CoopSecure.j0 kq l0 a2 t219 x25_7 a1_0 a1_1 = some r) ∧ Aside0 (kq ≤ k) ∧ Aside0 (wc.heap[gb218]? = some (.cells #[.string a1_0, .string a1_1] 33 (0, 0))) ∧ Aside0 (Below w.heap.size w wc))
      case first =>
        have H := HC8.out
        clear HC8
        by_cases c21 : t232 = true
        · subst c21
          have H1 : (glacislaw08_CoopSecure.j0 k l0 a2 t219 (decide ((l0.length : Int) > 90)) a1_0 a1_1) = some r := by rw [if_pos rfl] at H; exact H
          clear H
          have H := H1
          clear H1
          have H' := Aside0.mk H
          clear H
          go_wp2
          go_meet
          case rel => exact ⟨_, (decide ((l0.length : Int) > 90)), (by first | rfl | (simp; done) | (simp [*]; done) | (simp [q_ne_nil]; done)), H', ⟨by first | omega | exact Nat.le_refl _⟩, ⟨by (with_reducible repeat (first | refine blk_drewN ?_ _ | refine blk_drew ?_ | refine blk_alloc ?_ _)); exact BK218.out⟩, ⟨by repeat (first | (with_reducible first | exact HB.out | apply below_alloc | apply pw_below_drewN | apply below_drew1 | refine below_set ?_ GE218.out) | exact HB.out)⟩⟩
        · replace c21 := Bool.eq_false_iff.mpr c21
          subst c21
          have H1 : (glacislaw08_CoopSecure.j0 k l0 a2 t219 true a1_0 a1_1) = some r := by rw [if_neg (show ¬ (false = true) by decide)] at H; exact H
          clear H
          have H := H1
          clear H1
          have H' := Aside0.mk H
          clear H
          go_wp2
          go_meet
          case rel => exact ⟨_, (true), (by first | rfl | (simp; done) | (simp [*]; done) | (simp [q_ne_nil]; done)), H', ⟨by first | omega | exact Nat.le_refl _⟩, ⟨by (with_reducible repeat (first | refine blk_drewN ?_ _ | refine blk_drew ?_ | refine blk_alloc ?_ _)); exact BK218.out⟩, ⟨by repeat (first | (with_reducible first | exact HB.out | apply below_alloc | apply pw_below_drewN | apply below_drew1 | refine below_set ?_ GE218.out) | exact HB.out)⟩⟩
      case rest =>
        clear HC8
        try clear c2
        try clear p2
        try clear c5
        try clear c6
        try clear c7
        try clear c8
        try clear c21
        obtain ⟨kq, x25_7, rfl, HA, HJ7, BK218, HB⟩ := hcut
        cases kq with
        | zero => exact absurd HA.out (by simp [glacislaw08_CoopSecure.j0])
        | succ kj7 =>
          have H := HA.out
          clear HA
          simp only [glacislaw08_CoopSecure.j0] at H
          by_cases c22 : x25_7 = true
          · subst c22
            have H1 : (some t219) = some r := by rw [if_pos rfl] at H; exact H
            clear H
            have H := H1
            clear H1
            obtain rfl := Option.some.inj H
            go_wp2
            go_ret
            exact ⟨by first | rfl | (simp [errW_none, errW_some] <;> rfl) | (simp [*, errW_none, errW_some] <;> rfl) | (simp [q_ne_nil]; done), by repeat (first | (with_reducible first | exact HB.out | apply below_alloc | apply pw_below_drewN | apply below_drew1 | refine below_set ?_ GE218.out) | exact HB.out)⟩
          · replace c22 := Bool.eq_false_iff.mpr c22
            subst c22
            have H1 : ((coop_Coop.f l0 false).bind fun bt233 => (if (!(bt233.1 == 0) || (!(bt233.2.1.toList == ([] : List UInt8)) || (!(bt233.2.2.1 == 0) || (!(bt233.2.2.2.toList == ([] : List UInt8)))))) = true then (glacislaw08_CoopSecure.j1 kj7 l0 a2 t219 true a1_0 a1_1) else ((coop_Coep.f l0 false).bind fun bt237 => (glacislaw08_CoopSecure.j1 kj7 l0 a2 t219 (!(bt237.1 == 0) || (!(bt237.2.1.toList == ([] : List UInt8)) || (!(bt237.2.2.1 == 0) || (!(bt237.2.2.2.toList == ([] : List UInt8)))))) a1_0 a1_1)))) = some r := by rw [if_neg (show ¬ (false = true) by decide)] at H; exact H
            clear H
            have H := H1
            clear H1
            have HC23 := Aside0.mk H
            clear H
            go_upto_region 5 with (fail)
            go_cut [36] (fun v36 wc => ∃ (kq : Nat) (x36_22 : Bool), v36 = .bool x36_22 ∧ Aside0 (glacislaw08_CoopSecure.j1 kq l0 a2 t219 x36_22 a1_0 a1_1 = some r) ∧ Aside0 (kq ≤ kj7) ∧ Aside0 (wc.heap[gb218]? = some (.cells #[.string a1_0, .string a1_1] 33 (0, 0))) ∧ Aside0 (Below w.heap.size w wc))
            case first =>
              have H := HC23.out
              clear HC23
              replace H := Option.bind_eq_some_iff.mp H
              obtain ⟨⟨t233, t234, t235, t236⟩, A240, H⟩ := H
              replace H : (if (!(t233 == 0) || (!(t234.toList == ([] : List UInt8)) || (!(t235 == 0) || (!(t236.toList == ([] : List UInt8)))))) = true then (glacislaw08_CoopSecure.j1 kj7 l0 a2 t219 true a1_0 a1_1) else ((coop_Coep.f l0 false).bind fun bt237 => (glacislaw08_CoopSecure.j1 kj7 l0 a2 t219 (!(bt237.1 == 0) || (!(bt237.2.1.toList == ([] : List UInt8)) || (!(bt237.2.2.1 == 0) || (!(bt237.2.2.2.toList == ([] : List UInt8)))))) a1_0 a1_1))) = some r := H
              have A24 := Aside0.mk A240
              clear A240
              obtain ⟨z24a, z24b, z24c, z24d⟩ := coop_off_ A24.out
              have z24e : (t234.toList == ([] : List UInt8)) = true := by rw [z24b]; simp
              have z24f : (t236.toList == ([] : List UInt8)) = true := by rw [z24d]; simp
              subst z24a z24c
              by_cases c25 : (!((0 : Int) == 0) || (!(t234.toList == ([] : List UInt8)) || (!((0 : Int) == 0) || (!(t236.toList == ([] : List UInt8)))))) = true
              · exact absurd c25 (by rw [z24b, z24d]; simp)
              · rw [if_neg c25] at H
                have c25b0 : (!((0 : Int) == 0) || (!(t234.toList == ([] : List UInt8)) || (!((0 : Int) == 0) || (!(t236.toList == ([] : List UInt8)))))) = false := by simpa using c25
                clear c25
                (first | rw [c25b0] | (simp only [i64_w, i32_w]; rw [c25b0]) | skip)
                replace H := Option.bind_eq_some_iff.mp H
                obtain ⟨⟨t237, t238, t239, t240⟩, A270, H⟩ := H
                replace H : (glacislaw08_CoopSecure.j1 kj7 l0 a2 t219 (!(t237 == 0) || (!(t238.toList == ([] : List UInt8)) || (!(t239 == 0) || (!(t240.toList == ([] : List UInt8)))))) a1_0 a1_1) = some r := H
                have A27 := Aside0.mk A270
                clear A270
                obtain ⟨z27a, z27b, z27c, z27d⟩ := coep_off_ A27.out
                have z27e : (t238.toList == ([] : List UInt8)) = true := by rw [z27b]; simp
                have z27f : (t240.toList == ([] : List UInt8)) = true := by rw [z27d]; simp
                subst z27a z27c
                have H' := Aside0.mk H
                clear H
                go_wp2_with (first | ((with_reducible refine gate_callee (f := 9) rfl ?_); refine goesL_ (some 28) rfl rfl Tryd.func9 (by kernel_rfl) rfl #[.slice A0 l0.length c0, .bool false] rfl (by (try simp only [List.map_toArray, List.map_cons, List.map_nil]); first | done | rfl | (simp only [List.length_drop, List.length_take]; rfl)) ?_; (with_reducible refine (coop_Coop.calls _ _ l0 false (0 : Int) t234 (0 : Int) t236 _ ?side1 ?side2 A24.out).mono ?_); (case side1 => repeat (first | exact (Kd.C_below HR0.out HB.out) | (with_reducible refine Kd.C_alloc ?_ _) | (with_reducible refine Kd.C_drewN ?_ _) | (with_reducible refine Kd.C_drew ?_))); (case side2 => exact HC0.out); rintro e w28 ⟨rfl, hb⟩; refine ⟨_, rfl, ?_⟩; have n0_ := Aside0.mk (blk_below (g := gb218) (o := .cells #[.string a1_0, .string a1_1] 33 (0, 0)) (by (with_reducible repeat (first | refine blk_drewN ?_ _ | refine blk_drew ?_ | refine blk_alloc ?_ _)); exact BK218.out) hb); have n1_ := Aside0.mk (below_step (by repeat (first | (with_reducible first | exact HB.out | apply below_alloc | apply pw_below_drewN | apply below_drew1 | refine below_set ?_ GE218.out) | exact HB.out)) hb); clear BK218; clear HB; have BK218 := n0_; have HB := n1_; clear n0_ n1_; (try clear hb); (try clear hb2); (try clear hk); (try clear hi)) | (go_at_call 11; (with_reducible refine (coop_Coep.calls _ _ l0 false (0 : Int) t238 (0 : Int) t240 _ ?side1 ?side2 A27.out).mono ?_); (case side1 => repeat (first | exact (Kd.C_below HR0.out HB.out) | (with_reducible refine Kd.C_alloc ?_ _) | (with_reducible refine Kd.C_drewN ?_ _) | (with_reducible refine Kd.C_drew ?_))); (case side2 => exact HC0.out); rintro e w29 ⟨rfl, hb⟩; have n0_ := Aside0.mk (blk_below (g := gb218) (o := .cells #[.string a1_0, .string a1_1] 33 (0, 0)) (by (with_reducible repeat (first | refine blk_drewN ?_ _ | refine blk_drew ?_ | refine blk_alloc ?_ _)); exact BK218.out) hb); have n1_ := Aside0.mk (below_step (by repeat (first | (with_reducible first | exact HB.out | apply below_alloc | apply pw_below_drewN | apply below_drew1 | refine below_set ?_ GE218.out) | exact HB.out)) hb); clear BK218; clear HB; have BK218 := n0_; have HB := n1_; clear n0_ n1_; (try clear hb); (try clear hb2); (try clear hk); (try clear hi)))
                go_meet
                case rel => exact ⟨_, ((!((0 : Int) == 0) || (!(t238.toList == ([] : List UInt8)) || (!((0 : Int) == 0) || (!(t240.toList == ([] : List UInt8))))))), (by first | rfl | (simp; done) | (simp [*]; done) | (simp [q_ne_nil]; done)), H', ⟨by have := HJ7.out; first | omega | exact Nat.le_refl _⟩, ⟨by (with_reducible repeat (first | refine blk_drewN ?_ _ | refine blk_drew ?_ | refine blk_alloc ?_ _)); exact BK218.out⟩, ⟨by repeat (first | (with_reducible first | exact HB.out | apply below_alloc | apply pw_below_drewN | apply below_drew1 | refine below_set ?_ GE218.out) | exact HB.out)⟩⟩
            case rest =>
              clear HC23
              try clear c2
              try clear p2
              try clear c5
              try clear c6
              try clear c7
              try clear c8
              try clear c9
              try clear c21
              try clear c22
              try clear c25
              try clear c25b0
              try clear p2
              obtain ⟨kq, x36_22, rfl, HA, HJ22, BK218, HB⟩ := hcut
              cases kq with
              | zero => exact absurd HA.out (by simp [glacislaw08_CoopSecure.j1])
              | succ kj22 =>
                have H := HA.out
                clear HA
                simp only [glacislaw08_CoopSecure.j1] at H
                by_cases c30 : x36_22 = true
                · subst c30
                  have H1 : (none) = some r := by rw [if_pos rfl] at H; exact H
                  exact absurd H1 (by simp)
                · replace c30 := Bool.eq_false_iff.mpr c30
                  subst c30
                  have H1 : ((octet_Lower.f a1_0).bind fun t241 => (if t241.toList = ([99, 114, 111, 115, 115, 45, 111, 114, 105, 103, 105, 110, 45, 111, 112, 101, 110, 101, 114, 45, 112, 111, 108, 105, 99, 121] : List UInt8) then (glacislaw08_CoopSecure.j2 kj22 l0 a2 t219 true a1_0 a1_1) else (if t241.toList = ([99, 114, 111, 115, 115, 45, 111, 114, 105, 103, 105, 110, 45, 101, 109, 98, 101, 100, 100, 101, 114, 45, 112, 111, 108, 105, 99, 121] : List UInt8) then (glacislaw08_CoopSecure.j2 kj22 l0 a2 t219 true a1_0 a1_1) else (if t241.toList = ([99, 114, 111, 115, 115, 45, 111, 114, 105, 103, 105, 110, 45, 111, 112, 101, 110, 101, 114, 45, 112, 111, 108, 105, 99, 121, 45, 114, 101, 112, 111, 114, 116, 45, 111, 110, 108, 121] : List UInt8) then (glacislaw08_CoopSecure.j2 kj22 l0 a2 t219 true a1_0 a1_1) else (glacislaw08_CoopSecure.j2 kj22 l0 a2 t219 (t241.toList == ([99, 114, 111, 115, 115, 45, 111, 114, 105, 103, 105, 110, 45, 101, 109, 98, 101, 100, 100, 101, 114, 45, 112, 111, 108, 105, 99, 121, 45, 114, 101, 112, 111, 114, 116, 45, 111, 110, 108, 121] : List UInt8)) a1_0 a1_1))))) = some r := by rw [if_neg (show ¬ (false = true) by decide)] at H; exact H
                  clear H
                  have H := H1
                  clear H1
                  replace H := Option.bind_eq_some_iff.mp H
                  obtain ⟨t241, A310, H⟩ := H
                  replace H : (if t241.toList = ([99, 114, 111, 115, 115, 45, 111, 114, 105, 103, 105, 110, 45, 111, 112, 101, 110, 101, 114, 45, 112, 111, 108, 105, 99, 121] : List UInt8) then (glacislaw08_CoopSecure.j2 kj22 l0 a2 t219 true a1_0 a1_1) else (if t241.toList = ([99, 114, 111, 115, 115, 45, 111, 114, 105, 103, 105, 110, 45, 101, 109, 98, 101, 100, 100, 101, 114, 45, 112, 111, 108, 105, 99, 121] : List UInt8) then (glacislaw08_CoopSecure.j2 kj22 l0 a2 t219 true a1_0 a1_1) else (if t241.toList = ([99, 114, 111, 115, 115, 45, 111, 114, 105, 103, 105, 110, 45, 111, 112, 101, 110, 101, 114, 45, 112, 111, 108, 105, 99, 121, 45, 114, 101, 112, 111, 114, 116, 45, 111, 110, 108, 121] : List UInt8) then (glacislaw08_CoopSecure.j2 kj22 l0 a2 t219 true a1_0 a1_1) else (glacislaw08_CoopSecure.j2 kj22 l0 a2 t219 (t241.toList == ([99, 114, 111, 115, 115, 45, 111, 114, 105, 103, 105, 110, 45, 101, 109, 98, 101, 100, 100, 101, 114, 45, 112, 111, 108, 105, 99, 121, 45, 114, 101, 112, 111, 114, 116, 45, 111, 110, 108, 121] : List UInt8)) a1_0 a1_1)))) = some r := H
                  have A31 := Aside0.mk A310
                  clear A310
                  have HC32 := Aside0.mk H
                  clear H
                  have hcz33_0 : wc.cell? ⟨gb218, 0, none⟩ = some (.string a1_0) := (blk_cell BK218.out 0).trans rfl
                  have hcz33_1 : wc.cell? ⟨gb218, 1, none⟩ = some (.string a1_1) := (blk_cell BK218.out 1).trans rfl
                  have hfz33_0 := blk_frozen BK218.out 0
                  have hfz33_1 := blk_frozen BK218.out 1
                  go_upto_region 8 with (first | ((with_reducible refine gate_callee (f := 14) rfl ?_); refine goesL_ (some 39) rfl rfl Tryd.func14 (by kernel_rfl) rfl #[.string a1_0] rfl (by (try simp only [List.map_toArray, List.map_cons, List.map_nil]); first | done | rfl | (simp only [List.length_drop, List.length_take]; rfl)) ?_; (with_reducible refine (octet_Lower.calls a1_0 t241 _ A31.out).mono ?_); rintro e w34 ⟨rfl, hb⟩; refine ⟨_, rfl, ?_⟩; have n0_ := Aside0.mk (blk_below (g := gb218) (o := .cells #[.string a1_0, .string a1_1] 33 (0, 0)) (by (with_reducible repeat (first | refine blk_drewN ?_ _ | refine blk_drew ?_ | refine blk_alloc ?_ _)); exact BK218.out) hb); have n1_ := Aside0.mk (below_step (by repeat (first | (with_reducible first | exact HB.out | apply below_alloc | apply pw_below_drewN | apply below_drew1 | refine below_set ?_ GE218.out) | exact HB.out)) hb); clear BK218; clear HB; have BK218 := n0_; have HB := n1_; clear n0_ n1_; (try clear hb); (try clear hb2); (try clear hk); (try clear hi)))
                  (try simp only [Act.put, List.setIfInBounds_toArray, List.set_cons_zero, List.set_cons_succ])
                  go_cut [53] (fun v53 wc => ∃ (kq : Nat) (x53_31 : Bool), v53 = .bool x53_31 ∧ Aside0 (glacislaw08_CoopSecure.j2 kq l0 a2 t219 x53_31 a1_0 a1_1 = some r) ∧ Aside0 (kq ≤ kj22) ∧ Aside0 (wc.heap[gb218]? = some (.cells #[.string a1_0, .string a1_1] 33 (0, 0))) ∧ Aside0 (Below w.heap.size w wc))
                  case first =>
                    have H := HC32.out
                    clear HC32
                    by_cases c35 : t241.toList = ([99, 114, 111, 115, 115, 45, 111, 114, 105, 103, 105, 110, 45, 111, 112, 101, 110, 101, 114, 45, 112, 111, 108, 105, 99, 121] : List UInt8)
                    · rw [if_pos c35] at H
                      have c35b0 : (t241.toList == ([99, 114, 111, 115, 115, 45, 111, 114, 105, 103, 105, 110, 45, 111, 112, 101, 110, 101, 114, 45, 112, 111, 108, 105, 99, 121] : List UInt8)) = true := beq_iff_eq.mpr c35
                      have c35b1 : (t241.toList != ([99, 114, 111, 115, 115, 45, 111, 114, 105, 103, 105, 110, 45, 111, 112, 101, 110, 101, 114, 45, 112, 111, 108, 105, 99, 121] : List UInt8)) = false := bne_eq_false_iff_eq.mpr c35
                      clear c35
                      (first | rw [c35b0] | (simp only [i64_w, i32_w]; rw [c35b0]) | skip)
                      have H' := Aside0.mk H
                      clear H
                      go_wp2
                      go_meet
                      case rel => exact ⟨_, (true), (by first | rfl | (simp; done) | (simp [*]; done) | (simp [q_ne_nil]; done)), H', ⟨by have := HJ7.out; have := HJ22.out; first | omega | exact Nat.le_refl _⟩, ⟨by (with_reducible repeat (first | refine blk_drewN ?_ _ | refine blk_drew ?_ | refine blk_alloc ?_ _)); exact BK218.out⟩, ⟨by repeat (first | (with_reducible first | exact HB.out | apply below_alloc | apply pw_below_drewN | apply below_drew1 | refine below_set ?_ GE218.out) | exact HB.out)⟩⟩
                    · rw [if_neg c35] at H
                      have c35b0 : (t241.toList == ([99, 114, 111, 115, 115, 45, 111, 114, 105, 103, 105, 110, 45, 111, 112, 101, 110, 101, 114, 45, 112, 111, 108, 105, 99, 121] : List UInt8)) = false := beq_eq_false_iff_ne.mpr c35
                      have c35b1 : (t241.toList != ([99, 114, 111, 115, 115, 45, 111, 114, 105, 103, 105, 110, 45, 111, 112, 101, 110, 101, 114, 45, 112, 111, 108, 105, 99, 121] : List UInt8)) = true := bne_iff_ne.mpr c35
                      (first | rw [c35b0] | (simp only [i64_w, i32_w]; rw [c35b0]) | skip)
                      by_cases c36 : t241.toList = ([99, 114, 111, 115, 115, 45, 111, 114, 105, 103, 105, 110, 45, 101, 109, 98, 101, 100, 100, 101, 114, 45, 112, 111, 108, 105, 99, 121] : List UInt8)
                      · rw [if_pos c36] at H
                        have c36b0 : (t241.toList == ([99, 114, 111, 115, 115, 45, 111, 114, 105, 103, 105, 110, 45, 101, 109, 98, 101, 100, 100, 101, 114, 45, 112, 111, 108, 105, 99, 121] : List UInt8)) = true := beq_iff_eq.mpr c36
                        have c36b1 : (t241.toList != ([99, 114, 111, 115, 115, 45, 111, 114, 105, 103, 105, 110, 45, 101, 109, 98, 101, 100, 100, 101, 114, 45, 112, 111, 108, 105, 99, 121] : List UInt8)) = false := bne_eq_false_iff_eq.mpr c36
                        clear c36
                        have H' := Aside0.mk H
                        clear H
                        go_wp2
                        go_meet
                        case rel => exact ⟨_, (true), (by first | rfl | (simp; done) | (simp [*]; done) | (simp [q_ne_nil]; done)), H', ⟨by have := HJ7.out; have := HJ22.out; first | omega | exact Nat.le_refl _⟩, ⟨by (with_reducible repeat (first | refine blk_drewN ?_ _ | refine blk_drew ?_ | refine blk_alloc ?_ _)); exact BK218.out⟩, ⟨by repeat (first | (with_reducible first | exact HB.out | apply below_alloc | apply pw_below_drewN | apply below_drew1 | refine below_set ?_ GE218.out) | exact HB.out)⟩⟩
                      · rw [if_neg c36] at H
                        have c36b0 : (t241.toList == ([99, 114, 111, 115, 115, 45, 111, 114, 105, 103, 105, 110, 45, 101, 109, 98, 101, 100, 100, 101, 114, 45, 112, 111, 108, 105, 99, 121] : List UInt8)) = false := beq_eq_false_iff_ne.mpr c36
                        have c36b1 : (t241.toList != ([99, 114, 111, 115, 115, 45, 111, 114, 105, 103, 105, 110, 45, 101, 109, 98, 101, 100, 100, 101, 114, 45, 112, 111, 108, 105, 99, 121] : List UInt8)) = true := bne_iff_ne.mpr c36
                        by_cases c37 : t241.toList = ([99, 114, 111, 115, 115, 45, 111, 114, 105, 103, 105, 110, 45, 111, 112, 101, 110, 101, 114, 45, 112, 111, 108, 105, 99, 121, 45, 114, 101, 112, 111, 114, 116, 45, 111, 110, 108, 121] : List UInt8)
                        · rw [if_pos c37] at H
                          have c37b0 : (t241.toList == ([99, 114, 111, 115, 115, 45, 111, 114, 105, 103, 105, 110, 45, 111, 112, 101, 110, 101, 114, 45, 112, 111, 108, 105, 99, 121, 45, 114, 101, 112, 111, 114, 116, 45, 111, 110, 108, 121] : List UInt8)) = true := beq_iff_eq.mpr c37
                          have c37b1 : (t241.toList != ([99, 114, 111, 115, 115, 45, 111, 114, 105, 103, 105, 110, 45, 111, 112, 101, 110, 101, 114, 45, 112, 111, 108, 105, 99, 121, 45, 114, 101, 112, 111, 114, 116, 45, 111, 110, 108, 121] : List UInt8)) = false := bne_eq_false_iff_eq.mpr c37
                          clear c37
                          have H' := Aside0.mk H
                          clear H
                          go_wp2
                          go_meet
                          case rel => exact ⟨_, (true), (by first | rfl | (simp; done) | (simp [*]; done) | (simp [q_ne_nil]; done)), H', ⟨by have := HJ7.out; have := HJ22.out; first | omega | exact Nat.le_refl _⟩, ⟨by (with_reducible repeat (first | refine blk_drewN ?_ _ | refine blk_drew ?_ | refine blk_alloc ?_ _)); exact BK218.out⟩, ⟨by repeat (first | (with_reducible first | exact HB.out | apply below_alloc | apply pw_below_drewN | apply below_drew1 | refine below_set ?_ GE218.out) | exact HB.out)⟩⟩
                        · rw [if_neg c37] at H
                          have c37b0 : (t241.toList == ([99, 114, 111, 115, 115, 45, 111, 114, 105, 103, 105, 110, 45, 111, 112, 101, 110, 101, 114, 45, 112, 111, 108, 105, 99, 121, 45, 114, 101, 112, 111, 114, 116, 45, 111, 110, 108, 121] : List UInt8)) = false := beq_eq_false_iff_ne.mpr c37
                          have c37b1 : (t241.toList != ([99, 114, 111, 115, 115, 45, 111, 114, 105, 103, 105, 110, 45, 111, 112, 101, 110, 101, 114, 45, 112, 111, 108, 105, 99, 121, 45, 114, 101, 112, 111, 114, 116, 45, 111, 110, 108, 121] : List UInt8)) = true := bne_iff_ne.mpr c37
                          have H' := Aside0.mk H
                          clear H
                          go_wp2
                          go_meet
                          case rel => exact ⟨_, ((t241.toList == ([99, 114, 111, 115, 115, 45, 111, 114, 105, 103, 105, 110, 45, 101, 109, 98, 101, 100, 100, 101, 114, 45, 112, 111, 108, 105, 99, 121, 45, 114, 101, 112, 111, 114, 116, 45, 111, 110, 108, 121] : List UInt8))), (by first | rfl | (simp; done) | (simp [*]; done) | (simp [q_ne_nil]; done)), H', ⟨by have := HJ7.out; have := HJ22.out; first | omega | exact Nat.le_refl _⟩, ⟨by (with_reducible repeat (first | refine blk_drewN ?_ _ | refine blk_drew ?_ | refine blk_alloc ?_ _)); exact BK218.out⟩, ⟨by repeat (first | (with_reducible first | exact HB.out | apply below_alloc | apply pw_below_drewN | apply below_drew1 | refine below_set ?_ GE218.out) | exact HB.out)⟩⟩
                  case rest =>
                    clear HC32
                    try clear c1
                    try clear c2
                    try clear p2
                    try clear c3
                    try clear c5
                    try clear c6
                    try clear c7
                    try clear c8
                    try clear c9
                    try clear c14
                    try clear c21
                    try clear c22
                    try clear c25
                    try clear c25b0
                    try clear c30
                    try clear c35
                    try clear c35b0
                    try clear c35b1
                    try clear c36
                    try clear c36b0
                    try clear c36b1
                    try clear c37
                    try clear c37b0
                    try clear c37b1
                    try clear hcz33_0
                    try clear hcz33_1
                    try clear hfz33_0
                    try clear hfz33_1
                    try clear p2
                    obtain ⟨kq, x53_31, rfl, HA, HJ31, BK218, HB⟩ := hcut
                    cases kq with
                    | zero => exact absurd HA.out (by simp [glacislaw08_CoopSecure.j2])
                    | succ kj31 =>
                      have H := HA.out
                      clear HA
                      simp only [glacislaw08_CoopSecure.j2] at H
                      by_cases c38 : x53_31 = true
                      · subst c38
                        have H1 : (some t219) = some r := by rw [if_pos rfl] at H; exact H
                        clear H
                        have H := H1
                        clear H1
                        obtain rfl := Option.some.inj H
                        go_wp2
                        go_ret
                        exact ⟨by first | rfl | (simp [errW_none, errW_some] <;> rfl) | (simp [*, errW_none, errW_some] <;> rfl) | (simp [q_ne_nil]; done), by repeat (first | (with_reducible first | exact HB.out | apply below_alloc | apply pw_below_drewN | apply below_drew1 | refine below_set ?_ GE218.out) | exact HB.out)⟩
                      · replace c38 := Bool.eq_false_iff.mpr c38
                        subst c38
                        have H1 : (if a2 < 0 then (glacislaw08_CoopSecure.j3 kj31 l0 (wrap64 (-(wrap64 (a2 + 1)))) t219 a1_0 a1_1) else (glacislaw08_CoopSecure.j3 kj31 l0 a2 t219 a1_0 a1_1)) = some r := by rw [if_neg (show ¬ (false = true) by decide)] at H; exact H
                        clear H
                        have H := H1
                        clear H1
                        have HC39 := Aside0.mk H
                        clear H
                        go_upto_if 56 with (fail)
                        go_cut [2] (fun v2 wc => ∃ (kq : Nat) (x2_38 : Int), v2 = .int .i64 x2_38 ∧ Aside0 (glacislaw08_CoopSecure.j3 kq l0 x2_38 t219 a1_0 a1_1 = some r) ∧ Aside0 (kq ≤ kj31) ∧ Aside0 (wc.heap[gb218]? = some (.cells #[.string a1_0, .string a1_1] 33 (0, 0))) ∧ Aside0 (Below w.heap.size w wc))
                        case first =>
                          have H := HC39.out
                          clear HC39
                          by_cases c40 : a2 < 0
                          · rw [if_pos c40] at H
                            have c40b0 : decide (a2 < 0) = true := decide_eq_true c40
                            clear c40
                            (first | rw [c40b0] | (simp only [i64_w, i32_w]; rw [c40b0]) | skip)
                            have H' := Aside0.mk H
                            clear H
                            go_wp2
                            go_meet
                            case rel => exact ⟨_, (wrap64 (-(wrap64 (a2 + 1)))), (by first | rfl | (simp; done) | (simp [*]; done) | (simp [q_ne_nil]; done)), H', ⟨by have := HJ7.out; have := HJ22.out; have := HJ31.out; first | omega | exact Nat.le_refl _⟩, ⟨by (with_reducible repeat (first | refine blk_drewN ?_ _ | refine blk_drew ?_ | refine blk_alloc ?_ _)); exact BK218.out⟩, ⟨by repeat (first | (with_reducible first | exact HB.out | apply below_alloc | apply pw_below_drewN | apply below_drew1 | refine below_set ?_ GE218.out) | exact HB.out)⟩⟩
                          · rw [if_neg c40] at H
                            have c40b0 : decide (a2 < 0) = false := decide_eq_false c40
                            clear c40
                            (first | rw [c40b0] | (simp only [i64_w, i32_w]; rw [c40b0]) | skip)
                            have H' := Aside0.mk H
                            clear H
                            go_wp2
                            go_meet
                            case rel => exact ⟨_, (a2), (by first | rfl | (simp; done) | (simp [*]; done) | (simp [q_ne_nil]; done)), H', ⟨by have := HJ7.out; have := HJ22.out; have := HJ31.out; first | omega | exact Nat.le_refl _⟩, ⟨by (with_reducible repeat (first | refine blk_drewN ?_ _ | refine blk_drew ?_ | refine blk_alloc ?_ _)); exact BK218.out⟩, ⟨by repeat (first | (with_reducible first | exact HB.out | apply below_alloc | apply pw_below_drewN | apply below_drew1 | refine below_set ?_ GE218.out) | exact HB.out)⟩⟩
                        case rest =>
                          clear HC39
                          try clear c1
                          try clear c2
                          try clear p2
                          try clear c3
                          try clear c4
                          try clear c5
                          try clear c6
                          try clear p6
                          try clear c7
                          try clear c8
                          try clear c9
                          try clear c14
                          try clear c21
                          try clear c22
                          try clear c25
                          try clear c25b0
                          try clear c30
                          try clear c35
                          try clear c35b0
                          try clear c35b1
                          try clear c36
                          try clear c36b0
                          try clear c36b1
                          try clear c37
                          try clear c37b0
                          try clear c37b1
                          try clear c38
                          try clear c40
                          try clear c40b0
                          try clear hcz33_0
                          try clear hcz33_1
                          try clear hfz33_0
                          try clear hfz33_1
                          try clear p2
                          obtain ⟨kq, x2_38, rfl, HA, HJ38, BK218, HB⟩ := hcut
                          cases kq with
                          | zero => exact absurd HA.out (by simp [glacislaw08_CoopSecure.j3])
                          | succ kj38 =>
                            have H := HA.out
                            clear HA
                            simp only [glacislaw08_CoopSecure.j3] at H
                            by_cases c41 : (wrap64 ((l0.length : Int) + 1)) = 0
                            · rw [if_pos c41] at H
                              exact absurd H (by simp)
                            · rw [if_neg c41] at H
                              have c41b0 : ((wrap64 ((l0.length : Int) + 1)) == 0) = false := beq_eq_false_iff_ne.mpr c41
                              have c41b1 : ((wrap64 ((l0.length : Int) + 1)) != 0) = true := bne_iff_ne.mpr c41
                              obtain ⟨y242, hy242⟩ : ∃ y_ : List (S33), y_ = (([] : List (S33))) := ⟨_, rfl⟩
                              replace H : (if 0 ≤ (Int.tmod x2_38 (wrap64 ((l0.length : Int) + 1))) then (if (Int.tmod x2_38 (wrap64 ((l0.length : Int) + 1))) ≤ (l0.length : Int) then ((some (l0.take ((Int.tmod x2_38 (wrap64 ((l0.length : Int) + 1))) : Int).toNat : List (S33))).bind fun y245 => (if y242.length + y245.length < 4398046511104 then ((some (y242 ++ y245 : List (S33))).bind fun y249 => ((some (([(⟨a1_0, a1_1⟩ : S33)] : List (S33)) : List (S33))).bind fun y252 => (if y249.length + y252.length < 4398046511104 then ((some (y249 ++ y252 : List (S33))).bind fun y255 => ((some (l0.drop ((Int.tmod x2_38 (wrap64 ((l0.length : Int) + 1))) : Int).toNat : List (S33))).bind fun y258 => (if y255.length + y258.length < 4398046511104 then ((some (y255 ++ y258 : List (S33))).bind fun y262 => (if t219 = true then ((coop_Coop.f l0 true).bind fun bt265 => ((coop_Coop.f y262 true).bind fun bt269 => (if (bt265.1 == bt269.1 && (bt265.2.1.toList == bt269.2.1.toList && (bt265.2.2.1 == bt269.2.2.1 && (bt265.2.2.2.toList == bt269.2.2.2.toList)))) = true then ((coop_Coep.f l0 true).bind fun bt273 => ((coop_Coep.f y262 true).bind fun bt277 => (some (bt273.1 == bt277.1 && (bt273.2.1.toList == bt277.2.1.toList && (bt273.2.2.1 == bt277.2.2.1 && (bt273.2.2.2.toList == bt277.2.2.2.toList))))))) else (none)))) else (none))) else (none)))) else (none)))) else (none))) else (none)) else (none)) = some r := by first | (rw [hy242]; with_reducible exact H) | (have H2_ := (Option.bind_some _ _).symm.trans H; rw [hy242]; with_reducible exact H2_) | (have H2_ := (Option.bind_some _ _).symm.trans H; with_reducible exact H2_) | with_reducible exact H | (rw [hy242]; exact H) | exact H
                              have Ny242 := Aside0.mk hy242
                              clear hy242
                              obtain ⟨ji42, hji42⟩ : ∃ j_ : Int, (Int.tmod x2_38 (wrap64 ((l0.length : Int) + 1))) = j_ := ⟨_, rfl⟩
                              replace H : (if 0 ≤ (ji42) then (if (ji42) ≤ (l0.length : Int) then ((some (l0.take ((ji42) : Int).toNat : List (S33))).bind fun y245 => (if y242.length + y245.length < 4398046511104 then ((some (y242 ++ y245 : List (S33))).bind fun y249 => ((some (([(⟨a1_0, a1_1⟩ : S33)] : List (S33)) : List (S33))).bind fun y252 => (if y249.length + y252.length < 4398046511104 then ((some (y249 ++ y252 : List (S33))).bind fun y255 => ((some (l0.drop ((ji42) : Int).toNat : List (S33))).bind fun y258 => (if y255.length + y258.length < 4398046511104 then ((some (y255 ++ y258 : List (S33))).bind fun y262 => (if t219 = true then ((coop_Coop.f l0 true).bind fun bt265 => ((coop_Coop.f y262 true).bind fun bt269 => (if (bt265.1 == bt269.1 && (bt265.2.1.toList == bt269.2.1.toList && (bt265.2.2.1 == bt269.2.2.1 && (bt265.2.2.2.toList == bt269.2.2.2.toList)))) = true then ((coop_Coep.f l0 true).bind fun bt273 => ((coop_Coep.f y262 true).bind fun bt277 => (some (bt273.1 == bt277.1 && (bt273.2.1.toList == bt277.2.1.toList && (bt273.2.2.1 == bt277.2.2.1 && (bt273.2.2.2.toList == bt277.2.2.2.toList))))))) else (none)))) else (none))) else (none)))) else (none)))) else (none))) else (none)) else (none)) = some r := by first | (rw [hji42] at H; exact H) | (simp only [hji42] at H ⊢; exact H)
                              by_cases c43 : 0 ≤ (ji42)
                              · rw [if_pos c43] at H
                                have c43b0 := eq_true c43
                                have c43b1 : decide (0 ≤ (ji42)) = true := decide_eq_true c43
                                clear c43
                                by_cases c44 : (ji42) ≤ (l0.length : Int)
                                · rw [if_pos c44] at H
                                  have c44b0 := eq_true c44
                                  have c44b1 : decide ((ji42) ≤ (l0.length : Int)) = true := decide_eq_true c44
                                  clear c44
                                  obtain ⟨y245, hy245⟩ : ∃ y_ : List (S33), y_ = (l0.take ((ji42) : Int).toNat) := ⟨_, rfl⟩
                                  replace H : (if y242.length + y245.length < 4398046511104 then ((some (y242 ++ y245 : List (S33))).bind fun y249 => ((some (([(⟨a1_0, a1_1⟩ : S33)] : List (S33)) : List (S33))).bind fun y252 => (if y249.length + y252.length < 4398046511104 then ((some (y249 ++ y252 : List (S33))).bind fun y255 => ((some (l0.drop ((ji42) : Int).toNat : List (S33))).bind fun y258 => (if y255.length + y258.length < 4398046511104 then ((some (y255 ++ y258 : List (S33))).bind fun y262 => (if t219 = true then ((coop_Coop.f l0 true).bind fun bt265 => ((coop_Coop.f y262 true).bind fun bt269 => (if (bt265.1 == bt269.1 && (bt265.2.1.toList == bt269.2.1.toList && (bt265.2.2.1 == bt269.2.2.1 && (bt265.2.2.2.toList == bt269.2.2.2.toList)))) = true then ((coop_Coep.f l0 true).bind fun bt273 => ((coop_Coep.f y262 true).bind fun bt277 => (some (bt273.1 == bt277.1 && (bt273.2.1.toList == bt277.2.1.toList && (bt273.2.2.1 == bt277.2.2.1 && (bt273.2.2.2.toList == bt277.2.2.2.toList))))))) else (none)))) else (none))) else (none)))) else (none)))) else (none)) = some r := by first | (rw [hy245]; with_reducible exact H) | (have H2_ := (Option.bind_some _ _).symm.trans H; rw [hy245]; with_reducible exact H2_) | (have H2_ := (Option.bind_some _ _).symm.trans H; with_reducible exact H2_) | with_reducible exact H | (rw [hy245]; exact H) | exact H
                                  have Ny245 := Aside0.mk hy245
                                  clear hy245
                                  by_cases c45 : y242.length + y245.length < 4398046511104
                                  · rw [if_pos c45] at H
                                    have LMc45 := Aside0.mk c45
                                    clear c45
                                    obtain ⟨y249, hy249⟩ : ∃ y_ : List (S33), y_ = (y242 ++ y245) := ⟨_, rfl⟩
                                    replace H : ((some (([(⟨a1_0, a1_1⟩ : S33)] : List (S33)) : List (S33))).bind fun y252 => (if y249.length + y252.length < 4398046511104 then ((some (y249 ++ y252 : List (S33))).bind fun y255 => ((some (l0.drop ((ji42) : Int).toNat : List (S33))).bind fun y258 => (if y255.length + y258.length < 4398046511104 then ((some (y255 ++ y258 : List (S33))).bind fun y262 => (if t219 = true then ((coop_Coop.f l0 true).bind fun bt265 => ((coop_Coop.f y262 true).bind fun bt269 => (if (bt265.1 == bt269.1 && (bt265.2.1.toList == bt269.2.1.toList && (bt265.2.2.1 == bt269.2.2.1 && (bt265.2.2.2.toList == bt269.2.2.2.toList)))) = true then ((coop_Coep.f l0 true).bind fun bt273 => ((coop_Coep.f y262 true).bind fun bt277 => (some (bt273.1 == bt277.1 && (bt273.2.1.toList == bt277.2.1.toList && (bt273.2.2.1 == bt277.2.2.1 && (bt273.2.2.2.toList == bt277.2.2.2.toList))))))) else (none)))) else (none))) else (none)))) else (none))) = some r := by first | (rw [hy249]; with_reducible exact H) | (have H2_ := (Option.bind_some _ _).symm.trans H; rw [hy249]; with_reducible exact H2_) | (have H2_ := (Option.bind_some _ _).symm.trans H; with_reducible exact H2_) | with_reducible exact H | (rw [hy249]; exact H) | exact H
                                    have Ny249 := Aside0.mk hy249
                                    clear hy249
                                    obtain ⟨y252, hy252⟩ : ∃ y_ : List (S33), y_ = (([(⟨a1_0, a1_1⟩ : S33)] : List (S33))) := ⟨_, rfl⟩
                                    replace H : (if y249.length + y252.length < 4398046511104 then ((some (y249 ++ y252 : List (S33))).bind fun y255 => ((some (l0.drop ((ji42) : Int).toNat : List (S33))).bind fun y258 => (if y255.length + y258.length < 4398046511104 then ((some (y255 ++ y258 : List (S33))).bind fun y262 => (if t219 = true then ((coop_Coop.f l0 true).bind fun bt265 => ((coop_Coop.f y262 true).bind fun bt269 => (if (bt265.1 == bt269.1 && (bt265.2.1.toList == bt269.2.1.toList && (bt265.2.2.1 == bt269.2.2.1 && (bt265.2.2.2.toList == bt269.2.2.2.toList)))) = true then ((coop_Coep.f l0 true).bind fun bt273 => ((coop_Coep.f y262 true).bind fun bt277 => (some (bt273.1 == bt277.1 && (bt273.2.1.toList == bt277.2.1.toList && (bt273.2.2.1 == bt277.2.2.1 && (bt273.2.2.2.toList == bt277.2.2.2.toList))))))) else (none)))) else (none))) else (none)))) else (none)) = some r := by first | (rw [hy252]; with_reducible exact H) | (have H2_ := (Option.bind_some _ _).symm.trans H; rw [hy252]; with_reducible exact H2_) | (have H2_ := (Option.bind_some _ _).symm.trans H; with_reducible exact H2_) | with_reducible exact H | (rw [hy252]; exact H) | exact H
                                    have Ny252 := Aside0.mk hy252
                                    clear hy252
                                    by_cases c46 : y249.length + y252.length < 4398046511104
                                    · rw [if_pos c46] at H
                                      have LMc46 := Aside0.mk c46
                                      clear c46
                                      obtain ⟨y255, hy255⟩ : ∃ y_ : List (S33), y_ = (y249 ++ y252) := ⟨_, rfl⟩
                                      replace H : ((some (l0.drop ((ji42) : Int).toNat : List (S33))).bind fun y258 => (if y255.length + y258.length < 4398046511104 then ((some (y255 ++ y258 : List (S33))).bind fun y262 => (if t219 = true then ((coop_Coop.f l0 true).bind fun bt265 => ((coop_Coop.f y262 true).bind fun bt269 => (if (bt265.1 == bt269.1 && (bt265.2.1.toList == bt269.2.1.toList && (bt265.2.2.1 == bt269.2.2.1 && (bt265.2.2.2.toList == bt269.2.2.2.toList)))) = true then ((coop_Coep.f l0 true).bind fun bt273 => ((coop_Coep.f y262 true).bind fun bt277 => (some (bt273.1 == bt277.1 && (bt273.2.1.toList == bt277.2.1.toList && (bt273.2.2.1 == bt277.2.2.1 && (bt273.2.2.2.toList == bt277.2.2.2.toList))))))) else (none)))) else (none))) else (none))) = some r := by first | (rw [hy255]; with_reducible exact H) | (have H2_ := (Option.bind_some _ _).symm.trans H; rw [hy255]; with_reducible exact H2_) | (have H2_ := (Option.bind_some _ _).symm.trans H; with_reducible exact H2_) | with_reducible exact H | (rw [hy255]; exact H) | exact H
                                      have Ny255 := Aside0.mk hy255
                                      clear hy255
                                      have c47b0 := eq_true (of_decide_eq_true (by first | (with_reducible assumption) | assumption) : 0 ≤ (ji42))
                                      have c48b0 := eq_true (of_decide_eq_true (by first | (with_reducible assumption) | assumption) : (ji42) ≤ (l0.length : Int))
                                      obtain ⟨y258, hy258⟩ : ∃ y_ : List (S33), y_ = (l0.drop ((ji42) : Int).toNat) := ⟨_, rfl⟩
                                      replace H : (if y255.length + y258.length < 4398046511104 then ((some (y255 ++ y258 : List (S33))).bind fun y262 => (if t219 = true then ((coop_Coop.f l0 true).bind fun bt265 => ((coop_Coop.f y262 true).bind fun bt269 => (if (bt265.1 == bt269.1 && (bt265.2.1.toList == bt269.2.1.toList && (bt265.2.2.1 == bt269.2.2.1 && (bt265.2.2.2.toList == bt269.2.2.2.toList)))) = true then ((coop_Coep.f l0 true).bind fun bt273 => ((coop_Coep.f y262 true).bind fun bt277 => (some (bt273.1 == bt277.1 && (bt273.2.1.toList == bt277.2.1.toList && (bt273.2.2.1 == bt277.2.2.1 && (bt273.2.2.2.toList == bt277.2.2.2.toList))))))) else (none)))) else (none))) else (none)) = some r := by first | (rw [hy258]; with_reducible exact H) | (have H2_ := (Option.bind_some _ _).symm.trans H; rw [hy258]; with_reducible exact H2_) | (have H2_ := (Option.bind_some _ _).symm.trans H; with_reducible exact H2_) | with_reducible exact H | (rw [hy258]; exact H) | exact H
                                      have Ny258 := Aside0.mk hy258
                                      clear hy258
                                      by_cases c49 : y255.length + y258.length < 4398046511104
                                      · rw [if_pos c49] at H
                                        have LMc49 := Aside0.mk c49
                                        clear c49
                                        obtain ⟨y262, hy262⟩ : ∃ y_ : List (S33), y_ = (y255 ++ y258) := ⟨_, rfl⟩
                                        replace H : (if t219 = true then ((coop_Coop.f l0 true).bind fun bt265 => ((coop_Coop.f y262 true).bind fun bt269 => (if (bt265.1 == bt269.1 && (bt265.2.1.toList == bt269.2.1.toList && (bt265.2.2.1 == bt269.2.2.1 && (bt265.2.2.2.toList == bt269.2.2.2.toList)))) = true then ((coop_Coep.f l0 true).bind fun bt273 => ((coop_Coep.f y262 true).bind fun bt277 => (some (bt273.1 == bt277.1 && (bt273.2.1.toList == bt277.2.1.toList && (bt273.2.2.1 == bt277.2.2.1 && (bt273.2.2.2.toList == bt277.2.2.2.toList))))))) else (none)))) else (none)) = some r := by first | (rw [hy262]; with_reducible exact H) | (have H2_ := (Option.bind_some _ _).symm.trans H; rw [hy262]; with_reducible exact H2_) | (have H2_ := (Option.bind_some _ _).symm.trans H; with_reducible exact H2_) | with_reducible exact H | (rw [hy262]; exact H) | exact H
                                        have Ny262 := Aside0.mk hy262
                                        clear hy262
                                        by_cases c50 : t219 = true
                                        · subst c50
                                          have H1 : ((coop_Coop.f l0 true).bind fun bt265 => ((coop_Coop.f y262 true).bind fun bt269 => (if (bt265.1 == bt269.1 && (bt265.2.1.toList == bt269.2.1.toList && (bt265.2.2.1 == bt269.2.2.1 && (bt265.2.2.2.toList == bt269.2.2.2.toList)))) = true then ((coop_Coep.f l0 true).bind fun bt273 => ((coop_Coep.f y262 true).bind fun bt277 => (some (bt273.1 == bt277.1 && (bt273.2.1.toList == bt277.2.1.toList && (bt273.2.2.1 == bt277.2.2.1 && (bt273.2.2.2.toList == bt277.2.2.2.toList))))))) else (none)))) = some r := by rw [if_pos rfl] at H; exact H
                                          clear H
                                          have H := H1
                                          clear H1
                                          replace H := Option.bind_eq_some_iff.mp H
                                          obtain ⟨⟨t265, t266, t267, t268⟩, A510, H⟩ := H
                                          replace H : ((coop_Coop.f y262 true).bind fun bt269 => (if (t265 == bt269.1 && (t266.toList == bt269.2.1.toList && (t267 == bt269.2.2.1 && (t268.toList == bt269.2.2.2.toList)))) = true then ((coop_Coep.f l0 true).bind fun bt273 => ((coop_Coep.f y262 true).bind fun bt277 => (some (bt273.1 == bt277.1 && (bt273.2.1.toList == bt277.2.1.toList && (bt273.2.2.1 == bt277.2.2.1 && (bt273.2.2.2.toList == bt277.2.2.2.toList))))))) else (none))) = some r := H
                                          have A51 := Aside0.mk A510
                                          clear A510
                                          replace H := Option.bind_eq_some_iff.mp H
                                          obtain ⟨⟨t269, t270, t271, t272⟩, A520, H⟩ := H
                                          replace H : (if (t265 == t269 && (t266.toList == t270.toList && (t267 == t271 && (t268.toList == t272.toList)))) = true then ((coop_Coep.f l0 true).bind fun bt273 => ((coop_Coep.f y262 true).bind fun bt277 => (some (bt273.1 == bt277.1 && (bt273.2.1.toList == bt277.2.1.toList && (bt273.2.2.1 == bt277.2.2.1 && (bt273.2.2.2.toList == bt277.2.2.2.toList))))))) else (none)) = some r := H
                                          have A52 := Aside0.mk A520
                                          clear A520
                                          by_cases c53 : (t265 == t269 && (t266.toList == t270.toList && (t267 == t271 && (t268.toList == t272.toList)))) = true
                                          · rw [if_pos c53] at H
                                            obtain ⟨c53e0, c53e1, c53e2, c53e3⟩ : t265 = t269 ∧ t266.toList = t270.toList ∧ t267 = t271 ∧ t268.toList = t272.toList := by simpa using c53
                                            clear c53
                                            have c53f1 : (t266.toList == t270.toList) = true := by rw [c53e1]; simp
                                            have c53f3 : (t268.toList == t272.toList) = true := by rw [c53e3]; simp
                                            subst c53e0 c53e2
                                            replace H := Option.bind_eq_some_iff.mp H
                                            obtain ⟨⟨t273, t274, t275, t276⟩, A540, H⟩ := H
                                            replace H : ((coop_Coep.f y262 true).bind fun bt277 => (some (t273 == bt277.1 && (t274.toList == bt277.2.1.toList && (t275 == bt277.2.2.1 && (t276.toList == bt277.2.2.2.toList)))))) = some r := H
                                            have A54 := Aside0.mk A540
                                            clear A540
                                            replace H := Option.bind_eq_some_iff.mp H
                                            obtain ⟨⟨t277, t278, t279, t280⟩, A550, H⟩ := H
                                            replace H : (some (t273 == t277 && (t274.toList == t278.toList && (t275 == t279 && (t276.toList == t280.toList))))) = some r := H
                                            have A55 := Aside0.mk A550
                                            clear A550
                                            obtain rfl := Option.some.inj H
                                            try go_wp2
                                            have n0_ := Aside0.mk (blk_drew BK218.out)
                                            have n1_ := Aside0.mk (below_drew1 HB.out)
                                            clear BK218
                                            clear HB
                                            have BK218 := n0_
                                            have HB := n1_
                                            clear n0_ n1_
                                            have q57 : ((ji42) : Int) ≤ ((l0.length : Int) : Int) := of_decide_eq_true (by first | (with_reducible assumption) | assumption)
                                            obtain ⟨i057, hi057, _, hsz57, _⟩ := info_parts info33
                                            have hroom57 : l0.length ≤ c0 := HC0.out
                                            have hC57 : Kd.C k33 _ A0 l0.length l0 := HR0.out
                                            have hcut57 := cut_to (P := Tryd.prog) 23 33 .i64 Tryd.underlying23 hi057 A0 l0.length c0 (ji42) (of_decide_eq_true (by first | (with_reducible assumption) | assumption)) q57 hroom57
                                            have hr57 := Kd.C_take (m := ((ji42) : Int).toNat) hC57 (by omega)
                                            have hy57 : y245.length = ((ji42) : Int).toNat := (by rw [Ny245.out, List.length_take]; omega)
                                            rw [← Ny245.out] at hr57
                                            rw [← hy57] at hcut57
                                            have HR248 := Aside0.mk hr57
                                            have HC248 := Aside0.mk (show y245.length ≤ c0 from by omega)
                                            clear hr57 hC57 hroom57 hi057 hsz57
                                            have KY57 := Aside0.mk hy57
                                            clear hy57
                                            replace q57 := eq_true q57
                                            have q58 : ((ji42) : Int) ≤ ((l0.length : Int) : Int) := of_decide_eq_true (by first | (with_reducible assumption) | assumption)
                                            obtain ⟨i058, hi058, _, hsz58, _⟩ := info_parts info33
                                            have hroom58 : l0.length ≤ c0 := HC0.out
                                            have hC58 : Kd.C k33 _ A0 l0.length l0 := HR0.out
                                            have q058 : (0 : Int) ≤ ((ji42) : Int) := of_decide_eq_true (by first | (with_reducible assumption) | assumption)
                                            have hcut58 := cut_from (P := Tryd.prog) 23 33 .i64 Tryd.underlying23 hi058 2 hsz58 A0 l0.length c0 (ji42) q058 q58
                                            have hr58 := Kd.C_drop (m := ((ji42) : Int).toNat) (c := c0) hC58 (by omega) hroom58
                                            obtain ⟨A58, hA58⟩ : ∃ A1, A1 = (if c0 = ((ji42) : Int).toNat then A0 else (A0 : Option Addr).map (·.add (((ji42) : Int).toNat * 2))) := ⟨_, rfl⟩
                                            obtain ⟨c58, hc58⟩ : ∃ c1, c1 = c0 - ((ji42) : Int).toNat := ⟨_, rfl⟩
                                            have hy58 : y258.length = l0.length - ((ji42) : Int).toNat := (by rw [Ny258.out, List.length_drop] <;> omega)
                                            rw [show (l0).drop ((ji42) : Int).toNat = y258 from Ny258.out.symm] at hr58
                                            replace hr58 : Kd.C k33 _ A58 y258.length y258 := (by rw [hA58]; exact hr58)
                                            rw [← hy58, ← hA58, ← hc58] at hcut58
                                            have HR261 := Aside0.mk hr58
                                            have HC261 := Aside0.mk (show y258.length ≤ c58 from by rw [hy58, hc58]; exact Nat.sub_le_sub_right hroom58 _)
                                            clear hr58 hC58 hroom58 hi058 hsz58 hc58
                                            have KY58 := Aside0.mk hy58
                                            have KA58 := Aside0.mk hA58
                                            clear hy58 hA58
                                            replace q58 := eq_true q58
                                            refine start_ (n := 13) (S := fun w' => w'.cell? ⟨gb218, 0, none⟩ = some (.string a1_0) ∧ w'.cell? ⟨gb218, 1, none⟩ = some (.string a1_1)) (ds := []) #[false, false, false, false, false, false, false, false, false, false, false, false, false] (by kernel_rfl) rfl rfl ⟨(blk_cell BK218.out 0).trans rfl, (blk_cell BK218.out 1).trans rfl⟩ (fun hHeld => ?_); refine with_tabW glacislaw08_CoopSecure.tab13 glacislaw08_CoopSecure.bits13 (fun HT_ HW_ => ?_)
                                            generalize wc.drew = w56 at BK218 HB HR248 HR261 hHeld ⊢
                                            refine pure_ (i := 1) (N := some 66) (v := ?_) (a' := ?_) #[false, true, false, false, false, false, false, false, false, false, false, false, false] rfl rfl (any_of HT_.out (by kernel_rfl)) (fun _ _ _ h => h) (Or.inl ⟨by rfl, ?_⟩) ?_ ?_
                                            rotate_left
                                            · intro w'
                                              go_simp
                                              with_reducible rfl
                                            rotate_left
                                            · simp only [Act.put, List.setIfInBounds_toArray, List.set_cons_zero, List.set_cons_succ, i64_w, i32_w]
                                              rfl
                                            refine pure_ (i := 2) (N := some 67) (v := ?_) (a' := ?_) #[false, true, true, false, false, false, false, false, false, false, false, false, false] rfl rfl (any_of HT_.out (by kernel_rfl)) (fun _ _ _ h => h) (Or.inl ⟨by rfl, ?_⟩) ?_ ?_
                                            rotate_left
                                            · intro w'
                                              go_simp
                                              with_reducible rfl
                                            rotate_left
                                            · simp only [Act.put, List.setIfInBounds_toArray, List.set_cons_zero, List.set_cons_succ, i64_w, i32_w]
                                              rfl
                                            refine pure_ (i := 3) (N := some 68) (v := ?_) (a' := ?_) #[false, true, true, true, false, false, false, false, false, false, false, false, false] rfl rfl (any_of HT_.out (by kernel_rfl)) (fun _ _ _ h => h) (Or.inl ⟨by rfl, ?_⟩) ?_ ?_
                                            rotate_left
                                            · intro w'
                                              go_simp
                                              with_reducible rfl
                                            rotate_left
                                            · simp only [Act.put, List.setIfInBounds_toArray, List.set_cons_zero, List.set_cons_succ, i64_w, i32_w]
                                              rfl
                                            refine pure_ (i := 8) (N := some 73) (v := ?_) (a' := ?_) #[false, true, true, true, false, false, false, false, true, false, false, false, false] rfl rfl (any_of HT_.out (by kernel_rfl)) (fun _ _ _ h => h) (Or.inl ⟨by rfl, ?_⟩) ?_ ?_
                                            rotate_left
                                            · intro w'
                                              go_simp
                                              with_reducible rfl
                                            rotate_left
                                            · simp only [Act.put, List.setIfInBounds_toArray, List.set_cons_zero, List.set_cons_succ, i64_w, i32_w]
                                              rfl
                                            refine pure_ (i := 9) (N := some 74) (v := ?_) (a' := ?_) #[false, true, true, true, false, false, false, false, true, true, false, false, false] rfl rfl (any_of HT_.out (by kernel_rfl)) (fun _ _ _ h => h) (Or.inl ⟨by rfl, ?_⟩) ?_ ?_
                                            rotate_left
                                            · intro w'
                                              go_simp
                                              with_reducible rfl
                                            rotate_left
                                            · simp only [Act.put, List.setIfInBounds_toArray, List.set_cons_zero, List.set_cons_succ, i64_w, i32_w]
                                              rfl
                                            refine pure_ (i := 10) (N := some 75) (v := ?_) (a' := ?_) #[false, true, true, true, false, false, false, false, true, true, true, false, false] rfl rfl (any_of HT_.out (by kernel_rfl)) (fun _ _ _ h => h) (Or.inl ⟨by rfl, ?_⟩) ?_ ?_
                                            rotate_left
                                            · intro w'
                                              go_simp
                                              with_reducible rfl
                                            rotate_left
                                            · simp only [Act.put, List.setIfInBounds_toArray, List.set_cons_zero, List.set_cons_succ, i64_w, i32_w]
                                              rfl
                                            refine take_ (i := 5) (N := some 70) (v := ?_) (a' := ?_) #[false, true, true, true, false, true, false, false, true, true, true, false, false] rfl rfl (take_ofW HT_.out HW_.out (by kernel_rfl)) (fun _ _ _ h => h) (Or.inl ⟨by rfl, ?_⟩) hHeld ?_ ?_
                                            rotate_left
                                            · rintro w' ⟨s0, s1⟩
                                              go_simp
                                              with_reducible rfl
                                            rotate_left
                                            · simp only [Act.put, List.setIfInBounds_toArray, List.set_cons_zero, List.set_cons_succ, i64_w, i32_w]
                                              rfl
                                            refine join_ (σ := Value × Value × Value) 3 #[true, true, true, true, true, true, true, false, true, true, true, false, false] (fun s_ => [(65, s_.1), (69, s_.2.1), (71, s_.2.2)]) (fun s_ w' => (w'.cell? ⟨gb218, 0, none⟩ = some (.string a1_0) ∧ w'.cell? ⟨gb218, 1, none⟩ = some (.string a1_1)) ∧ (Kd.R k33 33 w' w.heap.size (fun k_ => some k_ ≠ (s_.2.2 : Value).ownBlock ∧ k_ ≠ gb218) s_.2.1 y249) ∧ (Kd.R k33 33 w' w.heap.size (fun k_ => some k_ ≠ (s_.2.1 : Value).ownBlock ∧ k_ ≠ gb218) s_.2.2 y252) ∧ (w'.heap[gb218]? = some (.cells #[.string a1_0, .string a1_1] 33 (0, 0))) ∧ (Below w.heap.size w w')) ?_ ?_
                                            rotate_left
                                            · intro hCont
                                              refine two_ (i := 0) (j := 6) (Ni := some 65) (Nj := some 71) #[true, true, true, true, false, true, false, false, true, true, true, false, false] #[false, true, true, true, false, true, true, false, true, true, true, false, false] rfl rfl rfl rfl (two_of HT_.out (by kernel_rfl)) (by decide) (by decide) (fun K hK => ?_) (fun K hK => ?_)
                                              · skip
                                                refine Kd.R_lit_step k33 _ 33 ?hg (N := 65) ?hd (xs := ([] : List (S33))) (inner := []) (ok := fun _ => True) (okp := fun _ => True) ?hr ?hp (fun _ hk => hk) trivial (Below.refl _ _) (Nat.le_refl _) (by simp) ?_; (case hd => rfl); (case hg => rfl); (case hr => first | (go_simp; done) | (go_simp; rfl)); (case hp => exact (Reps.none _ _))
                                                intro v243 w59 ho60 hb hg_ hnew_
                                                clear hg_ hnew_
                                                (first | rw [← Ny242.out] at ho60 | (simp only [Int.reduceToNat] at ho60; rw [← Ny242.out] at ho60))
                                                have n0_ := Aside0.mk (Kd.R_lower (Kd.R_newB ho60 (g := gb218) (o := .cells #[.string a1_0, .string a1_1] 33 (0, 0)) (by (with_reducible repeat (first | refine blk_drewN ?_ _ | refine blk_drew ?_ | refine blk_alloc ?_ _)); exact BK218.out)) (below_size (by repeat (first | (with_reducible first | exact HB.out | apply below_alloc | apply pw_below_drewN | apply below_drew1 | refine below_set ?_ GE218.out) | exact HB.out))))
                                                have n1_ := Aside0.mk (blk_below (g := gb218) (o := .cells #[.string a1_0, .string a1_1] 33 (0, 0)) (by (with_reducible repeat (first | refine blk_drewN ?_ _ | refine blk_drew ?_ | refine blk_alloc ?_ _)); exact BK218.out) hb)
                                                have n2_ := Aside0.mk (below_step (by repeat (first | (with_reducible first | exact HB.out | apply below_alloc | apply pw_below_drewN | apply below_drew1 | refine below_set ?_ GE218.out) | exact HB.out)) hb)
                                                clear BK218
                                                clear HB
                                                have HO244 := n0_
                                                have BK218 := n1_
                                                have HB := n2_
                                                clear n0_ n1_ n2_
                                                clear hb ho60
                                                refine hK.out _ _ ⟨(blk_cell BK218.out 0).trans rfl, (blk_cell BK218.out 1).trans rfl⟩ (fun hHeld => ?_)
                                                clear hK K
                                                refine norm_ (a' := ?_) ?_ ?_
                                                rotate_left
                                                · show Act.put _ (some 65) _ = _
                                                  simp only [Act.put, List.setIfInBounds_toArray, List.set_cons_zero, List.set_cons_succ, i64_w, i32_w]
                                                  rfl
                                                refine two_ (i := 4) (j := 6) (Ni := some 69) (Nj := some 71) #[true, true, true, true, true, true, false, false, true, true, true, false, false] #[true, true, true, true, false, true, true, false, true, true, true, false, false] rfl rfl rfl rfl (two_of HT_.out (by kernel_rfl)) (by decide) (by decide) (fun K hK => ?_) (fun K hK => ?_)
                                                · skip
                                                  refine Kd.R_append_rows_step k33 (w0 := w) w.heap.size (by rfl) (.tmp 65) (.tmp 68) 23 33 (.agg #[(.string ⟨#[]⟩), (.string ⟨#[]⟩)]) 32 rfl Tryd.underlying23 info33 rfl (by decide) (by omega) v243 y242 y245 _ _ _ (fun k_ => k_ ≠ gb218) (fun _ => False) rfl rfl ?aO ?aR (fun _ _ h => h) (fun _ h => h.elim) ?aF ?aB ?aS ?aL ?_
                                                  (case aR => repeat (first | exact (Kd.C_below HR248.out HB.out) | (with_reducible refine Kd.C_alloc ?_ _) | (with_reducible refine Kd.C_drewN ?_ _) | (with_reducible refine Kd.C_drew ?_)))
                                                  (case aB => exact (by repeat (first | (with_reducible first | exact HB.out | apply below_alloc | apply pw_below_drewN | apply below_drew1 | refine below_set ?_ GE218.out) | exact HB.out)))
                                                  (case aF => exact (fun k_ hk => Kd.freshB (g := gb218) (o := .cells #[.string a1_0, .string a1_1] 33 (0, 0)) (by (with_reducible repeat (first | refine blk_drewN ?_ _ | refine blk_drew ?_ | refine blk_alloc ?_ _)); exact BK218.out) k_ hk))
                                                  (case aO => exact (by (with_reducible repeat (first | apply Kd.R_alloc | apply Kd.R_drewN | apply Kd.R_drew)); exact Kd.R_mono HO244.out (fun _ hk => hk.2)))
                                                  (case aS => exact (below_size (by repeat (first | (with_reducible first | exact HB.out | apply below_alloc | apply pw_below_drewN | apply below_drew1 | refine below_set ?_ GE218.out) | exact HB.out))))
                                                  (case aL => have := LMc45.out; omega)
                                                  intro v250 w61 ho hb hg hat
                                                  rw [← Ny249.out] at ho
                                                  have n0_ := Aside0.mk (blk_grown (g := gb218) (o := .cells #[.string a1_0, .string a1_1] 33 (0, 0)) (by (with_reducible repeat (first | refine blk_drewN ?_ _ | refine blk_drew ?_ | refine blk_alloc ?_ _)); exact BK218.out) hg (Kd.R_away HO244.out (fun _ hk => hk.2)))
                                                  have n1_ := Aside0.mk (hb)
                                                  have n2_ := Aside0.mk (ho)
                                                  clear BK218
                                                  clear HB
                                                  clear HO244
                                                  have BK218 := n0_
                                                  have HB := n1_
                                                  have HO251 := n2_
                                                  clear n0_ n1_ n2_
                                                  clear ho hb hg hat
                                                  refine hK.out _ _ ⟨(blk_cell BK218.out 0).trans rfl, (blk_cell BK218.out 1).trans rfl⟩ (fun hHeld => ?_)
                                                  clear hK K
                                                  refine norm_ (a' := ?_) ?_ ?_
                                                  rotate_left
                                                  · show Act.put _ (some 69) _ = _
                                                    simp only [Act.put, List.setIfInBounds_toArray, List.set_cons_zero, List.set_cons_succ, i64_w, i32_w]
                                                    rfl
                                                  refine one_ (i := 6) (N := some 71) #[true, true, true, true, true, true, true, false, true, true, true, false, false] rfl rfl (one_of HT_.out (by kernel_rfl)) (by decide) (fun K hK => ?_)
                                                  refine Kd.R_lit_step k33 _ 33 ?hg (N := 71) ?hd (xs := ([(⟨a1_0, a1_1⟩ : S33)] : List (S33))) (inner := [.string a1_0, .string a1_1]) (ok := fun _ => True) (okp := fun _ => True) ?hr ?hp (fun _ hk => hk) trivial (Below.refl _ _) (Nat.le_refl _) (by simp) ?_; (case hd => rfl); (case hg => rfl); (case hr => first | (go_simp; done) | (go_simp; rfl)); (case hp => exact (Reps.c2 (show Kd.M k33 _ _ _ (⟨a1_0, a1_1⟩ : S33) [.string a1_0, .string a1_1] from (k33_mkM _ _ _ (⟨a1_0, a1_1⟩ : S33) )) (Reps.none _ _)))
                                                  intro v253 w62 ho63 hb hg_ hnew_
                                                  clear hg_ hnew_
                                                  (first | rw [← Ny252.out] at ho63 | (simp only [Int.reduceToNat] at ho63; rw [← Ny252.out] at ho63))
                                                  have n0_ := Aside0.mk (Kd.R_elder' (by (with_reducible repeat (first | apply Kd.R_alloc | apply Kd.R_drewN | apply Kd.R_drew)); exact HO251.out) (Kd.R_base ho63) hb)
                                                  have n1_ := Aside0.mk (Kd.R_lower (Kd.R_newB (Kd.R_new' ho63 (Kd.R_lt (by (with_reducible repeat (first | apply Kd.R_alloc | apply Kd.R_drewN | apply Kd.R_drew)); exact HO251.out))) (g := gb218) (o := .cells #[.string a1_0, .string a1_1] 33 (0, 0)) (by (with_reducible repeat (first | refine blk_drewN ?_ _ | refine blk_drew ?_ | refine blk_alloc ?_ _)); exact BK218.out)) (below_size (by repeat (first | (with_reducible first | exact HB.out | apply below_alloc | apply pw_below_drewN | apply below_drew1 | refine below_set ?_ GE218.out) | exact HB.out))))
                                                  have n2_ := Aside0.mk (blk_below (g := gb218) (o := .cells #[.string a1_0, .string a1_1] 33 (0, 0)) (by (with_reducible repeat (first | refine blk_drewN ?_ _ | refine blk_drew ?_ | refine blk_alloc ?_ _)); exact BK218.out) hb)
                                                  have n3_ := Aside0.mk (below_step (by repeat (first | (with_reducible first | exact HB.out | apply below_alloc | apply pw_below_drewN | apply below_drew1 | refine below_set ?_ GE218.out) | exact HB.out)) hb)
                                                  clear HO251
                                                  clear BK218
                                                  clear HB
                                                  have HO251 := n0_
                                                  have HO254 := n1_
                                                  have BK218 := n2_
                                                  have HB := n3_
                                                  clear n0_ n1_ n2_ n3_
                                                  clear hb ho63
                                                  refine hK.out _ _ ⟨(blk_cell BK218.out 0).trans rfl, (blk_cell BK218.out 1).trans rfl⟩ (fun hHeld => ?_)
                                                  clear hK K
                                                  refine norm_ (a' := ?_) ?_ ?_
                                                  rotate_left
                                                  · show Act.put _ (some 71) _ = _
                                                    simp only [Act.put, List.setIfInBounds_toArray, List.set_cons_zero, List.set_cons_succ, i64_w, i32_w]
                                                    rfl
                                                  exact norm_ (by simp only [putAll, Act.put, List.setIfInBounds_toArray, List.set_cons_zero, List.set_cons_succ]) (hCont (v243, v250, v253) _ ⟨hHeld, (by (with_reducible repeat (first | apply Kd.R_alloc | apply Kd.R_drewN | apply Kd.R_drew)); exact Kd.R_mono HO251.out (fun _ hk => ⟨hk.2, hk.1⟩)), (by (with_reducible repeat (first | apply Kd.R_alloc | apply Kd.R_drewN | apply Kd.R_drew)); exact Kd.R_mono HO254.out (fun _ hk => ⟨hk.1.2, hk.2⟩)), (by (with_reducible repeat (first | refine blk_drewN ?_ _ | refine blk_drew ?_ | refine blk_alloc ?_ _)); exact BK218.out), (by repeat (first | (with_reducible first | exact HB.out | apply below_alloc | apply pw_below_drewN | apply below_drew1 | refine below_set ?_ GE218.out) | exact HB.out))⟩)
                                                · skip
                                                  refine Kd.R_lit_step k33 _ 33 ?hg (N := 71) ?hd (xs := ([(⟨a1_0, a1_1⟩ : S33)] : List (S33))) (inner := [.string a1_0, .string a1_1]) (ok := fun _ => True) (okp := fun _ => True) ?hr ?hp (fun _ hk => hk) trivial (Below.refl _ _) (Nat.le_refl _) (by simp) ?_; (case hd => rfl); (case hg => rfl); (case hr => first | (go_simp; done) | (go_simp; rfl)); (case hp => exact (Reps.c2 (show Kd.M k33 _ _ _ (⟨a1_0, a1_1⟩ : S33) [.string a1_0, .string a1_1] from (k33_mkM _ _ _ (⟨a1_0, a1_1⟩ : S33) )) (Reps.none _ _)))
                                                  intro v253 w61 ho62 hb hg_ hnew_
                                                  clear hg_ hnew_
                                                  (first | rw [← Ny252.out] at ho62 | (simp only [Int.reduceToNat] at ho62; rw [← Ny252.out] at ho62))
                                                  have n0_ := Aside0.mk (Kd.R_elder' (by (with_reducible repeat (first | apply Kd.R_alloc | apply Kd.R_drewN | apply Kd.R_drew)); exact HO244.out) (Kd.R_base ho62) hb)
                                                  have n1_ := Aside0.mk (Kd.R_lower (Kd.R_newB (Kd.R_new' ho62 (Kd.R_lt (by (with_reducible repeat (first | apply Kd.R_alloc | apply Kd.R_drewN | apply Kd.R_drew)); exact HO244.out))) (g := gb218) (o := .cells #[.string a1_0, .string a1_1] 33 (0, 0)) (by (with_reducible repeat (first | refine blk_drewN ?_ _ | refine blk_drew ?_ | refine blk_alloc ?_ _)); exact BK218.out)) (below_size (by repeat (first | (with_reducible first | exact HB.out | apply below_alloc | apply pw_below_drewN | apply below_drew1 | refine below_set ?_ GE218.out) | exact HB.out))))
                                                  have n2_ := Aside0.mk (blk_below (g := gb218) (o := .cells #[.string a1_0, .string a1_1] 33 (0, 0)) (by (with_reducible repeat (first | refine blk_drewN ?_ _ | refine blk_drew ?_ | refine blk_alloc ?_ _)); exact BK218.out) hb)
                                                  have n3_ := Aside0.mk (below_step (by repeat (first | (with_reducible first | exact HB.out | apply below_alloc | apply pw_below_drewN | apply below_drew1 | refine below_set ?_ GE218.out) | exact HB.out)) hb)
                                                  clear HO244
                                                  clear BK218
                                                  clear HB
                                                  have HO244 := n0_
                                                  have HO254 := n1_
                                                  have BK218 := n2_
                                                  have HB := n3_
                                                  clear n0_ n1_ n2_ n3_
                                                  clear hb ho62
                                                  refine hK.out _ _ ⟨(blk_cell BK218.out 0).trans rfl, (blk_cell BK218.out 1).trans rfl⟩ (fun hHeld => ?_)
                                                  clear hK K
                                                  refine norm_ (a' := ?_) ?_ ?_
                                                  rotate_left
                                                  · show Act.put _ (some 71) _ = _
                                                    simp only [Act.put, List.setIfInBounds_toArray, List.set_cons_zero, List.set_cons_succ, i64_w, i32_w]
                                                    rfl
                                                  refine one_ (i := 4) (N := some 69) #[true, true, true, true, true, true, true, false, true, true, true, false, false] rfl rfl (one_of HT_.out (by kernel_rfl)) (by decide) (fun K hK => ?_)
                                                  refine Kd.R_append_rows_step k33 (w0 := w) w.heap.size (by rfl) (.tmp 65) (.tmp 68) 23 33 (.agg #[(.string ⟨#[]⟩), (.string ⟨#[]⟩)]) 32 rfl Tryd.underlying23 info33 rfl (by decide) (by omega) v243 y242 y245 _ _ _ (fun k_ => some k_ ≠ (v253 : Value).ownBlock ∧ k_ ≠ gb218) (fun _ => False) rfl rfl ?aO ?aR (fun _ _ h => h) (fun _ h => h.elim) ?aF ?aB ?aS ?aL ?_
                                                  (case aR => repeat (first | exact (Kd.C_below HR248.out HB.out) | (with_reducible refine Kd.C_alloc ?_ _) | (with_reducible refine Kd.C_drewN ?_ _) | (with_reducible refine Kd.C_drew ?_)))
                                                  (case aB => exact (by repeat (first | (with_reducible first | exact HB.out | apply below_alloc | apply pw_below_drewN | apply below_drew1 | refine below_set ?_ GE218.out) | exact HB.out)))
                                                  (case aF => exact (fun k_ hk => ⟨Kd.fresh' (Kd.R_lt (by (with_reducible repeat (first | apply Kd.R_alloc | apply Kd.R_drewN | apply Kd.R_drew)); exact HO254.out)) k_ hk, Kd.freshB (g := gb218) (o := .cells #[.string a1_0, .string a1_1] 33 (0, 0)) (by (with_reducible repeat (first | refine blk_drewN ?_ _ | refine blk_drew ?_ | refine blk_alloc ?_ _)); exact BK218.out) k_ hk⟩))
                                                  (case aO => exact (by (with_reducible repeat (first | apply Kd.R_alloc | apply Kd.R_drewN | apply Kd.R_drew)); exact Kd.R_mono HO244.out (fun _ hk => ⟨hk.2, hk.1.2⟩)))
                                                  (case aS => exact (below_size (by repeat (first | (with_reducible first | exact HB.out | apply below_alloc | apply pw_below_drewN | apply below_drew1 | refine below_set ?_ GE218.out) | exact HB.out))))
                                                  (case aL => have := LMc45.out; omega)
                                                  intro v250 w63 ho hb hg hat
                                                  rw [← Ny249.out] at ho
                                                  have n0_ := Aside0.mk (blk_grown (g := gb218) (o := .cells #[.string a1_0, .string a1_1] 33 (0, 0)) (by (with_reducible repeat (first | refine blk_drewN ?_ _ | refine blk_drew ?_ | refine blk_alloc ?_ _)); exact BK218.out) hg (Kd.R_away HO244.out (fun _ hk => hk.1.2)))
                                                  have n1_ := Aside0.mk (Kd.R_after (ok := (fun k_ => k_ ≠ gb218)) (by (with_reducible repeat (first | apply Kd.R_alloc | apply Kd.R_drewN | apply Kd.R_drew)); exact Kd.R_mono HO254.out (fun _ hk => ⟨hk.2, hk.1.2⟩)) hg hat)
                                                  have n2_ := Aside0.mk (hb)
                                                  have n3_ := Aside0.mk (ho)
                                                  clear BK218
                                                  clear HO254
                                                  clear HB
                                                  clear HO244
                                                  have BK218 := n0_
                                                  have HO254 := n1_
                                                  have HB := n2_
                                                  have HO251 := n3_
                                                  clear n0_ n1_ n2_ n3_
                                                  clear ho hb hg hat
                                                  refine hK.out _ _ ⟨(blk_cell BK218.out 0).trans rfl, (blk_cell BK218.out 1).trans rfl⟩ (fun hHeld => ?_)
                                                  clear hK K
                                                  refine norm_ (a' := ?_) ?_ ?_
                                                  rotate_left
                                                  · show Act.put _ (some 69) _ = _
                                                    simp only [Act.put, List.setIfInBounds_toArray, List.set_cons_zero, List.set_cons_succ, i64_w, i32_w]
                                                    rfl
                                                  exact norm_ (by simp only [putAll, Act.put, List.setIfInBounds_toArray, List.set_cons_zero, List.set_cons_succ]) (hCont (v243, v250, v253) _ ⟨hHeld, (by (with_reducible repeat (first | apply Kd.R_alloc | apply Kd.R_drewN | apply Kd.R_drew)); exact HO251.out), (by (with_reducible repeat (first | apply Kd.R_alloc | apply Kd.R_drewN | apply Kd.R_drew)); exact Kd.R_mono HO254.out (fun _ hk => ⟨hk.2, hk.1⟩)), (by (with_reducible repeat (first | refine blk_drewN ?_ _ | refine blk_drew ?_ | refine blk_alloc ?_ _)); exact BK218.out), (by repeat (first | (with_reducible first | exact HB.out | apply below_alloc | apply pw_below_drewN | apply below_drew1 | refine below_set ?_ GE218.out) | exact HB.out))⟩)
                                              · skip
                                                refine Kd.R_lit_step k33 _ 33 ?hg (N := 71) ?hd (xs := ([(⟨a1_0, a1_1⟩ : S33)] : List (S33))) (inner := [.string a1_0, .string a1_1]) (ok := fun _ => True) (okp := fun _ => True) ?hr ?hp (fun _ hk => hk) trivial (Below.refl _ _) (Nat.le_refl _) (by simp) ?_; (case hd => rfl); (case hg => rfl); (case hr => first | (go_simp; done) | (go_simp; rfl)); (case hp => exact (Reps.c2 (show Kd.M k33 _ _ _ (⟨a1_0, a1_1⟩ : S33) [.string a1_0, .string a1_1] from (k33_mkM _ _ _ (⟨a1_0, a1_1⟩ : S33) )) (Reps.none _ _)))
                                                intro v253 w59 ho60 hb hg_ hnew_
                                                clear hg_ hnew_
                                                (first | rw [← Ny252.out] at ho60 | (simp only [Int.reduceToNat] at ho60; rw [← Ny252.out] at ho60))
                                                have n0_ := Aside0.mk (Kd.R_lower (Kd.R_newB ho60 (g := gb218) (o := .cells #[.string a1_0, .string a1_1] 33 (0, 0)) (by (with_reducible repeat (first | refine blk_drewN ?_ _ | refine blk_drew ?_ | refine blk_alloc ?_ _)); exact BK218.out)) (below_size (by repeat (first | (with_reducible first | exact HB.out | apply below_alloc | apply pw_below_drewN | apply below_drew1 | refine below_set ?_ GE218.out) | exact HB.out))))
                                                have n1_ := Aside0.mk (blk_below (g := gb218) (o := .cells #[.string a1_0, .string a1_1] 33 (0, 0)) (by (with_reducible repeat (first | refine blk_drewN ?_ _ | refine blk_drew ?_ | refine blk_alloc ?_ _)); exact BK218.out) hb)
                                                have n2_ := Aside0.mk (below_step (by repeat (first | (with_reducible first | exact HB.out | apply below_alloc | apply pw_below_drewN | apply below_drew1 | refine below_set ?_ GE218.out) | exact HB.out)) hb)
                                                clear BK218
                                                clear HB
                                                have HO254 := n0_
                                                have BK218 := n1_
                                                have HB := n2_
                                                clear n0_ n1_ n2_
                                                clear hb ho60
                                                refine hK.out _ _ ⟨(blk_cell BK218.out 0).trans rfl, (blk_cell BK218.out 1).trans rfl⟩ (fun hHeld => ?_)
                                                clear hK K
                                                refine norm_ (a' := ?_) ?_ ?_
                                                rotate_left
                                                · show Act.put _ (some 71) _ = _
                                                  simp only [Act.put, List.setIfInBounds_toArray, List.set_cons_zero, List.set_cons_succ, i64_w, i32_w]
                                                  rfl
                                                refine one_ (i := 0) (N := some 65) #[true, true, true, true, false, true, true, false, true, true, true, false, false] rfl rfl (one_of HT_.out (by kernel_rfl)) (by decide) (fun K hK => ?_)
                                                refine Kd.R_lit_step k33 _ 33 ?hg (N := 65) ?hd (xs := ([] : List (S33))) (inner := []) (ok := fun _ => True) (okp := fun _ => True) ?hr ?hp (fun _ hk => hk) trivial (Below.refl _ _) (Nat.le_refl _) (by simp) ?_; (case hd => rfl); (case hg => rfl); (case hr => first | (go_simp; done) | (go_simp; rfl)); (case hp => exact (Reps.none _ _))
                                                intro v243 w61 ho62 hb hg_ hnew_
                                                clear hg_ hnew_
                                                (first | rw [← Ny242.out] at ho62 | (simp only [Int.reduceToNat] at ho62; rw [← Ny242.out] at ho62))
                                                have n0_ := Aside0.mk (Kd.R_elder' (by (with_reducible repeat (first | apply Kd.R_alloc | apply Kd.R_drewN | apply Kd.R_drew)); exact HO254.out) (Kd.R_base ho62) hb)
                                                have n1_ := Aside0.mk (Kd.R_lower (Kd.R_newB (Kd.R_new' ho62 (Kd.R_lt (by (with_reducible repeat (first | apply Kd.R_alloc | apply Kd.R_drewN | apply Kd.R_drew)); exact HO254.out))) (g := gb218) (o := .cells #[.string a1_0, .string a1_1] 33 (0, 0)) (by (with_reducible repeat (first | refine blk_drewN ?_ _ | refine blk_drew ?_ | refine blk_alloc ?_ _)); exact BK218.out)) (below_size (by repeat (first | (with_reducible first | exact HB.out | apply below_alloc | apply pw_below_drewN | apply below_drew1 | refine below_set ?_ GE218.out) | exact HB.out))))
                                                have n2_ := Aside0.mk (blk_below (g := gb218) (o := .cells #[.string a1_0, .string a1_1] 33 (0, 0)) (by (with_reducible repeat (first | refine blk_drewN ?_ _ | refine blk_drew ?_ | refine blk_alloc ?_ _)); exact BK218.out) hb)
                                                have n3_ := Aside0.mk (below_step (by repeat (first | (with_reducible first | exact HB.out | apply below_alloc | apply pw_below_drewN | apply below_drew1 | refine below_set ?_ GE218.out) | exact HB.out)) hb)
                                                clear HO254
                                                clear BK218
                                                clear HB
                                                have HO254 := n0_
                                                have HO244 := n1_
                                                have BK218 := n2_
                                                have HB := n3_
                                                clear n0_ n1_ n2_ n3_
                                                clear hb ho62
                                                refine hK.out _ _ ⟨(blk_cell BK218.out 0).trans rfl, (blk_cell BK218.out 1).trans rfl⟩ (fun hHeld => ?_)
                                                clear hK K
                                                refine norm_ (a' := ?_) ?_ ?_
                                                rotate_left
                                                · show Act.put _ (some 65) _ = _
                                                  simp only [Act.put, List.setIfInBounds_toArray, List.set_cons_zero, List.set_cons_succ, i64_w, i32_w]
                                                  rfl
                                                refine one_ (i := 4) (N := some 69) #[true, true, true, true, true, true, true, false, true, true, true, false, false] rfl rfl (one_of HT_.out (by kernel_rfl)) (by decide) (fun K hK => ?_)
                                                refine Kd.R_append_rows_step k33 (w0 := w) w.heap.size (by rfl) (.tmp 65) (.tmp 68) 23 33 (.agg #[(.string ⟨#[]⟩), (.string ⟨#[]⟩)]) 32 rfl Tryd.underlying23 info33 rfl (by decide) (by omega) v243 y242 y245 _ _ _ (fun k_ => some k_ ≠ (v253 : Value).ownBlock ∧ k_ ≠ gb218) (fun _ => False) rfl rfl ?aO ?aR (fun _ _ h => h) (fun _ h => h.elim) ?aF ?aB ?aS ?aL ?_
                                                (case aR => repeat (first | exact (Kd.C_below HR248.out HB.out) | (with_reducible refine Kd.C_alloc ?_ _) | (with_reducible refine Kd.C_drewN ?_ _) | (with_reducible refine Kd.C_drew ?_)))
                                                (case aB => exact (by repeat (first | (with_reducible first | exact HB.out | apply below_alloc | apply pw_below_drewN | apply below_drew1 | refine below_set ?_ GE218.out) | exact HB.out)))
                                                (case aF => exact (fun k_ hk => ⟨Kd.fresh' (Kd.R_lt (by (with_reducible repeat (first | apply Kd.R_alloc | apply Kd.R_drewN | apply Kd.R_drew)); exact HO254.out)) k_ hk, Kd.freshB (g := gb218) (o := .cells #[.string a1_0, .string a1_1] 33 (0, 0)) (by (with_reducible repeat (first | refine blk_drewN ?_ _ | refine blk_drew ?_ | refine blk_alloc ?_ _)); exact BK218.out) k_ hk⟩))
                                                (case aO => exact (by (with_reducible repeat (first | apply Kd.R_alloc | apply Kd.R_drewN | apply Kd.R_drew)); exact Kd.R_mono HO244.out (fun _ hk => ⟨hk.1.2, hk.2⟩)))
                                                (case aS => exact (below_size (by repeat (first | (with_reducible first | exact HB.out | apply below_alloc | apply pw_below_drewN | apply below_drew1 | refine below_set ?_ GE218.out) | exact HB.out))))
                                                (case aL => have := LMc45.out; omega)
                                                intro v250 w63 ho hb hg hat
                                                rw [← Ny249.out] at ho
                                                have n0_ := Aside0.mk (blk_grown (g := gb218) (o := .cells #[.string a1_0, .string a1_1] 33 (0, 0)) (by (with_reducible repeat (first | refine blk_drewN ?_ _ | refine blk_drew ?_ | refine blk_alloc ?_ _)); exact BK218.out) hg (Kd.R_away HO244.out (fun _ hk => hk.2)))
                                                have n1_ := Aside0.mk (Kd.R_after (ok := (fun k_ => k_ ≠ gb218)) (by (with_reducible repeat (first | apply Kd.R_alloc | apply Kd.R_drewN | apply Kd.R_drew)); exact Kd.R_mono HO254.out (fun _ hk => ⟨hk.1.2, hk.2⟩)) hg hat)
                                                have n2_ := Aside0.mk (hb)
                                                have n3_ := Aside0.mk (ho)
                                                clear BK218
                                                clear HO254
                                                clear HB
                                                clear HO244
                                                have BK218 := n0_
                                                have HO254 := n1_
                                                have HB := n2_
                                                have HO251 := n3_
                                                clear n0_ n1_ n2_ n3_
                                                clear ho hb hg hat
                                                refine hK.out _ _ ⟨(blk_cell BK218.out 0).trans rfl, (blk_cell BK218.out 1).trans rfl⟩ (fun hHeld => ?_)
                                                clear hK K
                                                refine norm_ (a' := ?_) ?_ ?_
                                                rotate_left
                                                · show Act.put _ (some 69) _ = _
                                                  simp only [Act.put, List.setIfInBounds_toArray, List.set_cons_zero, List.set_cons_succ, i64_w, i32_w]
                                                  rfl
                                                exact norm_ (by simp only [putAll, Act.put, List.setIfInBounds_toArray, List.set_cons_zero, List.set_cons_succ]) (hCont (v243, v250, v253) _ ⟨hHeld, (by (with_reducible repeat (first | apply Kd.R_alloc | apply Kd.R_drewN | apply Kd.R_drew)); exact HO251.out), (by (with_reducible repeat (first | apply Kd.R_alloc | apply Kd.R_drewN | apply Kd.R_drew)); exact Kd.R_mono HO254.out (fun _ hk => ⟨hk.2, hk.1⟩)), (by (with_reducible repeat (first | refine blk_drewN ?_ _ | refine blk_drew ?_ | refine blk_alloc ?_ _)); exact BK218.out), (by repeat (first | (with_reducible first | exact HB.out | apply below_alloc | apply pw_below_drewN | apply below_drew1 | refine below_set ?_ GE218.out) | exact HB.out))⟩)
                                            rintro ⟨v243, v250, v253⟩ w64 ⟨hS_, h0_, h1_, h2_, h3_⟩
                                            have n0_ : Aside0 (Kd.R k33 33 w64 w.heap.size (fun k_ => some k_ ≠ (v253 : Value).ownBlock ∧ k_ ≠ gb218) v250 y249) := ⟨h0_⟩
                                            have n1_ : Aside0 (Kd.R k33 33 w64 w.heap.size (fun k_ => some k_ ≠ (v250 : Value).ownBlock ∧ k_ ≠ gb218) v253 y252) := ⟨h1_⟩
                                            have n2_ : Aside0 (w64.heap[gb218]? = some (.cells #[.string a1_0, .string a1_1] 33 (0, 0))) := ⟨h2_⟩
                                            have n3_ : Aside0 (Below w.heap.size w w64) := ⟨h3_⟩
                                            clear BK218
                                            clear HB
                                            clear h0_ h1_ h2_ h3_
                                            have HO251 := n0_
                                            have HO254 := n1_
                                            have BK218 := n2_
                                            have HB := n3_
                                            clear n0_ n1_ n2_ n3_
                                            have hHeld : w64.cell? ⟨gb218, 0, none⟩ = some (.string a1_0) ∧ w64.cell? ⟨gb218, 1, none⟩ = some (.string a1_1) := hS_
                                            obtain ⟨Ao66, co66, eo66⟩ := Kd.R_slice HO254.out
                                            (first | subst eo66 | (injection eo66 with f1_ f2_ f3_; have f4_ := f1_.symm; have f5_ := f3_.symm; clear f1_ f2_ f3_; subst f4_; subst f5_))
                                            refine norm_ (a' := ?_) ?_ ?_
                                            rotate_left
                                            · simp only [putAll, Act.put, List.setIfInBounds_toArray, List.set_cons_zero, List.set_cons_succ]
                                              rfl
                                            refine one_ (i := 7) (N := some 72) #[true, true, true, true, true, true, true, true, true, true, true, false, false] rfl rfl (one_of HT_.out (by kernel_rfl)) (by decide) (fun K hK => ?_)
                                            refine Kd.R_append_rows_step k33 (w0 := w) w.heap.size (by rfl) (.tmp 69) (.tmp 71) 23 33 (.agg #[(.string ⟨#[]⟩), (.string ⟨#[]⟩)]) 32 rfl Tryd.underlying23 info33 rfl (by decide) (by omega) v250 y249 y252 _ _ _ (fun k_ => some k_ ≠ (.slice Ao66 y252.length co66 : Value).ownBlock ∧ k_ ≠ gb218) (fun _ => False) rfl rfl ?aO ?aR (fun _ _ h => h) (fun _ h => h.elim) ?aF ?aB ?aS ?aL ?_
                                            (case aR => repeat (first | exact (Kd.R_reads' HO254.out).2.2 | (with_reducible refine Kd.C_alloc ?_ _) | (with_reducible refine Kd.C_drewN ?_ _) | (with_reducible refine Kd.C_drew ?_)))
                                            (case aB => exact (by repeat (first | (with_reducible first | exact HB.out | apply below_alloc | apply pw_below_drewN | apply below_drew1 | refine below_set ?_ GE218.out) | exact HB.out)))
                                            (case aF => exact (fun k_ hk => ⟨Kd.fresh' (Kd.R_lt (by (with_reducible repeat (first | apply Kd.R_alloc | apply Kd.R_drewN | apply Kd.R_drew)); exact HO254.out)) k_ hk, Kd.freshB (g := gb218) (o := .cells #[.string a1_0, .string a1_1] 33 (0, 0)) (by (with_reducible repeat (first | refine blk_drewN ?_ _ | refine blk_drew ?_ | refine blk_alloc ?_ _)); exact BK218.out) k_ hk⟩))
                                            (case aO => exact (by (with_reducible repeat (first | apply Kd.R_alloc | apply Kd.R_drewN | apply Kd.R_drew)); exact HO251.out))
                                            (case aS => exact (below_size (by repeat (first | (with_reducible first | exact HB.out | apply below_alloc | apply pw_below_drewN | apply below_drew1 | refine below_set ?_ GE218.out) | exact HB.out))))
                                            (case aL => have := LMc46.out; omega)
                                            intro v256 w65 ho hb hg hat
                                            rw [← Ny255.out] at ho
                                            have n0_ := Aside0.mk (blk_grown (g := gb218) (o := .cells #[.string a1_0, .string a1_1] 33 (0, 0)) (by (with_reducible repeat (first | refine blk_drewN ?_ _ | refine blk_drew ?_ | refine blk_alloc ?_ _)); exact BK218.out) hg (Kd.R_away HO251.out (fun _ hk => hk.2)))
                                            have n1_ := Aside0.mk (Kd.R_after (ok := (fun k_ => k_ ≠ gb218)) (by (with_reducible repeat (first | apply Kd.R_alloc | apply Kd.R_drewN | apply Kd.R_drew)); exact Kd.R_mono HO254.out (fun _ hk => ⟨hk.2, hk.1⟩)) hg hat)
                                            have n2_ := Aside0.mk (hb)
                                            have n3_ := Aside0.mk (ho)
                                            clear BK218
                                            clear HO254
                                            clear HB
                                            clear HO251
                                            have BK218 := n0_
                                            have HO254 := n1_
                                            have HB := n2_
                                            have HO257 := n3_
                                            clear n0_ n1_ n2_ n3_
                                            clear ho hb hg hat
                                            refine hK.out _ _ ⟨(blk_cell BK218.out 0).trans rfl, (blk_cell BK218.out 1).trans rfl⟩ (fun hHeld => ?_)
                                            clear hK K
                                            refine norm_ (a' := ?_) ?_ ?_
                                            rotate_left
                                            · show Act.put _ (some 72) _ = _
                                              simp only [Act.put, List.setIfInBounds_toArray, List.set_cons_zero, List.set_cons_succ, i64_w, i32_w]
                                              rfl
                                            refine one_ (i := 11) (N := some 76) #[true, true, true, true, true, true, true, true, true, true, true, true, false] rfl rfl (one_of HT_.out (by kernel_rfl)) (by decide) (fun K hK => ?_)
                                            refine Kd.R_append_rows_step k33 (w0 := w) w.heap.size (by rfl) (.tmp 72) (.tmp 75) 23 33 (.agg #[(.string ⟨#[]⟩), (.string ⟨#[]⟩)]) 32 rfl Tryd.underlying23 info33 rfl (by decide) (by omega) v256 y255 y258 _ _ _ (fun k_ => some k_ ≠ (.slice Ao66 y252.length co66 : Value).ownBlock ∧ k_ ≠ gb218) (fun _ => False) rfl rfl ?aO ?aR (fun _ _ h => h) (fun _ h => h.elim) ?aF ?aB ?aS ?aL ?_
                                            (case aR => repeat (first | exact (Kd.C_below HR261.out HB.out) | (with_reducible refine Kd.C_alloc ?_ _) | (with_reducible refine Kd.C_drewN ?_ _) | (with_reducible refine Kd.C_drew ?_)))
                                            (case aB => exact (by repeat (first | (with_reducible first | exact HB.out | apply below_alloc | apply pw_below_drewN | apply below_drew1 | refine below_set ?_ GE218.out) | exact HB.out)))
                                            (case aF => exact (fun k_ hk => ⟨Kd.fresh' (Kd.R_lt (by (with_reducible repeat (first | apply Kd.R_alloc | apply Kd.R_drewN | apply Kd.R_drew)); exact HO254.out)) k_ hk, Kd.freshB (g := gb218) (o := .cells #[.string a1_0, .string a1_1] 33 (0, 0)) (by (with_reducible repeat (first | refine blk_drewN ?_ _ | refine blk_drew ?_ | refine blk_alloc ?_ _)); exact BK218.out) k_ hk⟩))
                                            (case aO => exact (by (with_reducible repeat (first | apply Kd.R_alloc | apply Kd.R_drewN | apply Kd.R_drew)); exact HO257.out))
                                            (case aS => exact (below_size (by repeat (first | (with_reducible first | exact HB.out | apply below_alloc | apply pw_below_drewN | apply below_drew1 | refine below_set ?_ GE218.out) | exact HB.out))))
                                            (case aL => have := LMc49.out; omega)
                                            intro v263 w67 ho hb hg hat
                                            rw [← Ny262.out] at ho
                                            have n0_ := Aside0.mk (blk_grown (g := gb218) (o := .cells #[.string a1_0, .string a1_1] 33 (0, 0)) (by (with_reducible repeat (first | refine blk_drewN ?_ _ | refine blk_drew ?_ | refine blk_alloc ?_ _)); exact BK218.out) hg (Kd.R_away HO257.out (fun _ hk => hk.2)))
                                            have n1_ := Aside0.mk (Kd.R_after (ok := (fun k_ => k_ ≠ gb218)) (by (with_reducible repeat (first | apply Kd.R_alloc | apply Kd.R_drewN | apply Kd.R_drew)); exact HO254.out) hg hat)
                                            have n2_ := Aside0.mk (hb)
                                            have n3_ := Aside0.mk (ho)
                                            clear BK218
                                            clear HO254
                                            clear HB
                                            clear HO257
                                            have BK218 := n0_
                                            have HO254 := n1_
                                            have HB := n2_
                                            have HO264 := n3_
                                            clear n0_ n1_ n2_ n3_
                                            clear ho hb hg hat
                                            refine hK.out _ _ ⟨(blk_cell BK218.out 0).trans rfl, (blk_cell BK218.out 1).trans rfl⟩ (fun hHeld => ?_)
                                            clear hK K
                                            refine norm_ (a' := ?_) ?_ ?_
                                            rotate_left
                                            · show Act.put _ (some 76) _ = _
                                              simp only [Act.put, List.setIfInBounds_toArray, List.set_cons_zero, List.set_cons_succ, i64_w, i32_w]
                                              rfl
                                            refine pure_ (i := 12) (N := some 10) (v := ?_) (a' := ?_) #[true, true, true, true, true, true, true, true, true, true, true, true, true] rfl rfl (any_of HT_.out (by kernel_rfl)) (fun _ _ _ h => h) (Or.inl ⟨by rfl, ?_⟩) ?_ ?_
                                            rotate_left
                                            · intro w'
                                              go_simp
                                              with_reducible rfl
                                            rotate_left
                                            · simp only [Act.put, List.setIfInBounds_toArray, List.set_cons_zero, List.set_cons_succ, i64_w, i32_w]
                                              rfl
                                            refine done_ (done_of HT_.out (by kernel_rfl)) ?_
                                            try go_wp2_with (first | (go_at_call 9; (with_reducible refine (coop_Coop.calls _ _ l0 true t265 t266 t267 t268 _ ?side1 ?side2 A51.out).mono ?_); (case side1 => repeat (first | exact (Kd.C_below HR0.out HB.out) | (with_reducible refine Kd.C_alloc ?_ _) | (with_reducible refine Kd.C_drewN ?_ _) | (with_reducible refine Kd.C_drew ?_))); (case side2 => exact HC0.out); rintro e w68 ⟨rfl, hb⟩; have n0_ := Aside0.mk (Kd.R_below (by (with_reducible repeat (first | apply Kd.R_alloc | apply Kd.R_drewN | apply Kd.R_drew)); exact HO254.out) hb); have n1_ := Aside0.mk (Kd.R_below (by (with_reducible repeat (first | apply Kd.R_alloc | apply Kd.R_drewN | apply Kd.R_drew)); exact HO264.out) hb); have n2_ := Aside0.mk (blk_below (g := gb218) (o := .cells #[.string a1_0, .string a1_1] 33 (0, 0)) (by (with_reducible repeat (first | refine blk_drewN ?_ _ | refine blk_drew ?_ | refine blk_alloc ?_ _)); exact BK218.out) hb); have n3_ := Aside0.mk (below_step (by repeat (first | (with_reducible first | exact HB.out | apply below_alloc | apply pw_below_drewN | apply below_drew1 | refine below_set ?_ GE218.out) | exact HB.out)) hb); clear HO254; clear HO264; clear BK218; clear HB; have HO254 := n0_; have HO264 := n1_; have BK218 := n2_; have HB := n3_; clear n0_ n1_ n2_ n3_; (try clear hb); (try clear hb2); (try clear hk); (try clear hi); obtain ⟨Ao69, co69, eo69⟩ := Kd.R_slice HO264.out; subst eo69) | (go_at_call 9; (with_reducible refine (coop_Coop.calls _ _ y262 true t265 t270 t267 t272 _ ?side1 ?side2 A52.out).mono ?_); (case side1 => repeat (first | exact (Kd.R_reads' HO264.out).2.2 | (with_reducible refine Kd.C_alloc ?_ _) | (with_reducible refine Kd.C_drewN ?_ _) | (with_reducible refine Kd.C_drew ?_))); (case side2 => exact (Kd.R_reads' HO264.out).2.1); rintro e w70 ⟨rfl, hb⟩; have n0_ := Aside0.mk (Kd.R_below (by (with_reducible repeat (first | apply Kd.R_alloc | apply Kd.R_drewN | apply Kd.R_drew)); exact HO254.out) hb); have n1_ := Aside0.mk (Kd.R_below (by (with_reducible repeat (first | apply Kd.R_alloc | apply Kd.R_drewN | apply Kd.R_drew)); exact HO264.out) hb); have n2_ := Aside0.mk (blk_below (g := gb218) (o := .cells #[.string a1_0, .string a1_1] 33 (0, 0)) (by (with_reducible repeat (first | refine blk_drewN ?_ _ | refine blk_drew ?_ | refine blk_alloc ?_ _)); exact BK218.out) hb); have n3_ := Aside0.mk (below_step (by repeat (first | (with_reducible first | exact HB.out | apply below_alloc | apply pw_below_drewN | apply below_drew1 | refine below_set ?_ GE218.out) | exact HB.out)) hb); clear HO254; clear HO264; clear BK218; clear HB; have HO254 := n0_; have HO264 := n1_; have BK218 := n2_; have HB := n3_; clear n0_ n1_ n2_ n3_; (try clear hb); (try clear hb2); (try clear hk); (try clear hi)) | (go_at_call 11; (with_reducible refine (coop_Coep.calls _ _ l0 true t273 t274 t275 t276 _ ?side1 ?side2 A54.out).mono ?_); (case side1 => repeat (first | exact (Kd.C_below HR0.out HB.out) | (with_reducible refine Kd.C_alloc ?_ _) | (with_reducible refine Kd.C_drewN ?_ _) | (with_reducible refine Kd.C_drew ?_))); (case side2 => exact HC0.out); rintro e w71 ⟨rfl, hb⟩; have n0_ := Aside0.mk (Kd.R_below (by (with_reducible repeat (first | apply Kd.R_alloc | apply Kd.R_drewN | apply Kd.R_drew)); exact HO254.out) hb); have n1_ := Aside0.mk (Kd.R_below (by (with_reducible repeat (first | apply Kd.R_alloc | apply Kd.R_drewN | apply Kd.R_drew)); exact HO264.out) hb); have n2_ := Aside0.mk (blk_below (g := gb218) (o := .cells #[.string a1_0, .string a1_1] 33 (0, 0)) (by (with_reducible repeat (first | refine blk_drewN ?_ _ | refine blk_drew ?_ | refine blk_alloc ?_ _)); exact BK218.out) hb); have n3_ := Aside0.mk (below_step (by repeat (first | (with_reducible first | exact HB.out | apply below_alloc | apply pw_below_drewN | apply below_drew1 | refine below_set ?_ GE218.out) | exact HB.out)) hb); clear HO254; clear HO264; clear BK218; clear HB; have HO254 := n0_; have HO264 := n1_; have BK218 := n2_; have HB := n3_; clear n0_ n1_ n2_ n3_; (try clear hb); (try clear hb2); (try clear hk); (try clear hi)) | (go_at_call 11; (with_reducible refine (coop_Coep.calls _ _ y262 true t277 t278 t279 t280 _ ?side1 ?side2 A55.out).mono ?_); (case side1 => repeat (first | exact (Kd.R_reads' HO264.out).2.2 | (with_reducible refine Kd.C_alloc ?_ _) | (with_reducible refine Kd.C_drewN ?_ _) | (with_reducible refine Kd.C_drew ?_))); (case side2 => exact (Kd.R_reads' HO264.out).2.1); rintro e w72 ⟨rfl, hb⟩; have n0_ := Aside0.mk (Kd.R_below (by (with_reducible repeat (first | apply Kd.R_alloc | apply Kd.R_drewN | apply Kd.R_drew)); exact HO254.out) hb); have n1_ := Aside0.mk (Kd.R_below (by (with_reducible repeat (first | apply Kd.R_alloc | apply Kd.R_drewN | apply Kd.R_drew)); exact HO264.out) hb); have n2_ := Aside0.mk (blk_below (g := gb218) (o := .cells #[.string a1_0, .string a1_1] 33 (0, 0)) (by (with_reducible repeat (first | refine blk_drewN ?_ _ | refine blk_drew ?_ | refine blk_alloc ?_ _)); exact BK218.out) hb); have n3_ := Aside0.mk (below_step (by repeat (first | (with_reducible first | exact HB.out | apply below_alloc | apply pw_below_drewN | apply below_drew1 | refine below_set ?_ GE218.out) | exact HB.out)) hb); clear HO254; clear HO264; clear BK218; clear HB; have HO254 := n0_; have HO264 := n1_; have BK218 := n2_; have HB := n3_; clear n0_ n1_ n2_ n3_; (try clear hb); (try clear hb2); (try clear hk); (try clear hi)))
                                            go_ret
                                            exact ⟨by first | rfl | (simp [errW_none, errW_some] <;> rfl) | (simp only [← hji42]; first | rfl | (simp [errW_none, errW_some] <;> rfl)) | (simp [*, errW_none, errW_some] <;> rfl) | (simp [q_ne_nil]; done), by repeat (first | (with_reducible first | exact HB.out | apply below_alloc | apply pw_below_drewN | apply below_drew1 | refine below_set ?_ GE218.out) | exact HB.out)⟩
                                          · exact absurd H (by rw [if_neg c53]; simp)
                                        · exact absurd H (by rw [if_neg c50]; simp)
                                      · exact absurd H (by rw [if_neg c49]; simp)
                                    · exact absurd H (by rw [if_neg c46]; simp)
                                  · exact absurd H (by rw [if_neg c45]; simp)
                                · exact absurd H (by rw [if_neg c44]; simp)
                              · exact absurd H (by rw [if_neg c43]; simp)
    · exact absurd H (by rw [if_neg c6]; simp)
  · exact absurd H (by rw [if_neg c5]; simp)

end Go.Proofs.YtciigmlibnpeeaaDoor.Q
