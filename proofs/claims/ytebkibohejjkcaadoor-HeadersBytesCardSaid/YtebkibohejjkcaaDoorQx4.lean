-- Laid by this seat's own driver (wip/tools/drive.py) out of the translation.
import Derived.Test.YtebkibohejjkcaaDoorQx0
import Derived.Test.YtebkibohejjkcaaDoorQx1
import Derived.Test.YtebkibohejjkcaaDoorQx2
import Derived.Test.YtebkibohejjkcaaDoorQx3
namespace Go.Proofs.YtebkibohejjkcaaDoor.Q
open Go.RowKit Go.Proofs.YtebkibohejjkcaaDoorW.PrintWords Go.Proofs.YtebkibohejjkcaaDoorW.PrintLast Go.Proofs.YtebkibohejjkcaaDoorW.PrintMore
attribute [local go_sem] max2_int min2_int max_two min_two max_three min_three max_four min_four   -- for this text's walks alone
set_option linter.unusedVariables false
set_option linter.unusedSimpArgs false

/-! ### glacislaw07_HeadersBytes: function 5 -/
mutual
def glacislaw07_HeadersBytes.j0 : Nat → List (S24) → Int → Bool → Bool → ByteArray → ByteArray → Option (Bool)
  | 0, _, _, _, _, _, _ => none
  | k + 1, x0, x2, x7, x39, x137000, x137001 => if x39 = true then (some x7) else ((some (([x2] : List Int) : List Int)).bind fun y152 => (if x137001.size + (strOfNums y152).size ≤ 9223372036854775807 then (if (x137001 ++ (strOfNums y152)).size + 1 ≤ 9223372036854775807 then (if x2 = 0 then (glacislaw07_HeadersBytes.j1 k x0 x7 true x137000 ((x137001 ++ (strOfNums y152)) ++ (⟨#[120]⟩ : ByteArray))) else (if x2 = 10 then (glacislaw07_HeadersBytes.j1 k x0 x7 true x137000 ((x137001 ++ (strOfNums y152)) ++ (⟨#[120]⟩ : ByteArray))) else (glacislaw07_HeadersBytes.j1 k x0 x7 (x2 == 13) x137000 ((x137001 ++ (strOfNums y152)) ++ (⟨#[120]⟩ : ByteArray))))) else (none)) else (none)))
def glacislaw07_HeadersBytes.j1 : Nat → List (S24) → Bool → Bool → ByteArray → ByteArray → Option (Bool)
  | 0, _, _, _, _, _ => none
  | k + 1, x0, x7, x9, x137000, x137001 => glacislaw07_HeadersBytes.l0 k x0 x7 x9 0 x137000 x137001
def glacislaw07_HeadersBytes.l0 : Nat → List (S24) → Bool → Bool → Int → ByteArray → ByteArray → Option (Bool)
  | 0, _, _, _, _, _, _ => none
  | k + 1, x0, x7, x9, x10, x137000, x137001 => if x10 < (x137001.size : Int) then (if x9 = true then (glacislaw07_HeadersBytes.l0 k x0 x7 true (wrap64 (x10 + 1)) x137000 x137001) else (if 0 ≤ x10 then (if (bt x137001 x10) = 0 then (glacislaw07_HeadersBytes.l0 k x0 x7 true (wrap64 (x10 + 1)) x137000 x137001) else (if (bt x137001 x10) = 10 then (glacislaw07_HeadersBytes.l0 k x0 x7 true (wrap64 (x10 + 1)) x137000 x137001) else (glacislaw07_HeadersBytes.l0 k x0 x7 ((bt x137001 x10) == 13) (wrap64 (x10 + 1)) x137000 x137001))) else (none))) else ((octet_Token.f k x137000).bind fun t155 => ((some (([] : List (S24)) : List (S24))).bind fun y156 => (if y156.length + x0.length < 4398046511104 then ((some (y156 ++ x0 : List (S24))).bind fun y159 => ((some (([(⟨x137000, x137001⟩ : S24)] : List (S24)) : List (S24))).bind fun y162 => (if y159.length + y162.length < 4398046511104 then ((headers_Check.f k (y159 ++ y162)).bind fun t168 => (if (x0.length : Int) > 0 then (if 1 ≤ (x0.length : Int) then ((headers_Check.f k (x0.drop 1)).bind fun t173 => (if x7 = true then (if t173 = 0 then (if t155 = true then (some ((t168 == 0) == (!x9))) else (some ((t168 == 0) == false))) else (none)) else (none))) else (none)) else (if x7 = true then (if 0 = 0 then (if t155 = true then (some ((t168 == 0) == (!x9))) else (some ((t168 == 0) == false))) else (none)) else (none)))) else (none)))) else (none))))
end
def glacislaw07_HeadersBytes.f (k : Nat) (l0 : List (S24)) (a1_0 : ByteArray) (a1_1 : ByteArray) (a2 : Int) : Option (Bool) := (glacislaw07_awake.f k).bind fun t137 => ((some (([] : List (S24)) : List (S24))).bind fun y138 => (if y138.length + l0.length < 4398046511104 then ((some (y138 ++ l0 : List (S24))).bind fun y141 => ((some (([(⟨a1_0, a1_1⟩ : S24)] : List (S24)) : List (S24))).bind fun y144 => (if y141.length + y144.length < 4398046511104 then ((glacislaw07_few.f k (y141 ++ y144)).bind fun t150 => (if t150 = true then (if (l0.length : Int) > 90 then (glacislaw07_HeadersBytes.j0 k l0 a2 t137 true a1_0 a1_1) else (if (a1_1.size : Int) > 3000 then (glacislaw07_HeadersBytes.j0 k l0 a2 t137 true a1_0 a1_1) else ((headers_Check.f k l0).bind fun t151 => (glacislaw07_HeadersBytes.j0 k l0 a2 t137 (t151 != 0) a1_0 a1_1)))) else (glacislaw07_HeadersBytes.j0 k l0 a2 t137 true a1_0 a1_1))) else (none)))) else (none)))
theorem glacislaw07_HeadersBytes.mono_l : ∀ k, (∀ y0 y1 y2 y3 y4 y5, LeO (glacislaw07_HeadersBytes.j0 k y0 y1 y2 y3 y4 y5) (glacislaw07_HeadersBytes.j0 (k + 1) y0 y1 y2 y3 y4 y5)) ∧ (∀ y0 y1 y2 y3 y4, LeO (glacislaw07_HeadersBytes.j1 k y0 y1 y2 y3 y4) (glacislaw07_HeadersBytes.j1 (k + 1) y0 y1 y2 y3 y4)) ∧ (∀ y0 y1 y2 y3 y4 y5, LeO (glacislaw07_HeadersBytes.l0 k y0 y1 y2 y3 y4 y5) (glacislaw07_HeadersBytes.l0 (k + 1) y0 y1 y2 y3 y4 y5))
  | 0 => ⟨fun _ _ _ _ _ _ r h => by simp [glacislaw07_HeadersBytes.j0] at h, fun _ _ _ _ _ r h => by simp [glacislaw07_HeadersBytes.j1] at h, fun _ _ _ _ _ _ r h => by simp [glacislaw07_HeadersBytes.l0] at h⟩
  | k + 1 => by
    obtain ⟨ih0, ih1, ih2⟩ := glacislaw07_HeadersBytes.mono_l k
    refine ⟨?_, ?_, ?_⟩
    · intro y0 y1 y2 y3 y4 y5
      unfold glacislaw07_HeadersBytes.j0
      repeat' first
      | (with_reducible exact ih0 _ _ _ _ _ _)
      | (with_reducible exact ih1 _ _ _ _ _)
      | (with_reducible exact ih2 _ _ _ _ _ _)
      | (with_reducible exact glacislaw07_awake.mono _)
      | (with_reducible exact glacislaw07_few.mono _ _)
      | (with_reducible exact headers_Check.mono _ _)
      | (with_reducible exact octet_Token.mono _ _)
      | (with_reducible exact LeO.refl _)
      | (with_reducible exact LeO.none _)
      | (with_reducible refine LeO.ite ?_ ?_)
      | (with_reducible refine LeO.bind ?_ (fun _ => ?_))
      | exact ih0 _ _ _ _ _ _
      | exact ih1 _ _ _ _ _
      | exact ih2 _ _ _ _ _ _
      | exact glacislaw07_awake.mono _
      | exact glacislaw07_few.mono _ _
      | exact headers_Check.mono _ _
      | exact octet_Token.mono _ _
      | exact LeO.none _
      | refine LeO.ite ?_ ?_
      | refine LeO.bind ?_ (fun _ => ?_)
    · intro y0 y1 y2 y3 y4
      unfold glacislaw07_HeadersBytes.j1
      repeat' first
      | (with_reducible exact ih0 _ _ _ _ _ _)
      | (with_reducible exact ih1 _ _ _ _ _)
      | (with_reducible exact ih2 _ _ _ _ _ _)
      | (with_reducible exact glacislaw07_awake.mono _)
      | (with_reducible exact glacislaw07_few.mono _ _)
      | (with_reducible exact headers_Check.mono _ _)
      | (with_reducible exact octet_Token.mono _ _)
      | (with_reducible exact LeO.refl _)
      | (with_reducible exact LeO.none _)
      | (with_reducible refine LeO.ite ?_ ?_)
      | (with_reducible refine LeO.bind ?_ (fun _ => ?_))
      | exact ih0 _ _ _ _ _ _
      | exact ih1 _ _ _ _ _
      | exact ih2 _ _ _ _ _ _
      | exact glacislaw07_awake.mono _
      | exact glacislaw07_few.mono _ _
      | exact headers_Check.mono _ _
      | exact octet_Token.mono _ _
      | exact LeO.none _
      | refine LeO.ite ?_ ?_
      | refine LeO.bind ?_ (fun _ => ?_)
    · intro y0 y1 y2 y3 y4 y5
      unfold glacislaw07_HeadersBytes.l0
      repeat' first
      | (with_reducible exact ih0 _ _ _ _ _ _)
      | (with_reducible exact ih1 _ _ _ _ _)
      | (with_reducible exact ih2 _ _ _ _ _ _)
      | (with_reducible exact glacislaw07_awake.mono _)
      | (with_reducible exact glacislaw07_few.mono _ _)
      | (with_reducible exact headers_Check.mono _ _)
      | (with_reducible exact octet_Token.mono _ _)
      | (with_reducible exact LeO.refl _)
      | (with_reducible exact LeO.none _)
      | (with_reducible refine LeO.ite ?_ ?_)
      | (with_reducible refine LeO.bind ?_ (fun _ => ?_))
      | exact ih0 _ _ _ _ _ _
      | exact ih1 _ _ _ _ _
      | exact ih2 _ _ _ _ _ _
      | exact glacislaw07_awake.mono _
      | exact glacislaw07_few.mono _ _
      | exact headers_Check.mono _ _
      | exact octet_Token.mono _ _
      | exact LeO.none _
      | refine LeO.ite ?_ ?_
      | refine LeO.bind ?_ (fun _ => ?_)
theorem glacislaw07_HeadersBytes.mono : ∀ a0 a1 a2 a3 k, LeO (glacislaw07_HeadersBytes.f k a0 a1 a2 a3) (glacislaw07_HeadersBytes.f (k + 1) a0 a1 a2 a3) := by
  intro a0 a1 a2 a3 k
  obtain ⟨ih0, ih1, ih2⟩ := glacislaw07_HeadersBytes.mono_l k
  unfold glacislaw07_HeadersBytes.f
  repeat' first
      | (with_reducible exact ih0 _ _ _ _ _ _)
      | (with_reducible exact ih1 _ _ _ _ _)
      | (with_reducible exact ih2 _ _ _ _ _ _)
      | (with_reducible exact glacislaw07_awake.mono _)
      | (with_reducible exact glacislaw07_few.mono _ _)
      | (with_reducible exact headers_Check.mono _ _)
      | (with_reducible exact octet_Token.mono _ _)
      | (with_reducible exact LeO.refl _)
      | (with_reducible exact LeO.none _)
      | (with_reducible refine LeO.ite ?_ ?_)
      | (with_reducible refine LeO.bind ?_ (fun _ => ?_))
      | exact ih0 _ _ _ _ _ _
      | exact ih1 _ _ _ _ _
      | exact ih2 _ _ _ _ _ _
      | exact glacislaw07_awake.mono _
      | exact glacislaw07_few.mono _ _
      | exact headers_Check.mono _ _
      | exact octet_Token.mono _ _
      | exact LeO.none _
      | refine LeO.ite ?_ ?_
      | refine LeO.bind ?_ (fun _ => ?_)
def glacislaw07_HeadersBytes.T2 : Bool × List (List Nat × List Nat) := (true, [([], []), ([], []), ([0, 1], [0, 1]), ([], []), ([3], [3]), ([2, 4, 2], [2, 4]), ([5, 5], [5]), ([6, 6, 0, 1, 2, 3, 4, 5, 6], [6])])
def glacislaw07_HeadersBytes.B2 : List Nat := [0, 0, 3, 0, 8, 31, 63, 127]
theorem glacislaw07_HeadersBytes.tab2 : rtab .any (opsOf Tryd.f5 2) = glacislaw07_HeadersBytes.T2 := by kernel_rfl
theorem glacislaw07_HeadersBytes.bits2 : waitsOk glacislaw07_HeadersBytes.T2.2 glacislaw07_HeadersBytes.B2 = true := by kernel_rfl
def glacislaw07_HeadersBytes.T12 : Bool × List (List Nat × List Nat) := (true, [([], []), ([], []), ([0, 1], [0, 1]), ([], []), ([3], [3]), ([2, 4, 2], [2, 4]), ([5, 5], [5]), ([6, 6, 0, 1, 2, 3, 4, 5, 6], [6])])
def glacislaw07_HeadersBytes.B12 : List Nat := [0, 0, 3, 0, 8, 31, 63, 127]
theorem glacislaw07_HeadersBytes.tab12 : rtab .any (opsOf Tryd.f5 12) = glacislaw07_HeadersBytes.T12 := by kernel_rfl
theorem glacislaw07_HeadersBytes.bits12 : waitsOk glacislaw07_HeadersBytes.T12.2 glacislaw07_HeadersBytes.B12 = true := by kernel_rfl
set_option maxHeartbeats 8000000 in
set_option maxRecDepth 100000 in
theorem glacislaw07_HeadersBytes.calls (k : Nat) (A0 : Option Addr) (c0 : Nat) (l0 : List (S24)) (a1_0 : ByteArray) (a1_1 : ByteArray) (a2 : Int) (r : Bool) (w : World) (hr0 : Kd.C k24 w A0 l0.length l0) (hc0 : l0.length ≤ c0) (h : glacislaw07_HeadersBytes.f k l0 a1_0 a1_1 a2 = some r) :
    Calls Tryd.prog 5 #[.slice A0 l0.length c0, .agg #[.string a1_0, .string a1_1], .int .u8 a2] w fun e w' => e = .returned (.bool r) ∧ Below w.heap.size w w' := by
  have hu24 := Tryd.underlying24
  have HR0 := Aside0.mk hr0
  have HC0 := Aside0.mk hc0
  clear hr0 hc0
  have HB := Aside0.mk (Below.refl w.heap.size w)
  have H : ((glacislaw07_awake.f k).bind fun t137 => ((some (([] : List (S24)) : List (S24))).bind fun y138 => (if y138.length + l0.length < 4398046511104 then ((some (y138 ++ l0 : List (S24))).bind fun y141 => ((some (([(⟨a1_0, a1_1⟩ : S24)] : List (S24)) : List (S24))).bind fun y144 => (if y141.length + y144.length < 4398046511104 then ((glacislaw07_few.f k (y141 ++ y144)).bind fun t150 => (if t150 = true then (if (l0.length : Int) > 90 then (glacislaw07_HeadersBytes.j0 k l0 a2 t137 true a1_0 a1_1) else (if (a1_1.size : Int) > 3000 then (glacislaw07_HeadersBytes.j0 k l0 a2 t137 true a1_0 a1_1) else ((headers_Check.f k l0).bind fun t151 => (glacislaw07_HeadersBytes.j0 k l0 a2 t137 (t151 != 0) a1_0 a1_1)))) else (glacislaw07_HeadersBytes.j0 k l0 a2 t137 true a1_0 a1_1))) else (none)))) else (none)))) = some r := h
  clear h
  replace H := Option.bind_eq_some_iff.mp H
  obtain ⟨t137, A40, H⟩ := H
  replace H : ((some (([] : List (S24)) : List (S24))).bind fun y138 => (if y138.length + l0.length < 4398046511104 then ((some (y138 ++ l0 : List (S24))).bind fun y141 => ((some (([(⟨a1_0, a1_1⟩ : S24)] : List (S24)) : List (S24))).bind fun y144 => (if y141.length + y144.length < 4398046511104 then ((glacislaw07_few.f k (y141 ++ y144)).bind fun t150 => (if t150 = true then (if (l0.length : Int) > 90 then (glacislaw07_HeadersBytes.j0 k l0 a2 t137 true a1_0 a1_1) else (if (a1_1.size : Int) > 3000 then (glacislaw07_HeadersBytes.j0 k l0 a2 t137 true a1_0 a1_1) else ((headers_Check.f k l0).bind fun t151 => (glacislaw07_HeadersBytes.j0 k l0 a2 t137 (t151 != 0) a1_0 a1_1)))) else (glacislaw07_HeadersBytes.j0 k l0 a2 t137 true a1_0 a1_1))) else (none)))) else (none))) = some r := H
  have A4 := Aside0.mk A40
  clear A40
  obtain ⟨y138, hy138⟩ : ∃ y_ : List (S24), y_ = (([] : List (S24))) := ⟨_, rfl⟩
  replace H : (if y138.length + l0.length < 4398046511104 then ((some (y138 ++ l0 : List (S24))).bind fun y141 => ((some (([(⟨a1_0, a1_1⟩ : S24)] : List (S24)) : List (S24))).bind fun y144 => (if y141.length + y144.length < 4398046511104 then ((glacislaw07_few.f k (y141 ++ y144)).bind fun t150 => (if t150 = true then (if (l0.length : Int) > 90 then (glacislaw07_HeadersBytes.j0 k l0 a2 t137 true a1_0 a1_1) else (if (a1_1.size : Int) > 3000 then (glacislaw07_HeadersBytes.j0 k l0 a2 t137 true a1_0 a1_1) else ((headers_Check.f k l0).bind fun t151 => (glacislaw07_HeadersBytes.j0 k l0 a2 t137 (t151 != 0) a1_0 a1_1)))) else (glacislaw07_HeadersBytes.j0 k l0 a2 t137 true a1_0 a1_1))) else (none)))) else (none)) = some r := by first | (rw [hy138]; with_reducible exact H) | (have H2_ := (Option.bind_some _ _).symm.trans H; rw [hy138]; with_reducible exact H2_) | (have H2_ := (Option.bind_some _ _).symm.trans H; with_reducible exact H2_) | with_reducible exact H | (rw [hy138]; exact H) | exact H
  have Ny138 := Aside0.mk hy138
  clear hy138
  by_cases c5 : y138.length + l0.length < 4398046511104
  · rw [if_pos c5] at H
    have LMc5 := Aside0.mk c5
    clear c5
    obtain ⟨y141, hy141⟩ : ∃ y_ : List (S24), y_ = (y138 ++ l0) := ⟨_, rfl⟩
    replace H : ((some (([(⟨a1_0, a1_1⟩ : S24)] : List (S24)) : List (S24))).bind fun y144 => (if y141.length + y144.length < 4398046511104 then ((glacislaw07_few.f k (y141 ++ y144)).bind fun t150 => (if t150 = true then (if (l0.length : Int) > 90 then (glacislaw07_HeadersBytes.j0 k l0 a2 t137 true a1_0 a1_1) else (if (a1_1.size : Int) > 3000 then (glacislaw07_HeadersBytes.j0 k l0 a2 t137 true a1_0 a1_1) else ((headers_Check.f k l0).bind fun t151 => (glacislaw07_HeadersBytes.j0 k l0 a2 t137 (t151 != 0) a1_0 a1_1)))) else (glacislaw07_HeadersBytes.j0 k l0 a2 t137 true a1_0 a1_1))) else (none))) = some r := by first | (rw [hy141]; with_reducible exact H) | (have H2_ := (Option.bind_some _ _).symm.trans H; rw [hy141]; with_reducible exact H2_) | (have H2_ := (Option.bind_some _ _).symm.trans H; with_reducible exact H2_) | with_reducible exact H | (rw [hy141]; exact H) | exact H
    have Ny141 := Aside0.mk hy141
    clear hy141
    obtain ⟨y144, hy144⟩ : ∃ y_ : List (S24), y_ = (([(⟨a1_0, a1_1⟩ : S24)] : List (S24))) := ⟨_, rfl⟩
    replace H : (if y141.length + y144.length < 4398046511104 then ((glacislaw07_few.f k (y141 ++ y144)).bind fun t150 => (if t150 = true then (if (l0.length : Int) > 90 then (glacislaw07_HeadersBytes.j0 k l0 a2 t137 true a1_0 a1_1) else (if (a1_1.size : Int) > 3000 then (glacislaw07_HeadersBytes.j0 k l0 a2 t137 true a1_0 a1_1) else ((headers_Check.f k l0).bind fun t151 => (glacislaw07_HeadersBytes.j0 k l0 a2 t137 (t151 != 0) a1_0 a1_1)))) else (glacislaw07_HeadersBytes.j0 k l0 a2 t137 true a1_0 a1_1))) else (none)) = some r := by first | (rw [hy144]; with_reducible exact H) | (have H2_ := (Option.bind_some _ _).symm.trans H; rw [hy144]; with_reducible exact H2_) | (have H2_ := (Option.bind_some _ _).symm.trans H; with_reducible exact H2_) | with_reducible exact H | (rw [hy144]; exact H) | exact H
    have Ny144 := Aside0.mk hy144
    clear hy144
    by_cases c6 : y141.length + y144.length < 4398046511104
    · rw [if_pos c6] at H
      have LMc6 := Aside0.mk c6
      clear c6
      obtain ⟨y147, hy147⟩ : ∃ y_ : List (S24), y_ = (y141 ++ y144) := ⟨_, rfl⟩
      replace H : ((glacislaw07_few.f k y147).bind fun t150 => (if t150 = true then (if (l0.length : Int) > 90 then (glacislaw07_HeadersBytes.j0 k l0 a2 t137 true a1_0 a1_1) else (if (a1_1.size : Int) > 3000 then (glacislaw07_HeadersBytes.j0 k l0 a2 t137 true a1_0 a1_1) else ((headers_Check.f k l0).bind fun t151 => (glacislaw07_HeadersBytes.j0 k l0 a2 t137 (t151 != 0) a1_0 a1_1)))) else (glacislaw07_HeadersBytes.j0 k l0 a2 t137 true a1_0 a1_1))) = some r := by first | (rw [hy147]; with_reducible exact H) | (have H2_ := (Option.bind_some _ _).symm.trans H; rw [hy147]; with_reducible exact H2_) | (have H2_ := (Option.bind_some _ _).symm.trans H; with_reducible exact H2_) | with_reducible exact H | (rw [hy147]; exact H) | exact H
      have Ny147 := Aside0.mk hy147
      clear hy147
      replace H := Option.bind_eq_some_iff.mp H
      obtain ⟨t150, A70, H⟩ := H
      replace H : (if t150 = true then (if (l0.length : Int) > 90 then (glacislaw07_HeadersBytes.j0 k l0 a2 t137 true a1_0 a1_1) else (if (a1_1.size : Int) > 3000 then (glacislaw07_HeadersBytes.j0 k l0 a2 t137 true a1_0 a1_1) else ((headers_Check.f k l0).bind fun t151 => (glacislaw07_HeadersBytes.j0 k l0 a2 t137 (t151 != 0) a1_0 a1_1)))) else (glacislaw07_HeadersBytes.j0 k l0 a2 t137 true a1_0 a1_1)) = some r := H
      have A7 := Aside0.mk A70
      clear A70
      have HC8 := Aside0.mk H
      clear H
      go_enter Tryd.func5, Tryd.ntmps5
      try go_wp2_with (first | ((with_reducible refine gate_dst (N := 4) rfl ?_); (try (refine gate_guard (by rfl) ?_; dsimp only)); refine box_event ?hg (N := 4) ?hd (cs := #[.string a1_0, .string a1_1]) (t := 24) ?hr ?_; (case hd => rfl); (case hg => rfl); (case hr => first | (go_simp; done) | (go_simp; rfl)); intro gb136 hg w9 hbox hb; have n0_ := Aside0.mk (below_step (by repeat (first | (with_reducible first | exact HB.out | apply below_alloc | apply pw_below_drewN | apply below_drew1) | exact HB.out)) hb); have n1_ := Aside0.mk (hbox); have n2_ := Aside0.mk ((by rw [hg]; exact (below_size (by repeat (first | (with_reducible first | exact HB.out | apply below_alloc | apply pw_below_drewN | apply below_drew1) | exact HB.out))) : w.heap.size ≤ gb136)); have n3_ := Aside0.mk ((by rw [hg]; exact (below_size (by repeat (first | (with_reducible first | exact HB.out | apply below_alloc | apply pw_below_drewN | apply below_drew1) | exact HB.out))) : w.heap.size ≤ gb136)); clear HB; have HB := n0_; have BK136 := n1_; have GW136 := n2_; have GE136 := n3_; clear n0_ n1_ n2_ n3_; clear hb hbox hg) | ((with_reducible refine gate_callee (f := 7) rfl ?_); refine goesL_ (some 14) rfl rfl Tryd.func7 (by kernel_rfl) rfl #[] rfl (by (try simp only [List.map_toArray, List.map_cons, List.map_nil]); first | done | rfl | (simp only [List.length_drop, List.length_take]; rfl)) ?_; (with_reducible refine (glacislaw07_awake.calls k  t137 _ A4.out).mono ?_); rintro e w10 ⟨rfl, hb⟩; refine ⟨_, rfl, ?_⟩; have n0_ := Aside0.mk (blk_below (g := gb136) (o := .cells #[.string a1_0, .string a1_1] 24 (0, 0)) (by (with_reducible repeat (first | refine blk_drewN ?_ _ | refine blk_drew ?_ | refine blk_alloc ?_ _)); exact BK136.out) hb); have n1_ := Aside0.mk (below_step (by repeat (first | (with_reducible first | exact HB.out | apply below_alloc | apply pw_below_drewN | apply below_drew1 | refine below_set ?_ GE136.out) | exact HB.out)) hb); clear BK136; clear HB; have BK136 := n0_; have HB := n1_; clear n0_ n1_; (try clear hb); (try clear hb2); (try clear hk); (try clear hi)))
      have n0_ := Aside0.mk (blk_drew BK136.out)
      have n1_ := Aside0.mk (below_drew1 HB.out)
      clear BK136
      clear HB
      have BK136 := n0_
      have HB := n1_
      clear n0_ n1_
      refine start_ (n := 8) (S := fun w' => w'.cell? ⟨gb136, 0, none⟩ = some (.string a1_0) ∧ w'.cell? ⟨gb136, 1, none⟩ = some (.string a1_1)) (ds := []) #[false, false, false, false, false, false, false, false] (by kernel_rfl) rfl rfl ⟨(blk_cell BK136.out 0).trans rfl, (blk_cell BK136.out 1).trans rfl⟩ (fun hHeld => ?_); refine with_tabW glacislaw07_HeadersBytes.tab2 glacislaw07_HeadersBytes.bits2 (fun HT_ HW_ => ?_)
      generalize w10.drew = w11 at BK136 HB hHeld ⊢
      refine pure_ (i := 1) (N := some 16) (v := ?_) (a' := ?_) #[false, true, false, false, false, false, false, false] rfl rfl (any_of HT_.out (by kernel_rfl)) (fun _ _ _ h => h) (Or.inl ⟨by rfl, ?_⟩) ?_ ?_
      rotate_left
      · intro w'
        go_simp
        with_reducible rfl
      rotate_left
      · simp only [Act.put, List.setIfInBounds_toArray, List.set_cons_zero, List.set_cons_succ, i64_w, i32_w]
        rfl
      refine take_ (i := 3) (N := some 18) (v := ?_) (a' := ?_) #[false, true, false, true, false, false, false, false] rfl rfl (take_ofW HT_.out HW_.out (by kernel_rfl)) (fun _ _ _ h => h) (Or.inl ⟨by rfl, ?_⟩) hHeld ?_ ?_
      rotate_left
      · rintro w' ⟨s0, s1⟩
        go_simp
        with_reducible rfl
      rotate_left
      · simp only [Act.put, List.setIfInBounds_toArray, List.set_cons_zero, List.set_cons_succ, i64_w, i32_w]
        rfl
      refine join_ (σ := Value × Value × Value) 3 #[true, true, true, true, true, false, false, false] (fun s_ => [(15, s_.1), (17, s_.2.1), (19, s_.2.2)]) (fun s_ w' => (w'.cell? ⟨gb136, 0, none⟩ = some (.string a1_0) ∧ w'.cell? ⟨gb136, 1, none⟩ = some (.string a1_1)) ∧ (Kd.R k24 24 w' w.heap.size (fun k_ => some k_ ≠ (s_.2.2 : Value).ownBlock ∧ k_ ≠ gb136) s_.2.1 y141) ∧ (Kd.R k24 24 w' w.heap.size (fun k_ => some k_ ≠ (s_.2.1 : Value).ownBlock ∧ k_ ≠ gb136) s_.2.2 y144) ∧ (w'.heap[gb136]? = some (.cells #[.string a1_0, .string a1_1] 24 (0, 0))) ∧ (Below w.heap.size w w')) ?_ ?_
      rotate_left
      · intro hCont
        refine two_ (i := 0) (j := 4) (Ni := some 15) (Nj := some 19) #[true, true, false, true, false, false, false, false] #[false, true, false, true, true, false, false, false] rfl rfl rfl rfl (two_of HT_.out (by kernel_rfl)) (by decide) (by decide) (fun K hK => ?_) (fun K hK => ?_)
        · skip
          refine Kd.R_lit_step k24 _ 24 ?hg (N := 15) ?hd (xs := ([] : List (S24))) (inner := []) (ok := fun _ => True) (okp := fun _ => True) ?hr ?hp (fun _ hk => hk) trivial (Below.refl _ _) (Nat.le_refl _) (by simp) ?_; (case hd => rfl); (case hg => rfl); (case hr => first | (go_simp; done) | (go_simp; rfl)); (case hp => exact (Reps.none _ _))
          intro v139 w12 ho13 hb hg_ hnew_
          clear hg_ hnew_
          (first | rw [← Ny138.out] at ho13 | (simp only [Int.reduceToNat] at ho13; rw [← Ny138.out] at ho13))
          have n0_ := Aside0.mk (Kd.R_lower (Kd.R_newB ho13 (g := gb136) (o := .cells #[.string a1_0, .string a1_1] 24 (0, 0)) (by (with_reducible repeat (first | refine blk_drewN ?_ _ | refine blk_drew ?_ | refine blk_alloc ?_ _)); exact BK136.out)) (below_size (by repeat (first | (with_reducible first | exact HB.out | apply below_alloc | apply pw_below_drewN | apply below_drew1 | refine below_set ?_ GE136.out) | exact HB.out))))
          have n1_ := Aside0.mk (blk_below (g := gb136) (o := .cells #[.string a1_0, .string a1_1] 24 (0, 0)) (by (with_reducible repeat (first | refine blk_drewN ?_ _ | refine blk_drew ?_ | refine blk_alloc ?_ _)); exact BK136.out) hb)
          have n2_ := Aside0.mk (below_step (by repeat (first | (with_reducible first | exact HB.out | apply below_alloc | apply pw_below_drewN | apply below_drew1 | refine below_set ?_ GE136.out) | exact HB.out)) hb)
          clear BK136
          clear HB
          have HO140 := n0_
          have BK136 := n1_
          have HB := n2_
          clear n0_ n1_ n2_
          clear hb ho13
          refine hK.out _ _ ⟨(blk_cell BK136.out 0).trans rfl, (blk_cell BK136.out 1).trans rfl⟩ (fun hHeld => ?_)
          clear hK K
          refine norm_ (a' := ?_) ?_ ?_
          rotate_left
          · show Act.put _ (some 15) _ = _
            simp only [Act.put, List.setIfInBounds_toArray, List.set_cons_zero, List.set_cons_succ, i64_w, i32_w]
            rfl
          refine two_ (i := 2) (j := 4) (Ni := some 17) (Nj := some 19) #[true, true, true, true, false, false, false, false] #[true, true, false, true, true, false, false, false] rfl rfl rfl rfl (two_of HT_.out (by kernel_rfl)) (by decide) (by decide) (fun K hK => ?_) (fun K hK => ?_)
          · skip
            refine Kd.R_append_rows_step k24 (w0 := w) w.heap.size (by rfl) (.tmp 15) (.tmp 16) 25 24 (.agg #[(.string ⟨#[]⟩), (.string ⟨#[]⟩)]) 32 rfl Tryd.underlying25 info24 rfl (by decide) (by omega) v139 y138 l0 _ _ _ (fun k_ => k_ ≠ gb136) (fun _ => False) rfl rfl ?aO ?aR (fun _ _ h => h) (fun _ h => h.elim) ?aF ?aB ?aS ?aL ?_
            (case aR => repeat (first | exact (Kd.C_below HR0.out HB.out) | (with_reducible refine Kd.C_alloc ?_ _) | (with_reducible refine Kd.C_drewN ?_ _) | (with_reducible refine Kd.C_drew ?_)))
            (case aB => exact (by repeat (first | (with_reducible first | exact HB.out | apply below_alloc | apply pw_below_drewN | apply below_drew1 | refine below_set ?_ GE136.out) | exact HB.out)))
            (case aF => exact (fun k_ hk => Kd.freshB (g := gb136) (o := .cells #[.string a1_0, .string a1_1] 24 (0, 0)) (by (with_reducible repeat (first | refine blk_drewN ?_ _ | refine blk_drew ?_ | refine blk_alloc ?_ _)); exact BK136.out) k_ hk))
            (case aO => exact (by (with_reducible repeat (first | apply Kd.R_alloc | apply Kd.R_drewN | apply Kd.R_drew)); exact Kd.R_mono HO140.out (fun _ hk => hk.2)))
            (case aS => exact (below_size (by repeat (first | (with_reducible first | exact HB.out | apply below_alloc | apply pw_below_drewN | apply below_drew1 | refine below_set ?_ GE136.out) | exact HB.out))))
            (case aL => have := LMc5.out; omega)
            intro v142 w14 ho hb hg hat
            rw [← Ny141.out] at ho
            have n0_ := Aside0.mk (blk_grown (g := gb136) (o := .cells #[.string a1_0, .string a1_1] 24 (0, 0)) (by (with_reducible repeat (first | refine blk_drewN ?_ _ | refine blk_drew ?_ | refine blk_alloc ?_ _)); exact BK136.out) hg (Kd.R_away HO140.out (fun _ hk => hk.2)))
            have n1_ := Aside0.mk (hb)
            have n2_ := Aside0.mk (ho)
            clear BK136
            clear HB
            clear HO140
            have BK136 := n0_
            have HB := n1_
            have HO143 := n2_
            clear n0_ n1_ n2_
            clear ho hb hg hat
            refine hK.out _ _ ⟨(blk_cell BK136.out 0).trans rfl, (blk_cell BK136.out 1).trans rfl⟩ (fun hHeld => ?_)
            clear hK K
            refine norm_ (a' := ?_) ?_ ?_
            rotate_left
            · show Act.put _ (some 17) _ = _
              simp only [Act.put, List.setIfInBounds_toArray, List.set_cons_zero, List.set_cons_succ, i64_w, i32_w]
              rfl
            refine one_ (i := 4) (N := some 19) #[true, true, true, true, true, false, false, false] rfl rfl (one_of HT_.out (by kernel_rfl)) (by decide) (fun K hK => ?_)
            refine Kd.R_lit_step k24 _ 24 ?hg (N := 19) ?hd (xs := ([(⟨a1_0, a1_1⟩ : S24)] : List (S24))) (inner := [.string a1_0, .string a1_1]) (ok := fun _ => True) (okp := fun _ => True) ?hr ?hp (fun _ hk => hk) trivial (Below.refl _ _) (Nat.le_refl _) (by simp) ?_; (case hd => rfl); (case hg => rfl); (case hr => first | (go_simp; done) | (go_simp; rfl)); (case hp => exact (Reps.c2 (show Kd.M k24 _ _ _ (⟨a1_0, a1_1⟩ : S24) [.string a1_0, .string a1_1] from (k24_mkM _ _ _ (⟨a1_0, a1_1⟩ : S24) )) (Reps.none _ _)))
            intro v145 w15 ho16 hb hg_ hnew_
            clear hg_ hnew_
            (first | rw [← Ny144.out] at ho16 | (simp only [Int.reduceToNat] at ho16; rw [← Ny144.out] at ho16))
            have n0_ := Aside0.mk (Kd.R_elder' (by (with_reducible repeat (first | apply Kd.R_alloc | apply Kd.R_drewN | apply Kd.R_drew)); exact HO143.out) (Kd.R_base ho16) hb)
            have n1_ := Aside0.mk (Kd.R_lower (Kd.R_newB (Kd.R_new' ho16 (Kd.R_lt (by (with_reducible repeat (first | apply Kd.R_alloc | apply Kd.R_drewN | apply Kd.R_drew)); exact HO143.out))) (g := gb136) (o := .cells #[.string a1_0, .string a1_1] 24 (0, 0)) (by (with_reducible repeat (first | refine blk_drewN ?_ _ | refine blk_drew ?_ | refine blk_alloc ?_ _)); exact BK136.out)) (below_size (by repeat (first | (with_reducible first | exact HB.out | apply below_alloc | apply pw_below_drewN | apply below_drew1 | refine below_set ?_ GE136.out) | exact HB.out))))
            have n2_ := Aside0.mk (blk_below (g := gb136) (o := .cells #[.string a1_0, .string a1_1] 24 (0, 0)) (by (with_reducible repeat (first | refine blk_drewN ?_ _ | refine blk_drew ?_ | refine blk_alloc ?_ _)); exact BK136.out) hb)
            have n3_ := Aside0.mk (below_step (by repeat (first | (with_reducible first | exact HB.out | apply below_alloc | apply pw_below_drewN | apply below_drew1 | refine below_set ?_ GE136.out) | exact HB.out)) hb)
            clear HO143
            clear BK136
            clear HB
            have HO143 := n0_
            have HO146 := n1_
            have BK136 := n2_
            have HB := n3_
            clear n0_ n1_ n2_ n3_
            clear hb ho16
            refine hK.out _ _ ⟨(blk_cell BK136.out 0).trans rfl, (blk_cell BK136.out 1).trans rfl⟩ (fun hHeld => ?_)
            clear hK K
            refine norm_ (a' := ?_) ?_ ?_
            rotate_left
            · show Act.put _ (some 19) _ = _
              simp only [Act.put, List.setIfInBounds_toArray, List.set_cons_zero, List.set_cons_succ, i64_w, i32_w]
              rfl
            exact norm_ (by simp only [putAll, Act.put, List.setIfInBounds_toArray, List.set_cons_zero, List.set_cons_succ]) (hCont (v139, v142, v145) _ ⟨hHeld, (by (with_reducible repeat (first | apply Kd.R_alloc | apply Kd.R_drewN | apply Kd.R_drew)); exact Kd.R_mono HO143.out (fun _ hk => ⟨hk.2, hk.1⟩)), (by (with_reducible repeat (first | apply Kd.R_alloc | apply Kd.R_drewN | apply Kd.R_drew)); exact Kd.R_mono HO146.out (fun _ hk => ⟨hk.1.2, hk.2⟩)), (by (with_reducible repeat (first | refine blk_drewN ?_ _ | refine blk_drew ?_ | refine blk_alloc ?_ _)); exact BK136.out), (by repeat (first | (with_reducible first | exact HB.out | apply below_alloc | apply pw_below_drewN | apply below_drew1 | refine below_set ?_ GE136.out) | exact HB.out))⟩)
          · skip
            refine Kd.R_lit_step k24 _ 24 ?hg (N := 19) ?hd (xs := ([(⟨a1_0, a1_1⟩ : S24)] : List (S24))) (inner := [.string a1_0, .string a1_1]) (ok := fun _ => True) (okp := fun _ => True) ?hr ?hp (fun _ hk => hk) trivial (Below.refl _ _) (Nat.le_refl _) (by simp) ?_; (case hd => rfl); (case hg => rfl); (case hr => first | (go_simp; done) | (go_simp; rfl)); (case hp => exact (Reps.c2 (show Kd.M k24 _ _ _ (⟨a1_0, a1_1⟩ : S24) [.string a1_0, .string a1_1] from (k24_mkM _ _ _ (⟨a1_0, a1_1⟩ : S24) )) (Reps.none _ _)))
            intro v145 w14 ho15 hb hg_ hnew_
            clear hg_ hnew_
            (first | rw [← Ny144.out] at ho15 | (simp only [Int.reduceToNat] at ho15; rw [← Ny144.out] at ho15))
            have n0_ := Aside0.mk (Kd.R_elder' (by (with_reducible repeat (first | apply Kd.R_alloc | apply Kd.R_drewN | apply Kd.R_drew)); exact HO140.out) (Kd.R_base ho15) hb)
            have n1_ := Aside0.mk (Kd.R_lower (Kd.R_newB (Kd.R_new' ho15 (Kd.R_lt (by (with_reducible repeat (first | apply Kd.R_alloc | apply Kd.R_drewN | apply Kd.R_drew)); exact HO140.out))) (g := gb136) (o := .cells #[.string a1_0, .string a1_1] 24 (0, 0)) (by (with_reducible repeat (first | refine blk_drewN ?_ _ | refine blk_drew ?_ | refine blk_alloc ?_ _)); exact BK136.out)) (below_size (by repeat (first | (with_reducible first | exact HB.out | apply below_alloc | apply pw_below_drewN | apply below_drew1 | refine below_set ?_ GE136.out) | exact HB.out))))
            have n2_ := Aside0.mk (blk_below (g := gb136) (o := .cells #[.string a1_0, .string a1_1] 24 (0, 0)) (by (with_reducible repeat (first | refine blk_drewN ?_ _ | refine blk_drew ?_ | refine blk_alloc ?_ _)); exact BK136.out) hb)
            have n3_ := Aside0.mk (below_step (by repeat (first | (with_reducible first | exact HB.out | apply below_alloc | apply pw_below_drewN | apply below_drew1 | refine below_set ?_ GE136.out) | exact HB.out)) hb)
            clear HO140
            clear BK136
            clear HB
            have HO140 := n0_
            have HO146 := n1_
            have BK136 := n2_
            have HB := n3_
            clear n0_ n1_ n2_ n3_
            clear hb ho15
            refine hK.out _ _ ⟨(blk_cell BK136.out 0).trans rfl, (blk_cell BK136.out 1).trans rfl⟩ (fun hHeld => ?_)
            clear hK K
            refine norm_ (a' := ?_) ?_ ?_
            rotate_left
            · show Act.put _ (some 19) _ = _
              simp only [Act.put, List.setIfInBounds_toArray, List.set_cons_zero, List.set_cons_succ, i64_w, i32_w]
              rfl
            refine one_ (i := 2) (N := some 17) #[true, true, true, true, true, false, false, false] rfl rfl (one_of HT_.out (by kernel_rfl)) (by decide) (fun K hK => ?_)
            refine Kd.R_append_rows_step k24 (w0 := w) w.heap.size (by rfl) (.tmp 15) (.tmp 16) 25 24 (.agg #[(.string ⟨#[]⟩), (.string ⟨#[]⟩)]) 32 rfl Tryd.underlying25 info24 rfl (by decide) (by omega) v139 y138 l0 _ _ _ (fun k_ => some k_ ≠ (v145 : Value).ownBlock ∧ k_ ≠ gb136) (fun _ => False) rfl rfl ?aO ?aR (fun _ _ h => h) (fun _ h => h.elim) ?aF ?aB ?aS ?aL ?_
            (case aR => repeat (first | exact (Kd.C_below HR0.out HB.out) | (with_reducible refine Kd.C_alloc ?_ _) | (with_reducible refine Kd.C_drewN ?_ _) | (with_reducible refine Kd.C_drew ?_)))
            (case aB => exact (by repeat (first | (with_reducible first | exact HB.out | apply below_alloc | apply pw_below_drewN | apply below_drew1 | refine below_set ?_ GE136.out) | exact HB.out)))
            (case aF => exact (fun k_ hk => ⟨Kd.fresh' (Kd.R_lt (by (with_reducible repeat (first | apply Kd.R_alloc | apply Kd.R_drewN | apply Kd.R_drew)); exact HO146.out)) k_ hk, Kd.freshB (g := gb136) (o := .cells #[.string a1_0, .string a1_1] 24 (0, 0)) (by (with_reducible repeat (first | refine blk_drewN ?_ _ | refine blk_drew ?_ | refine blk_alloc ?_ _)); exact BK136.out) k_ hk⟩))
            (case aO => exact (by (with_reducible repeat (first | apply Kd.R_alloc | apply Kd.R_drewN | apply Kd.R_drew)); exact Kd.R_mono HO140.out (fun _ hk => ⟨hk.2, hk.1.2⟩)))
            (case aS => exact (below_size (by repeat (first | (with_reducible first | exact HB.out | apply below_alloc | apply pw_below_drewN | apply below_drew1 | refine below_set ?_ GE136.out) | exact HB.out))))
            (case aL => have := LMc5.out; omega)
            intro v142 w16 ho hb hg hat
            rw [← Ny141.out] at ho
            have n0_ := Aside0.mk (blk_grown (g := gb136) (o := .cells #[.string a1_0, .string a1_1] 24 (0, 0)) (by (with_reducible repeat (first | refine blk_drewN ?_ _ | refine blk_drew ?_ | refine blk_alloc ?_ _)); exact BK136.out) hg (Kd.R_away HO140.out (fun _ hk => hk.1.2)))
            have n1_ := Aside0.mk (Kd.R_after (ok := (fun k_ => k_ ≠ gb136)) (by (with_reducible repeat (first | apply Kd.R_alloc | apply Kd.R_drewN | apply Kd.R_drew)); exact Kd.R_mono HO146.out (fun _ hk => ⟨hk.2, hk.1.2⟩)) hg hat)
            have n2_ := Aside0.mk (hb)
            have n3_ := Aside0.mk (ho)
            clear BK136
            clear HO146
            clear HB
            clear HO140
            have BK136 := n0_
            have HO146 := n1_
            have HB := n2_
            have HO143 := n3_
            clear n0_ n1_ n2_ n3_
            clear ho hb hg hat
            refine hK.out _ _ ⟨(blk_cell BK136.out 0).trans rfl, (blk_cell BK136.out 1).trans rfl⟩ (fun hHeld => ?_)
            clear hK K
            refine norm_ (a' := ?_) ?_ ?_
            rotate_left
            · show Act.put _ (some 17) _ = _
              simp only [Act.put, List.setIfInBounds_toArray, List.set_cons_zero, List.set_cons_succ, i64_w, i32_w]
              rfl
            exact norm_ (by simp only [putAll, Act.put, List.setIfInBounds_toArray, List.set_cons_zero, List.set_cons_succ]) (hCont (v139, v142, v145) _ ⟨hHeld, (by (with_reducible repeat (first | apply Kd.R_alloc | apply Kd.R_drewN | apply Kd.R_drew)); exact HO143.out), (by (with_reducible repeat (first | apply Kd.R_alloc | apply Kd.R_drewN | apply Kd.R_drew)); exact Kd.R_mono HO146.out (fun _ hk => ⟨hk.2, hk.1⟩)), (by (with_reducible repeat (first | refine blk_drewN ?_ _ | refine blk_drew ?_ | refine blk_alloc ?_ _)); exact BK136.out), (by repeat (first | (with_reducible first | exact HB.out | apply below_alloc | apply pw_below_drewN | apply below_drew1 | refine below_set ?_ GE136.out) | exact HB.out))⟩)
        · skip
          refine Kd.R_lit_step k24 _ 24 ?hg (N := 19) ?hd (xs := ([(⟨a1_0, a1_1⟩ : S24)] : List (S24))) (inner := [.string a1_0, .string a1_1]) (ok := fun _ => True) (okp := fun _ => True) ?hr ?hp (fun _ hk => hk) trivial (Below.refl _ _) (Nat.le_refl _) (by simp) ?_; (case hd => rfl); (case hg => rfl); (case hr => first | (go_simp; done) | (go_simp; rfl)); (case hp => exact (Reps.c2 (show Kd.M k24 _ _ _ (⟨a1_0, a1_1⟩ : S24) [.string a1_0, .string a1_1] from (k24_mkM _ _ _ (⟨a1_0, a1_1⟩ : S24) )) (Reps.none _ _)))
          intro v145 w12 ho13 hb hg_ hnew_
          clear hg_ hnew_
          (first | rw [← Ny144.out] at ho13 | (simp only [Int.reduceToNat] at ho13; rw [← Ny144.out] at ho13))
          have n0_ := Aside0.mk (Kd.R_lower (Kd.R_newB ho13 (g := gb136) (o := .cells #[.string a1_0, .string a1_1] 24 (0, 0)) (by (with_reducible repeat (first | refine blk_drewN ?_ _ | refine blk_drew ?_ | refine blk_alloc ?_ _)); exact BK136.out)) (below_size (by repeat (first | (with_reducible first | exact HB.out | apply below_alloc | apply pw_below_drewN | apply below_drew1 | refine below_set ?_ GE136.out) | exact HB.out))))
          have n1_ := Aside0.mk (blk_below (g := gb136) (o := .cells #[.string a1_0, .string a1_1] 24 (0, 0)) (by (with_reducible repeat (first | refine blk_drewN ?_ _ | refine blk_drew ?_ | refine blk_alloc ?_ _)); exact BK136.out) hb)
          have n2_ := Aside0.mk (below_step (by repeat (first | (with_reducible first | exact HB.out | apply below_alloc | apply pw_below_drewN | apply below_drew1 | refine below_set ?_ GE136.out) | exact HB.out)) hb)
          clear BK136
          clear HB
          have HO146 := n0_
          have BK136 := n1_
          have HB := n2_
          clear n0_ n1_ n2_
          clear hb ho13
          refine hK.out _ _ ⟨(blk_cell BK136.out 0).trans rfl, (blk_cell BK136.out 1).trans rfl⟩ (fun hHeld => ?_)
          clear hK K
          refine norm_ (a' := ?_) ?_ ?_
          rotate_left
          · show Act.put _ (some 19) _ = _
            simp only [Act.put, List.setIfInBounds_toArray, List.set_cons_zero, List.set_cons_succ, i64_w, i32_w]
            rfl
          refine one_ (i := 0) (N := some 15) #[true, true, false, true, true, false, false, false] rfl rfl (one_of HT_.out (by kernel_rfl)) (by decide) (fun K hK => ?_)
          refine Kd.R_lit_step k24 _ 24 ?hg (N := 15) ?hd (xs := ([] : List (S24))) (inner := []) (ok := fun _ => True) (okp := fun _ => True) ?hr ?hp (fun _ hk => hk) trivial (Below.refl _ _) (Nat.le_refl _) (by simp) ?_; (case hd => rfl); (case hg => rfl); (case hr => first | (go_simp; done) | (go_simp; rfl)); (case hp => exact (Reps.none _ _))
          intro v139 w14 ho15 hb hg_ hnew_
          clear hg_ hnew_
          (first | rw [← Ny138.out] at ho15 | (simp only [Int.reduceToNat] at ho15; rw [← Ny138.out] at ho15))
          have n0_ := Aside0.mk (Kd.R_elder' (by (with_reducible repeat (first | apply Kd.R_alloc | apply Kd.R_drewN | apply Kd.R_drew)); exact HO146.out) (Kd.R_base ho15) hb)
          have n1_ := Aside0.mk (Kd.R_lower (Kd.R_newB (Kd.R_new' ho15 (Kd.R_lt (by (with_reducible repeat (first | apply Kd.R_alloc | apply Kd.R_drewN | apply Kd.R_drew)); exact HO146.out))) (g := gb136) (o := .cells #[.string a1_0, .string a1_1] 24 (0, 0)) (by (with_reducible repeat (first | refine blk_drewN ?_ _ | refine blk_drew ?_ | refine blk_alloc ?_ _)); exact BK136.out)) (below_size (by repeat (first | (with_reducible first | exact HB.out | apply below_alloc | apply pw_below_drewN | apply below_drew1 | refine below_set ?_ GE136.out) | exact HB.out))))
          have n2_ := Aside0.mk (blk_below (g := gb136) (o := .cells #[.string a1_0, .string a1_1] 24 (0, 0)) (by (with_reducible repeat (first | refine blk_drewN ?_ _ | refine blk_drew ?_ | refine blk_alloc ?_ _)); exact BK136.out) hb)
          have n3_ := Aside0.mk (below_step (by repeat (first | (with_reducible first | exact HB.out | apply below_alloc | apply pw_below_drewN | apply below_drew1 | refine below_set ?_ GE136.out) | exact HB.out)) hb)
          clear HO146
          clear BK136
          clear HB
          have HO146 := n0_
          have HO140 := n1_
          have BK136 := n2_
          have HB := n3_
          clear n0_ n1_ n2_ n3_
          clear hb ho15
          refine hK.out _ _ ⟨(blk_cell BK136.out 0).trans rfl, (blk_cell BK136.out 1).trans rfl⟩ (fun hHeld => ?_)
          clear hK K
          refine norm_ (a' := ?_) ?_ ?_
          rotate_left
          · show Act.put _ (some 15) _ = _
            simp only [Act.put, List.setIfInBounds_toArray, List.set_cons_zero, List.set_cons_succ, i64_w, i32_w]
            rfl
          refine one_ (i := 2) (N := some 17) #[true, true, true, true, true, false, false, false] rfl rfl (one_of HT_.out (by kernel_rfl)) (by decide) (fun K hK => ?_)
          refine Kd.R_append_rows_step k24 (w0 := w) w.heap.size (by rfl) (.tmp 15) (.tmp 16) 25 24 (.agg #[(.string ⟨#[]⟩), (.string ⟨#[]⟩)]) 32 rfl Tryd.underlying25 info24 rfl (by decide) (by omega) v139 y138 l0 _ _ _ (fun k_ => some k_ ≠ (v145 : Value).ownBlock ∧ k_ ≠ gb136) (fun _ => False) rfl rfl ?aO ?aR (fun _ _ h => h) (fun _ h => h.elim) ?aF ?aB ?aS ?aL ?_
          (case aR => repeat (first | exact (Kd.C_below HR0.out HB.out) | (with_reducible refine Kd.C_alloc ?_ _) | (with_reducible refine Kd.C_drewN ?_ _) | (with_reducible refine Kd.C_drew ?_)))
          (case aB => exact (by repeat (first | (with_reducible first | exact HB.out | apply below_alloc | apply pw_below_drewN | apply below_drew1 | refine below_set ?_ GE136.out) | exact HB.out)))
          (case aF => exact (fun k_ hk => ⟨Kd.fresh' (Kd.R_lt (by (with_reducible repeat (first | apply Kd.R_alloc | apply Kd.R_drewN | apply Kd.R_drew)); exact HO146.out)) k_ hk, Kd.freshB (g := gb136) (o := .cells #[.string a1_0, .string a1_1] 24 (0, 0)) (by (with_reducible repeat (first | refine blk_drewN ?_ _ | refine blk_drew ?_ | refine blk_alloc ?_ _)); exact BK136.out) k_ hk⟩))
          (case aO => exact (by (with_reducible repeat (first | apply Kd.R_alloc | apply Kd.R_drewN | apply Kd.R_drew)); exact Kd.R_mono HO140.out (fun _ hk => ⟨hk.1.2, hk.2⟩)))
          (case aS => exact (below_size (by repeat (first | (with_reducible first | exact HB.out | apply below_alloc | apply pw_below_drewN | apply below_drew1 | refine below_set ?_ GE136.out) | exact HB.out))))
          (case aL => have := LMc5.out; omega)
          intro v142 w16 ho hb hg hat
          rw [← Ny141.out] at ho
          have n0_ := Aside0.mk (blk_grown (g := gb136) (o := .cells #[.string a1_0, .string a1_1] 24 (0, 0)) (by (with_reducible repeat (first | refine blk_drewN ?_ _ | refine blk_drew ?_ | refine blk_alloc ?_ _)); exact BK136.out) hg (Kd.R_away HO140.out (fun _ hk => hk.2)))
          have n1_ := Aside0.mk (Kd.R_after (ok := (fun k_ => k_ ≠ gb136)) (by (with_reducible repeat (first | apply Kd.R_alloc | apply Kd.R_drewN | apply Kd.R_drew)); exact Kd.R_mono HO146.out (fun _ hk => ⟨hk.1.2, hk.2⟩)) hg hat)
          have n2_ := Aside0.mk (hb)
          have n3_ := Aside0.mk (ho)
          clear BK136
          clear HO146
          clear HB
          clear HO140
          have BK136 := n0_
          have HO146 := n1_
          have HB := n2_
          have HO143 := n3_
          clear n0_ n1_ n2_ n3_
          clear ho hb hg hat
          refine hK.out _ _ ⟨(blk_cell BK136.out 0).trans rfl, (blk_cell BK136.out 1).trans rfl⟩ (fun hHeld => ?_)
          clear hK K
          refine norm_ (a' := ?_) ?_ ?_
          rotate_left
          · show Act.put _ (some 17) _ = _
            simp only [Act.put, List.setIfInBounds_toArray, List.set_cons_zero, List.set_cons_succ, i64_w, i32_w]
            rfl
          exact norm_ (by simp only [putAll, Act.put, List.setIfInBounds_toArray, List.set_cons_zero, List.set_cons_succ]) (hCont (v139, v142, v145) _ ⟨hHeld, (by (with_reducible repeat (first | apply Kd.R_alloc | apply Kd.R_drewN | apply Kd.R_drew)); exact HO143.out), (by (with_reducible repeat (first | apply Kd.R_alloc | apply Kd.R_drewN | apply Kd.R_drew)); exact Kd.R_mono HO146.out (fun _ hk => ⟨hk.2, hk.1⟩)), (by (with_reducible repeat (first | refine blk_drewN ?_ _ | refine blk_drew ?_ | refine blk_alloc ?_ _)); exact BK136.out), (by repeat (first | (with_reducible first | exact HB.out | apply below_alloc | apply pw_below_drewN | apply below_drew1 | refine below_set ?_ GE136.out) | exact HB.out))⟩)
      rintro ⟨v139, v142, v145⟩ w17 ⟨hS_, h0_, h1_, h2_, h3_⟩
      have n0_ : Aside0 (Kd.R k24 24 w17 w.heap.size (fun k_ => some k_ ≠ (v145 : Value).ownBlock ∧ k_ ≠ gb136) v142 y141) := ⟨h0_⟩
      have n1_ : Aside0 (Kd.R k24 24 w17 w.heap.size (fun k_ => some k_ ≠ (v142 : Value).ownBlock ∧ k_ ≠ gb136) v145 y144) := ⟨h1_⟩
      have n2_ : Aside0 (w17.heap[gb136]? = some (.cells #[.string a1_0, .string a1_1] 24 (0, 0))) := ⟨h2_⟩
      have n3_ : Aside0 (Below w.heap.size w w17) := ⟨h3_⟩
      clear BK136
      clear HB
      clear h0_ h1_ h2_ h3_
      have HO143 := n0_
      have HO146 := n1_
      have BK136 := n2_
      have HB := n3_
      clear n0_ n1_ n2_ n3_
      have hHeld : w17.cell? ⟨gb136, 0, none⟩ = some (.string a1_0) ∧ w17.cell? ⟨gb136, 1, none⟩ = some (.string a1_1) := hS_
      obtain ⟨Ao19, co19, eo19⟩ := Kd.R_slice HO146.out
      (first | subst eo19 | (injection eo19 with f1_ f2_ f3_; have f4_ := f1_.symm; have f5_ := f3_.symm; clear f1_ f2_ f3_; subst f4_; subst f5_))
      refine norm_ (a' := ?_) ?_ ?_
      rotate_left
      · simp only [putAll, Act.put, List.setIfInBounds_toArray, List.set_cons_zero, List.set_cons_succ]
        rfl
      refine one_ (i := 5) (N := some 20) #[true, true, true, true, true, true, false, false] rfl rfl (one_of HT_.out (by kernel_rfl)) (by decide) (fun K hK => ?_)
      refine Kd.R_append_rows_step k24 (w0 := w) w.heap.size (by rfl) (.tmp 17) (.tmp 19) 25 24 (.agg #[(.string ⟨#[]⟩), (.string ⟨#[]⟩)]) 32 rfl Tryd.underlying25 info24 rfl (by decide) (by omega) v142 y141 y144 _ _ _ (fun k_ => some k_ ≠ (.slice Ao19 y144.length co19 : Value).ownBlock ∧ k_ ≠ gb136) (fun _ => False) rfl rfl ?aO ?aR (fun _ _ h => h) (fun _ h => h.elim) ?aF ?aB ?aS ?aL ?_
      (case aR => repeat (first | exact (Kd.R_reads' HO146.out).2.2 | (with_reducible refine Kd.C_alloc ?_ _) | (with_reducible refine Kd.C_drewN ?_ _) | (with_reducible refine Kd.C_drew ?_)))
      (case aB => exact (by repeat (first | (with_reducible first | exact HB.out | apply below_alloc | apply pw_below_drewN | apply below_drew1 | refine below_set ?_ GE136.out) | exact HB.out)))
      (case aF => exact (fun k_ hk => ⟨Kd.fresh' (Kd.R_lt (by (with_reducible repeat (first | apply Kd.R_alloc | apply Kd.R_drewN | apply Kd.R_drew)); exact HO146.out)) k_ hk, Kd.freshB (g := gb136) (o := .cells #[.string a1_0, .string a1_1] 24 (0, 0)) (by (with_reducible repeat (first | refine blk_drewN ?_ _ | refine blk_drew ?_ | refine blk_alloc ?_ _)); exact BK136.out) k_ hk⟩))
      (case aO => exact (by (with_reducible repeat (first | apply Kd.R_alloc | apply Kd.R_drewN | apply Kd.R_drew)); exact HO143.out))
      (case aS => exact (below_size (by repeat (first | (with_reducible first | exact HB.out | apply below_alloc | apply pw_below_drewN | apply below_drew1 | refine below_set ?_ GE136.out) | exact HB.out))))
      (case aL => have := LMc6.out; omega)
      intro v148 w18 ho hb hg hat
      rw [← Ny147.out] at ho
      have n0_ := Aside0.mk (blk_grown (g := gb136) (o := .cells #[.string a1_0, .string a1_1] 24 (0, 0)) (by (with_reducible repeat (first | refine blk_drewN ?_ _ | refine blk_drew ?_ | refine blk_alloc ?_ _)); exact BK136.out) hg (Kd.R_away HO143.out (fun _ hk => hk.2)))
      have n1_ := Aside0.mk (Kd.R_after (ok := (fun k_ => k_ ≠ gb136)) (by (with_reducible repeat (first | apply Kd.R_alloc | apply Kd.R_drewN | apply Kd.R_drew)); exact Kd.R_mono HO146.out (fun _ hk => ⟨hk.2, hk.1⟩)) hg hat)
      have n2_ := Aside0.mk (hb)
      have n3_ := Aside0.mk (ho)
      clear BK136
      clear HO146
      clear HB
      clear HO143
      have BK136 := n0_
      have HO146 := n1_
      have HB := n2_
      have HO149 := n3_
      clear n0_ n1_ n2_ n3_
      clear ho hb hg hat
      obtain ⟨Ao20, co20, eo20⟩ := Kd.R_slice HO149.out
      (first | subst eo20 | (injection eo20 with f1_ f2_ f3_; have f4_ := f1_.symm; have f5_ := f3_.symm; clear f1_ f2_ f3_; subst f4_; subst f5_))
      refine hK.out _ _ ⟨(blk_cell BK136.out 0).trans rfl, (blk_cell BK136.out 1).trans rfl⟩ (fun hHeld => ?_)
      clear hK K
      refine norm_ (a' := ?_) ?_ ?_
      rotate_left
      · show Act.put _ (some 20) _ = _
        simp only [Act.put, List.setIfInBounds_toArray, List.set_cons_zero, List.set_cons_succ, i64_w, i32_w]
        rfl
      refine one_ (i := 6) (N := some 21) #[true, true, true, true, true, true, true, false] rfl rfl (one_of HT_.out (by kernel_rfl)) (by decide) (fun K hK => ?_)
      refine goes_ Tryd.func11 (by kernel_rfl) rfl #[.slice Ao20 y147.length co20] (by rfl) rfl rfl (by (try simp only [List.map_toArray, List.map_cons, List.map_nil]); first | done | rfl | (simp only [List.length_drop, List.length_take]; rfl)) ?_
      with_reducible refine (glacislaw07_few.calls k _ _ y147 t150 _ ?side1 ?side2 A7.out).mono ?_
      (case side1 => repeat (first | exact (Kd.R_reads' HO149.out).2.2 | (with_reducible refine Kd.C_alloc ?_ _) | (with_reducible refine Kd.C_drewN ?_ _) | (with_reducible refine Kd.C_drew ?_)))
      (case side2 => exact (Kd.R_reads' HO149.out).2.1)
      rintro e w' ⟨rfl, ⟨nd, rfl⟩⟩
      refine ⟨_, rfl, ?_⟩
      refine hK.out _ _ ⟨(blk_cell BK136.out 0).trans rfl, (blk_cell BK136.out 1).trans rfl⟩ (fun hHeld => ?_)
      clear hK K
      refine norm_ (a' := ?_) ?_ ?_
      rotate_left
      · show Act.put _ (some 21) _ = _
        simp only [Act.put, List.setIfInBounds_toArray, List.set_cons_zero, List.set_cons_succ, i64_w, i32_w]
        rfl
      refine pure_ (i := 7) (N := some 8) (v := ?_) (a' := ?_) #[true, true, true, true, true, true, true, true] rfl rfl (any_of HT_.out (by kernel_rfl)) (fun _ _ _ h => h) (Or.inl ⟨by rfl, ?_⟩) ?_ ?_
      rotate_left
      · intro w'
        go_simp
        with_reducible rfl
      rotate_left
      · simp only [Act.put, List.setIfInBounds_toArray, List.set_cons_zero, List.set_cons_succ, i64_w, i32_w]
        rfl
      refine done_ (done_of HT_.out (by kernel_rfl)) ?_
      go_upto_region 3 with (fail)
      go_cut [39] (fun v39 wc => ∃ (kq : Nat) (x39_7 : Bool), v39 = .bool x39_7 ∧ Aside0 (glacislaw07_HeadersBytes.j0 kq l0 a2 t137 x39_7 a1_0 a1_1 = some r) ∧ Aside0 (kq ≤ k) ∧ Aside0 (wc.heap[gb136]? = some (.cells #[.string a1_0, .string a1_1] 24 (0, 0))) ∧ Aside0 (Below w.heap.size w wc))
      case first =>
        have H := HC8.out
        clear HC8
        by_cases c21 : t150 = true
        · subst c21
          have H1 : (if (l0.length : Int) > 90 then (glacislaw07_HeadersBytes.j0 k l0 a2 t137 true a1_0 a1_1) else (if (a1_1.size : Int) > 3000 then (glacislaw07_HeadersBytes.j0 k l0 a2 t137 true a1_0 a1_1) else ((headers_Check.f k l0).bind fun t151 => (glacislaw07_HeadersBytes.j0 k l0 a2 t137 (t151 != 0) a1_0 a1_1)))) = some r := by rw [if_pos rfl] at H; exact H
          clear H
          have H := H1
          clear H1
          by_cases c22 : (l0.length : Int) > 90
          · rw [if_pos c22] at H
            have c22b0 : decide (90 < (l0.length : Int)) = true := decide_eq_true c22
            have c22b1 : decide (90 < l0.length) = true := decide_eq_true (by omega)
            clear c22
            (first | rw [c22b0] | (simp only [i64_w, i32_w]; rw [c22b0]) | skip)
            have H' := Aside0.mk H
            clear H
            go_wp2
            go_meet
            case rel => exact ⟨_, (true), (by first | rfl | (simp; done) | (simp [*]; done) | (simp [q_ne_nil]; done)), H', ⟨by first | omega | exact Nat.le_refl _⟩, ⟨by (with_reducible repeat (first | refine blk_drewN ?_ _ | refine blk_drew ?_ | refine blk_alloc ?_ _)); exact BK136.out⟩, ⟨by repeat (first | (with_reducible first | exact HB.out | apply below_alloc | apply pw_below_drewN | apply below_drew1 | refine below_set ?_ GE136.out) | exact HB.out)⟩⟩
          · rw [if_neg c22] at H
            have c22b0 : decide (90 < (l0.length : Int)) = false := decide_eq_false c22
            have c22b1 : decide (90 < l0.length) = false := decide_eq_false (by omega)
            clear c22
            (first | rw [c22b0] | (simp only [i64_w, i32_w]; rw [c22b0]) | skip)
            by_cases c23 : (a1_1.size : Int) > 3000
            · rw [if_pos c23] at H
              have c23b0 : decide (3000 < (a1_1.size : Int)) = true := decide_eq_true c23
              have c23b1 : decide (3000 < a1_1.size) = true := decide_eq_true (by omega)
              clear c23
              have H' := Aside0.mk H
              clear H
              have hcz24_0 : w18.cell? ⟨gb136, 0, none⟩ = some (.string a1_0) := (blk_cell BK136.out 0).trans rfl
              have hcz24_1 : w18.cell? ⟨gb136, 1, none⟩ = some (.string a1_1) := (blk_cell BK136.out 1).trans rfl
              have hfz24_0 := blk_frozen BK136.out 0
              have hfz24_1 := blk_frozen BK136.out 1
              go_wp2
              go_meet
              case rel => exact ⟨_, (true), (by first | rfl | (simp; done) | (simp [*]; done) | (simp [q_ne_nil]; done)), H', ⟨by first | omega | exact Nat.le_refl _⟩, ⟨by (with_reducible repeat (first | refine blk_drewN ?_ _ | refine blk_drew ?_ | refine blk_alloc ?_ _)); exact BK136.out⟩, ⟨by repeat (first | (with_reducible first | exact HB.out | apply below_alloc | apply pw_below_drewN | apply below_drew1 | refine below_set ?_ GE136.out) | exact HB.out)⟩⟩
            · rw [if_neg c23] at H
              have c23b0 : decide (3000 < (a1_1.size : Int)) = false := decide_eq_false c23
              have c23b1 : decide (3000 < a1_1.size) = false := decide_eq_false (by omega)
              clear c23
              replace H := Option.bind_eq_some_iff.mp H
              obtain ⟨t151, A250, H⟩ := H
              replace H : (glacislaw07_HeadersBytes.j0 k l0 a2 t137 (t151 != 0) a1_0 a1_1) = some r := H
              have A25 := Aside0.mk A250
              clear A250
              have H' := Aside0.mk H
              clear H
              have hcz26_0 : w18.cell? ⟨gb136, 0, none⟩ = some (.string a1_0) := (blk_cell BK136.out 0).trans rfl
              have hcz26_1 : w18.cell? ⟨gb136, 1, none⟩ = some (.string a1_1) := (blk_cell BK136.out 1).trans rfl
              have hfz26_0 := blk_frozen BK136.out 0
              have hfz26_1 := blk_frozen BK136.out 1
              go_wp2_with (first | (go_at_call 12; (with_reducible refine (headers_Check.calls k _ _ l0 t151 _ ?side1 ?side2 A25.out).mono ?_); (case side1 => repeat (first | exact (Kd.C_below HR0.out HB.out) | (with_reducible refine Kd.C_alloc ?_ _) | (with_reducible refine Kd.C_drewN ?_ _) | (with_reducible refine Kd.C_drew ?_))); (case side2 => exact HC0.out); rintro e w27 ⟨rfl, hb⟩; have n0_ := Aside0.mk (Kd.R_below (by (with_reducible repeat (first | apply Kd.R_alloc | apply Kd.R_drewN | apply Kd.R_drew)); exact HO146.out) hb); have n1_ := Aside0.mk (Kd.R_below (by (with_reducible repeat (first | apply Kd.R_alloc | apply Kd.R_drewN | apply Kd.R_drew)); exact HO149.out) hb); have n2_ := Aside0.mk (blk_below (g := gb136) (o := .cells #[.string a1_0, .string a1_1] 24 (0, 0)) (by (with_reducible repeat (first | refine blk_drewN ?_ _ | refine blk_drew ?_ | refine blk_alloc ?_ _)); exact BK136.out) hb); have n3_ := Aside0.mk (below_step (by repeat (first | (with_reducible first | exact HB.out | apply below_alloc | apply pw_below_drewN | apply below_drew1 | refine below_set ?_ GE136.out) | exact HB.out)) hb); clear HO146; clear HO149; clear BK136; clear HB; have HO146 := n0_; have HO149 := n1_; have BK136 := n2_; have HB := n3_; clear n0_ n1_ n2_ n3_; (try clear hb); (try clear hb2); (try clear hk); (try clear hi)))
              go_meet
              case rel => exact ⟨_, ((t151 != 0)), (by first | rfl | (simp; done) | (simp [*]; done) | (simp [q_ne_nil]; done)), H', ⟨by first | omega | exact Nat.le_refl _⟩, ⟨by (with_reducible repeat (first | refine blk_drewN ?_ _ | refine blk_drew ?_ | refine blk_alloc ?_ _)); exact BK136.out⟩, ⟨by repeat (first | (with_reducible first | exact HB.out | apply below_alloc | apply pw_below_drewN | apply below_drew1 | refine below_set ?_ GE136.out) | exact HB.out)⟩⟩
        · replace c21 := Bool.eq_false_iff.mpr c21
          subst c21
          have H1 : (glacislaw07_HeadersBytes.j0 k l0 a2 t137 true a1_0 a1_1) = some r := by rw [if_neg (show ¬ (false = true) by decide)] at H; exact H
          clear H
          have H := H1
          clear H1
          have H' := Aside0.mk H
          clear H
          go_wp2
          go_meet
          case rel => exact ⟨_, (true), (by first | rfl | (simp; done) | (simp [*]; done) | (simp [q_ne_nil]; done)), H', ⟨by first | omega | exact Nat.le_refl _⟩, ⟨by (with_reducible repeat (first | refine blk_drewN ?_ _ | refine blk_drew ?_ | refine blk_alloc ?_ _)); exact BK136.out⟩, ⟨by repeat (first | (with_reducible first | exact HB.out | apply below_alloc | apply pw_below_drewN | apply below_drew1 | refine below_set ?_ GE136.out) | exact HB.out)⟩⟩
      case rest =>
        clear HC8
        try clear c1
        try clear c2
        try clear p2
        try clear c5
        try clear c6
        try clear c7
        try clear c11
        try clear c21
        try clear c22
        try clear c22b0
        try clear c22b1
        try clear c23
        try clear c23b0
        try clear c23b1
        try clear hcz24_0
        try clear hcz24_1
        try clear hcz26_0
        try clear hcz26_1
        try clear hfz24_0
        try clear hfz24_1
        try clear hfz26_0
        try clear hfz26_1
        obtain ⟨kq, x39_7, rfl, HA, HJ7, BK136, HB⟩ := hcut
        cases kq with
        | zero => exact absurd HA.out (by simp [glacislaw07_HeadersBytes.j0])
        | succ kj7 =>
          have H := HA.out
          clear HA
          simp only [glacislaw07_HeadersBytes.j0] at H
          by_cases c28 : x39_7 = true
          · subst c28
            have H1 : (some t137) = some r := by rw [if_pos rfl] at H; exact H
            clear H
            have H := H1
            clear H1
            obtain rfl := Option.some.inj H
            go_wp2
            go_ret
            exact ⟨by first | rfl | (simp [errW_none, errW_some] <;> rfl) | (simp [*, errW_none, errW_some] <;> rfl) | (simp [q_ne_nil]; done), by repeat (first | (with_reducible first | exact HB.out | apply below_alloc | apply pw_below_drewN | apply below_drew1 | refine below_set ?_ GE136.out) | exact HB.out)⟩
          · replace c28 := Bool.eq_false_iff.mpr c28
            subst c28
            have H1 : ((some (([a2] : List Int) : List Int)).bind fun y152 => (if a1_1.size + (strOfNums y152).size ≤ 9223372036854775807 then (if (a1_1 ++ (strOfNums y152)).size + 1 ≤ 9223372036854775807 then (if a2 = 0 then (glacislaw07_HeadersBytes.j1 kj7 l0 t137 true a1_0 ((a1_1 ++ (strOfNums y152)) ++ (⟨#[120]⟩ : ByteArray))) else (if a2 = 10 then (glacislaw07_HeadersBytes.j1 kj7 l0 t137 true a1_0 ((a1_1 ++ (strOfNums y152)) ++ (⟨#[120]⟩ : ByteArray))) else (glacislaw07_HeadersBytes.j1 kj7 l0 t137 (a2 == 13) a1_0 ((a1_1 ++ (strOfNums y152)) ++ (⟨#[120]⟩ : ByteArray))))) else (none)) else (none))) = some r := by rw [if_neg (show ¬ (false = true) by decide)] at H; exact H
            clear H
            have H := H1
            clear H1
            obtain ⟨y152, hy152⟩ : ∃ y_ : List Int, y_ = (([a2] : List Int)) := ⟨_, rfl⟩
            replace H : (if a1_1.size + (strOfNums y152).size ≤ 9223372036854775807 then (if (a1_1 ++ (strOfNums y152)).size + 1 ≤ 9223372036854775807 then (if a2 = 0 then (glacislaw07_HeadersBytes.j1 kj7 l0 t137 true a1_0 ((a1_1 ++ (strOfNums y152)) ++ (⟨#[120]⟩ : ByteArray))) else (if a2 = 10 then (glacislaw07_HeadersBytes.j1 kj7 l0 t137 true a1_0 ((a1_1 ++ (strOfNums y152)) ++ (⟨#[120]⟩ : ByteArray))) else (glacislaw07_HeadersBytes.j1 kj7 l0 t137 (a2 == 13) a1_0 ((a1_1 ++ (strOfNums y152)) ++ (⟨#[120]⟩ : ByteArray))))) else (none)) else (none)) = some r := by first | (rw [hy152]; with_reducible exact H) | (have H2_ := (Option.bind_some _ _).symm.trans H; rw [hy152]; with_reducible exact H2_) | (have H2_ := (Option.bind_some _ _).symm.trans H; with_reducible exact H2_) | with_reducible exact H | (rw [hy152]; exact H) | exact H
            have Ny152 := Aside0.mk hy152
            clear hy152
            by_cases c29 : a1_1.size + (strOfNums y152).size ≤ 9223372036854775807
            · rw [if_pos c29] at H
              have c29b0 := eq_true c29
              have c29b1 : decide (a1_1.size + (strOfNums y152).size ≤ 9223372036854775807) = true := decide_eq_true c29
              try have c29b2 : (9223372036854775807 < a1_1.size + (strOfNums y152).size) = False := eq_false (Nat.not_lt.2 c29)
              by_cases c30 : (a1_1 ++ (strOfNums y152)).size + 1 ≤ 9223372036854775807
              · rw [if_pos c30] at H
                have c30b0 := eq_true c30
                have c30b1 : decide ((a1_1 ++ (strOfNums y152)).size + 1 ≤ 9223372036854775807) = true := decide_eq_true c30
                try have c30b2 : (9223372036854775807 < (a1_1 ++ (strOfNums y152)).size + 1) = False := eq_false (Nat.not_lt.2 c30)
                try (have c30d : (9223372036854775807 < a1_1.size + (strOfNums y152).size + 1) = False := eq_false (by have h_ := c30; simp only [ByteArray.size_append] at h_; exact Nat.not_lt.2 h_))
                have HC31 := Aside0.mk H
                clear H
                have hcz32_0 : wc.cell? ⟨gb136, 0, none⟩ = some (.string a1_0) := (blk_cell BK136.out 0).trans rfl
                have hcz32_1 : wc.cell? ⟨gb136, 1, none⟩ = some (.string a1_1) := (blk_cell BK136.out 1).trans rfl
                have hfz32_0 := blk_frozen BK136.out 0
                have hfz32_1 := blk_frozen BK136.out 1
                go_upto_region 6 with (first | ((with_reducible refine gate_dst (N := 44) rfl ?_); (try (refine gate_guard (by rfl) ?_; dsimp only)); refine Kd.R_lit (Kd.int .u8) _ 5 ?hg (N := 44) ?hd (xs := ([a2] : List Int)) (inner := [.int .u8 a2]) (ok := fun _ => True) (okp := fun _ => True) ?hr ?hp (fun _ hk => hk) trivial (Below.refl _ _) (Nat.le_refl _) (by simp) ?_; (case hd => rfl); (case hg => rfl); (case hr => first | (go_simp; done) | (go_simp; rfl)); (case hp => exact (Reps.one (show Kd.M (Kd.int .u8) _ _ _ a2 [.int .u8 a2] from rfl) (Reps.none _ _))); intro v153 w33 ho34 hb hg_ hnew_; clear hg_ hnew_; (first | rw [← Ny152.out] at ho34 | (simp only [Int.reduceToNat] at ho34; rw [← Ny152.out] at ho34)); have n0_ := Aside0.mk (Kd.R_lower ho34 (below_size (by repeat (first | (with_reducible first | exact HB.out | apply below_alloc | apply pw_below_drewN | apply below_drew1 | refine below_set ?_ GE136.out) | exact HB.out)))); have n1_ := Aside0.mk (blk_below (g := gb136) (o := .cells #[.string a1_0, .string a1_1] 24 (0, 0)) (by (with_reducible repeat (first | refine blk_drewN ?_ _ | refine blk_drew ?_ | refine blk_alloc ?_ _)); exact BK136.out) hb); have n2_ := Aside0.mk (below_step (by repeat (first | (with_reducible first | exact HB.out | apply below_alloc | apply pw_below_drewN | apply below_drew1 | refine below_set ?_ GE136.out) | exact HB.out)) hb); clear BK136; clear HB; have HO154 := n0_; have BK136 := n1_; have HB := n2_; clear n0_ n1_ n2_; clear hb ho34; have hcv35 := own_string (P := Tryd.prog) Tryd.underlying35 Tryd.underlying5 Tryd.underlying9 (Kd.own_of_R HO154.out); have hcz36_0 : w33.cell? ⟨gb136, 0, none⟩ = some (.string a1_0) := (blk_cell BK136.out 0).trans rfl; have hcz36_1 : w33.cell? ⟨gb136, 1, none⟩ = some (.string a1_1) := (blk_cell BK136.out 1).trans rfl; have hfz36_0 := blk_frozen BK136.out 0; have hfz36_1 := blk_frozen BK136.out 1))
                (try simp only [Act.put, List.setIfInBounds_toArray, List.set_cons_zero, List.set_cons_succ])
                go_cut [9] (fun v9 wc => ∃ (kq : Nat) (x9_30 : Bool), v9 = .bool x9_30 ∧ Aside0 (glacislaw07_HeadersBytes.j1 kq l0 t137 x9_30 a1_0 ((a1_1 ++ (strOfNums y152)) ++ (⟨#[120]⟩ : ByteArray)) = some r) ∧ Aside0 (kq ≤ kj7) ∧ Aside0 (wc.heap[gb136]? = some (.cells #[.string a1_0, .string ((a1_1 ++ (strOfNums y152)) ++ (⟨#[120]⟩ : ByteArray))] 24 (0, 0))) ∧ Aside0 (Below w.heap.size w wc))
                case first =>
                  have H := HC31.out
                  clear HC31
                  by_cases c37 : a2 = 0
                  · rw [if_pos c37] at H
                    have c37b0 : (a2 == 0) = true := beq_iff_eq.mpr c37
                    have c37b1 : (a2 != 0) = false := bne_eq_false_iff_eq.mpr c37
                    clear c37
                    (first | rw [c37b0] | (simp only [i64_w, i32_w]; rw [c37b0]) | skip)
                    have H' := Aside0.mk H
                    clear H
                    go_wp2
                    go_meet
                    case rel => exact ⟨_, (true), (by first | rfl | (simp; done) | (simp [*]; done) | (simp [q_ne_nil]; done)), H', ⟨by have := HJ7.out; first | omega | exact Nat.le_refl _⟩, ⟨by (with_reducible repeat (first | refine blk_drewN ?_ _ | refine blk_drew ?_ | refine blk_alloc ?_ _)); refine blk_put (cs := #[.string a1_0, .string a1_1]) ?_ 1 _ rfl; (with_reducible repeat (first | refine blk_drewN ?_ _ | refine blk_drew ?_ | refine blk_alloc ?_ _)); exact BK136.out⟩, ⟨by repeat (first | (with_reducible first | exact HB.out | apply below_alloc | apply pw_below_drewN | apply below_drew1 | refine below_set ?_ GE136.out) | exact HB.out)⟩⟩
                  · rw [if_neg c37] at H
                    have c37b0 : (a2 == 0) = false := beq_eq_false_iff_ne.mpr c37
                    have c37b1 : (a2 != 0) = true := bne_iff_ne.mpr c37
                    (first | rw [c37b0] | (simp only [i64_w, i32_w]; rw [c37b0]) | skip)
                    by_cases c38 : a2 = 10
                    · rw [if_pos c38] at H
                      have c38b0 : (a2 == 10) = true := beq_iff_eq.mpr c38
                      have c38b1 : (a2 != 10) = false := bne_eq_false_iff_eq.mpr c38
                      clear c38
                      have H' := Aside0.mk H
                      clear H
                      go_wp2
                      go_meet
                      case rel => exact ⟨_, (true), (by first | rfl | (simp; done) | (simp [*]; done) | (simp [q_ne_nil]; done)), H', ⟨by have := HJ7.out; first | omega | exact Nat.le_refl _⟩, ⟨by (with_reducible repeat (first | refine blk_drewN ?_ _ | refine blk_drew ?_ | refine blk_alloc ?_ _)); refine blk_put (cs := #[.string a1_0, .string a1_1]) ?_ 1 _ rfl; (with_reducible repeat (first | refine blk_drewN ?_ _ | refine blk_drew ?_ | refine blk_alloc ?_ _)); exact BK136.out⟩, ⟨by repeat (first | (with_reducible first | exact HB.out | apply below_alloc | apply pw_below_drewN | apply below_drew1 | refine below_set ?_ GE136.out) | exact HB.out)⟩⟩
                    · rw [if_neg c38] at H
                      have c38b0 : (a2 == 10) = false := beq_eq_false_iff_ne.mpr c38
                      have c38b1 : (a2 != 10) = true := bne_iff_ne.mpr c38
                      have H' := Aside0.mk H
                      clear H
                      go_wp2
                      go_meet
                      case rel => exact ⟨_, ((a2 == 13)), (by first | rfl | (simp; done) | (simp [*]; done) | (simp [q_ne_nil]; done)), H', ⟨by have := HJ7.out; first | omega | exact Nat.le_refl _⟩, ⟨by (with_reducible repeat (first | refine blk_drewN ?_ _ | refine blk_drew ?_ | refine blk_alloc ?_ _)); refine blk_put (cs := #[.string a1_0, .string a1_1]) ?_ 1 _ rfl; (with_reducible repeat (first | refine blk_drewN ?_ _ | refine blk_drew ?_ | refine blk_alloc ?_ _)); exact BK136.out⟩, ⟨by repeat (first | (with_reducible first | exact HB.out | apply below_alloc | apply pw_below_drewN | apply below_drew1 | refine below_set ?_ GE136.out) | exact HB.out)⟩⟩
                case rest =>
                  clear HC31
                  try clear c1
                  try clear c2
                  try clear p2
                  try clear c3
                  try clear hcv3
                  try clear c5
                  try clear c6
                  try clear c7
                  try clear c11
                  try clear c21
                  try clear c22
                  try clear c22b0
                  try clear c22b1
                  try clear c23
                  try clear c23b0
                  try clear c23b1
                  try clear c28
                  try clear c29
                  try clear c29b0
                  try clear c29b1
                  try clear c29b2
                  try clear c30
                  try clear c30b0
                  try clear c30b1
                  try clear c30b2
                  try clear hcv35
                  try clear c37
                  try clear c37b0
                  try clear c37b1
                  try clear c38
                  try clear c38b0
                  try clear c38b1
                  try clear hcz24_0
                  try clear hcz24_1
                  try clear hcz26_0
                  try clear hcz26_1
                  try clear hcz32_0
                  try clear hcz32_1
                  try clear hcz36_0
                  try clear hcz36_1
                  try clear hfz24_0
                  try clear hfz24_1
                  try clear hfz26_0
                  try clear hfz26_1
                  try clear hfz32_0
                  try clear hfz32_1
                  try clear hfz36_0
                  try clear hfz36_1
                  try clear p2
                  obtain ⟨kq, x9_30, rfl, HA, HJ30, BK136, HB⟩ := hcut
                  obtain ⟨nm, hnm⟩ : ∃ n_ : ByteArray, n_ = ((a1_1 ++ (strOfNums y152)) ++ (⟨#[120]⟩ : ByteArray)) := ⟨_, rfl⟩
                  rw [← hnm] at HA BK136
                  clear hnm
                  cases kq with
                  | zero => exact absurd HA.out (by simp [glacislaw07_HeadersBytes.j1])
                  | succ kj30 =>
                    have H := HA.out
                    clear HA
                    simp only [glacislaw07_HeadersBytes.j1] at H
                    have H' := Aside0.mk H
                    clear H
                    go_wp2
                    go_loopg [9, 10] kj30 (fun kq v9 v10 w' => ∃ (x9_3 : Bool) (x10_3 : Int), v9 = .bool x9_3 ∧ v10 = .int .i64 x10_3 ∧ Aside0 (glacislaw07_HeadersBytes.l0 kq l0 t137 x9_3 x10_3 a1_0 nm = some r) ∧ Aside0 (kq ≤ kj30) ∧ Aside0 (w'.heap[gb136]? = some (.cells #[.string a1_0, .string nm] 24 (0, 0))) ∧ Aside0 (Below w.heap.size w w'))
                    case atStart => exact ⟨(x9_30), (0), (by first | rfl | (simp; done) | (simp [*]; done) | (simp [q_ne_nil]; done)), (by first | rfl | (simp; done) | (simp [*]; done) | (simp [q_ne_nil]; done)), H', ⟨Nat.le_refl _⟩, ⟨by (with_reducible repeat (first | refine blk_drewN ?_ _ | refine blk_drew ?_ | refine blk_alloc ?_ _)); exact BK136.out⟩, ⟨by repeat (first | (with_reducible first | exact HB.out | apply below_alloc | apply pw_below_drewN | apply below_drew1 | refine below_set ?_ GE136.out) | exact HB.out)⟩⟩
                    case round =>
                      clear H'
                      try clear c1
                      try clear c2
                      try clear p2
                      try clear c3
                      try clear hcv3
                      try clear c5
                      try clear c6
                      try clear c7
                      try clear c11
                      try clear c21
                      try clear c22
                      try clear c22b0
                      try clear c22b1
                      try clear c23
                      try clear c23b0
                      try clear c23b1
                      try clear c28
                      try clear c29
                      try clear c29b0
                      try clear c29b1
                      try clear c29b2
                      try clear c30
                      try clear c30b0
                      try clear c30b1
                      try clear c30b2
                      try clear hcv35
                      try clear c37
                      try clear c37b0
                      try clear c37b1
                      try clear c38
                      try clear c38b0
                      try clear c38b1
                      try clear hcz24_0
                      try clear hcz24_1
                      try clear hcz26_0
                      try clear hcz26_1
                      try clear hcz32_0
                      try clear hcz32_1
                      try clear hcz36_0
                      try clear hcz36_1
                      try clear hfz24_0
                      try clear hfz24_1
                      try clear hfz26_0
                      try clear hfz26_1
                      try clear hfz32_0
                      try clear hfz32_1
                      try clear hfz36_0
                      try clear hfz36_1
                      try clear p2
                      obtain ⟨x9_3, x10_3, rfl, rfl, HA, HK3, BK136, HB⟩ := hrel
                      cases gk with
                      | zero => exact absurd HA.out (by simp [glacislaw07_HeadersBytes.l0])
                      | succ k3 =>
                        have H := HA.out
                        clear HA
                        simp only [glacislaw07_HeadersBytes.l0] at H
                        by_cases c39 : x10_3 < (nm.size : Int)
                        · rw [if_pos c39] at H
                          have c39b0 : decide (x10_3 < (nm.size : Int)) = true := decide_eq_true c39
                          clear c39
                          by_cases c40 : x9_3 = true
                          · subst c40
                            have H1 : (glacislaw07_HeadersBytes.l0 k3 l0 t137 true (wrap64 (x10_3 + 1)) a1_0 nm) = some r := by rw [if_pos rfl] at H; exact H
                            clear H
                            have H := H1
                            clear H1
                            have H' := Aside0.mk H
                            clear H
                            have hcz41_0 : wr.cell? ⟨gb136, 0, none⟩ = some (.string a1_0) := (blk_cell BK136.out 0).trans rfl
                            have hcz41_1 : wr.cell? ⟨gb136, 1, none⟩ = some (.string nm) := (blk_cell BK136.out 1).trans rfl
                            have hfz41_0 := blk_frozen BK136.out 0
                            have hfz41_1 := blk_frozen BK136.out 1
                            go_wp2
                            go_roundg k3
                            case measure => have := HJ7.out; have := HJ30.out; have := HK3.out; omega
                            case rel => exact ⟨(true), (wrap64 (x10_3 + 1)), (by first | rfl | (simp; done) | (simp [*]; done) | (simp [q_ne_nil]; done)), (by first | rfl | (simp; done) | (simp [*]; done) | (simp [q_ne_nil]; done)), H', ⟨by have := HJ7.out; have := HJ30.out; have := HK3.out; omega⟩, ⟨by (with_reducible repeat (first | refine blk_drewN ?_ _ | refine blk_drew ?_ | refine blk_alloc ?_ _)); exact BK136.out⟩, ⟨by repeat (first | (with_reducible first | exact HB.out | apply below_alloc | apply pw_below_drewN | apply below_drew1 | refine below_set ?_ GE136.out) | exact HB.out)⟩⟩
                          · replace c40 := Bool.eq_false_iff.mpr c40
                            subst c40
                            have H1 : (if 0 ≤ x10_3 then (if (bt nm x10_3) = 0 then (glacislaw07_HeadersBytes.l0 k3 l0 t137 true (wrap64 (x10_3 + 1)) a1_0 nm) else (if (bt nm x10_3) = 10 then (glacislaw07_HeadersBytes.l0 k3 l0 t137 true (wrap64 (x10_3 + 1)) a1_0 nm) else (glacislaw07_HeadersBytes.l0 k3 l0 t137 ((bt nm x10_3) == 13) (wrap64 (x10_3 + 1)) a1_0 nm))) else (none)) = some r := by rw [if_neg (show ¬ (false = true) by decide)] at H; exact H
                            clear H
                            have H := H1
                            clear H1
                            by_cases c42 : 0 ≤ x10_3
                            · rw [if_pos c42] at H
                              have c42b0 : decide (0 ≤ x10_3) = true := decide_eq_true c42
                              clear c42
                              by_cases c44 : (bt nm x10_3) = 0
                              · rw [if_pos c44] at H
                                have c44b0 : ((bt nm x10_3) == 0) = true := beq_iff_eq.mpr c44
                                have c44b1 : ((bt nm x10_3) != 0) = false := bne_eq_false_iff_eq.mpr c44
                                clear c44
                                have H' := Aside0.mk H
                                clear H
                                have hcz45_0 : wr.cell? ⟨gb136, 0, none⟩ = some (.string a1_0) := (blk_cell BK136.out 0).trans rfl
                                have hcz45_1 : wr.cell? ⟨gb136, 1, none⟩ = some (.string nm) := (blk_cell BK136.out 1).trans rfl
                                have hfz45_0 := blk_frozen BK136.out 0
                                have hfz45_1 := blk_frozen BK136.out 1
                                have p43 : 0 ≤ (x10_3 : Int) := of_decide_eq_true (by first | (with_reducible assumption) | assumption)
                                have q43 : x10_3 < (nm.size : Int) := of_decide_eq_true (by first | (with_reducible assumption) | assumption)
                                have hx43 := bt_at nm x10_3
                                replace p43 := eq_true p43
                                replace q43 := eq_true q43
                                go_wp2
                                go_roundg k3
                                case measure => have := HJ7.out; have := HJ30.out; have := HK3.out; omega
                                case rel => exact ⟨(true), (wrap64 (x10_3 + 1)), (by first | rfl | (simp; done) | (simp [*]; done) | (simp [q_ne_nil]; done)), (by first | rfl | (simp; done) | (simp [*]; done) | (simp [q_ne_nil]; done)), H', ⟨by have := HJ7.out; have := HJ30.out; have := HK3.out; omega⟩, ⟨by (with_reducible repeat (first | refine blk_drewN ?_ _ | refine blk_drew ?_ | refine blk_alloc ?_ _)); exact BK136.out⟩, ⟨by repeat (first | (with_reducible first | exact HB.out | apply below_alloc | apply pw_below_drewN | apply below_drew1 | refine below_set ?_ GE136.out) | exact HB.out)⟩⟩
                              · rw [if_neg c44] at H
                                have c44b0 : ((bt nm x10_3) == 0) = false := beq_eq_false_iff_ne.mpr c44
                                have c44b1 : ((bt nm x10_3) != 0) = true := bne_iff_ne.mpr c44
                                by_cases c47 : (bt nm x10_3) = 10
                                · rw [if_pos c47] at H
                                  have c47b0 : ((bt nm x10_3) == 10) = true := beq_iff_eq.mpr c47
                                  have c47b1 : ((bt nm x10_3) != 10) = false := bne_eq_false_iff_eq.mpr c47
                                  clear c47
                                  have H' := Aside0.mk H
                                  clear H
                                  have hcz48_0 : wr.cell? ⟨gb136, 0, none⟩ = some (.string a1_0) := (blk_cell BK136.out 0).trans rfl
                                  have hcz48_1 : wr.cell? ⟨gb136, 1, none⟩ = some (.string nm) := (blk_cell BK136.out 1).trans rfl
                                  have hfz48_0 := blk_frozen BK136.out 0
                                  have hfz48_1 := blk_frozen BK136.out 1
                                  have p43 : 0 ≤ (x10_3 : Int) := of_decide_eq_true (by first | (with_reducible assumption) | assumption)
                                  have q43 : x10_3 < (nm.size : Int) := of_decide_eq_true (by first | (with_reducible assumption) | assumption)
                                  have hx43 := bt_at nm x10_3
                                  replace p43 := eq_true p43
                                  replace q43 := eq_true q43
                                  have p46 : 0 ≤ (x10_3 : Int) := of_decide_eq_true (by first | (with_reducible assumption) | assumption)
                                  have q46 : x10_3 < (nm.size : Int) := of_decide_eq_true (by first | (with_reducible assumption) | assumption)
                                  have hx46 := bt_at nm x10_3
                                  replace p46 := eq_true p46
                                  replace q46 := eq_true q46
                                  go_wp2
                                  go_roundg k3
                                  case measure => have := HJ7.out; have := HJ30.out; have := HK3.out; omega
                                  case rel => exact ⟨(true), (wrap64 (x10_3 + 1)), (by first | rfl | (simp; done) | (simp [*]; done) | (simp [q_ne_nil]; done)), (by first | rfl | (simp; done) | (simp [*]; done) | (simp [q_ne_nil]; done)), H', ⟨by have := HJ7.out; have := HJ30.out; have := HK3.out; omega⟩, ⟨by (with_reducible repeat (first | refine blk_drewN ?_ _ | refine blk_drew ?_ | refine blk_alloc ?_ _)); exact BK136.out⟩, ⟨by repeat (first | (with_reducible first | exact HB.out | apply below_alloc | apply pw_below_drewN | apply below_drew1 | refine below_set ?_ GE136.out) | exact HB.out)⟩⟩
                                · rw [if_neg c47] at H
                                  have c47b0 : ((bt nm x10_3) == 10) = false := beq_eq_false_iff_ne.mpr c47
                                  have c47b1 : ((bt nm x10_3) != 10) = true := bne_iff_ne.mpr c47
                                  have H' := Aside0.mk H
                                  clear H
                                  have hcz50_0 : wr.cell? ⟨gb136, 0, none⟩ = some (.string a1_0) := (blk_cell BK136.out 0).trans rfl
                                  have hcz50_1 : wr.cell? ⟨gb136, 1, none⟩ = some (.string nm) := (blk_cell BK136.out 1).trans rfl
                                  have hfz50_0 := blk_frozen BK136.out 0
                                  have hfz50_1 := blk_frozen BK136.out 1
                                  have p43 : 0 ≤ (x10_3 : Int) := of_decide_eq_true (by first | (with_reducible assumption) | assumption)
                                  have q43 : x10_3 < (nm.size : Int) := of_decide_eq_true (by first | (with_reducible assumption) | assumption)
                                  have hx43 := bt_at nm x10_3
                                  replace p43 := eq_true p43
                                  replace q43 := eq_true q43
                                  have p46 : 0 ≤ (x10_3 : Int) := of_decide_eq_true (by first | (with_reducible assumption) | assumption)
                                  have q46 : x10_3 < (nm.size : Int) := of_decide_eq_true (by first | (with_reducible assumption) | assumption)
                                  have hx46 := bt_at nm x10_3
                                  replace p46 := eq_true p46
                                  replace q46 := eq_true q46
                                  have p49 : 0 ≤ (x10_3 : Int) := of_decide_eq_true (by first | (with_reducible assumption) | assumption)
                                  have q49 : x10_3 < (nm.size : Int) := of_decide_eq_true (by first | (with_reducible assumption) | assumption)
                                  have hx49 := bt_at nm x10_3
                                  replace p49 := eq_true p49
                                  replace q49 := eq_true q49
                                  go_wp2
                                  go_roundg k3
                                  case measure => have := HJ7.out; have := HJ30.out; have := HK3.out; omega
                                  case rel => exact ⟨(((bt nm x10_3) == 13)), (wrap64 (x10_3 + 1)), (by first | rfl | (simp; done) | (simp [*]; done) | (simp [q_ne_nil]; done)), (by first | rfl | (simp; done) | (simp [*]; done) | (simp [q_ne_nil]; done)), H', ⟨by have := HJ7.out; have := HJ30.out; have := HK3.out; omega⟩, ⟨by (with_reducible repeat (first | refine blk_drewN ?_ _ | refine blk_drew ?_ | refine blk_alloc ?_ _)); exact BK136.out⟩, ⟨by repeat (first | (with_reducible first | exact HB.out | apply below_alloc | apply pw_below_drewN | apply below_drew1 | refine below_set ?_ GE136.out) | exact HB.out)⟩⟩
                            · exact absurd H (by rw [if_neg c42]; simp)
                        · rw [if_neg c39] at H
                          have c39b0 : decide (x10_3 < (nm.size : Int)) = false := decide_eq_false c39
                          clear c39
                          replace H := Option.bind_eq_some_iff.mp H
                          obtain ⟨t155, A510, H⟩ := H
                          replace H : ((some (([] : List (S24)) : List (S24))).bind fun y156 => (if y156.length + l0.length < 4398046511104 then ((some (y156 ++ l0 : List (S24))).bind fun y159 => ((some (([(⟨a1_0, nm⟩ : S24)] : List (S24)) : List (S24))).bind fun y162 => (if y159.length + y162.length < 4398046511104 then ((headers_Check.f k3 (y159 ++ y162)).bind fun t168 => (if (l0.length : Int) > 0 then (if 1 ≤ (l0.length : Int) then ((headers_Check.f k3 (l0.drop 1)).bind fun t173 => (if t137 = true then (if t173 = 0 then (if t155 = true then (some ((t168 == 0) == (!x9_3))) else (some ((t168 == 0) == false))) else (none)) else (none))) else (none)) else (if t137 = true then (if 0 = 0 then (if t155 = true then (some ((t168 == 0) == (!x9_3))) else (some ((t168 == 0) == false))) else (none)) else (none)))) else (none)))) else (none))) = some r := H
                          have A51 := Aside0.mk A510
                          clear A510
                          obtain ⟨y156, hy156⟩ : ∃ y_ : List (S24), y_ = (([] : List (S24))) := ⟨_, rfl⟩
                          replace H : (if y156.length + l0.length < 4398046511104 then ((some (y156 ++ l0 : List (S24))).bind fun y159 => ((some (([(⟨a1_0, nm⟩ : S24)] : List (S24)) : List (S24))).bind fun y162 => (if y159.length + y162.length < 4398046511104 then ((headers_Check.f k3 (y159 ++ y162)).bind fun t168 => (if (l0.length : Int) > 0 then (if 1 ≤ (l0.length : Int) then ((headers_Check.f k3 (l0.drop 1)).bind fun t173 => (if t137 = true then (if t173 = 0 then (if t155 = true then (some ((t168 == 0) == (!x9_3))) else (some ((t168 == 0) == false))) else (none)) else (none))) else (none)) else (if t137 = true then (if 0 = 0 then (if t155 = true then (some ((t168 == 0) == (!x9_3))) else (some ((t168 == 0) == false))) else (none)) else (none)))) else (none)))) else (none)) = some r := by first | (rw [hy156]; with_reducible exact H) | (have H2_ := (Option.bind_some _ _).symm.trans H; rw [hy156]; with_reducible exact H2_) | (have H2_ := (Option.bind_some _ _).symm.trans H; with_reducible exact H2_) | with_reducible exact H | (rw [hy156]; exact H) | exact H
                          have Ny156 := Aside0.mk hy156
                          clear hy156
                          by_cases c52 : y156.length + l0.length < 4398046511104
                          · rw [if_pos c52] at H
                            have LMc52 := Aside0.mk c52
                            clear c52
                            obtain ⟨y159, hy159⟩ : ∃ y_ : List (S24), y_ = (y156 ++ l0) := ⟨_, rfl⟩
                            replace H : ((some (([(⟨a1_0, nm⟩ : S24)] : List (S24)) : List (S24))).bind fun y162 => (if y159.length + y162.length < 4398046511104 then ((headers_Check.f k3 (y159 ++ y162)).bind fun t168 => (if (l0.length : Int) > 0 then (if 1 ≤ (l0.length : Int) then ((headers_Check.f k3 (l0.drop 1)).bind fun t173 => (if t137 = true then (if t173 = 0 then (if t155 = true then (some ((t168 == 0) == (!x9_3))) else (some ((t168 == 0) == false))) else (none)) else (none))) else (none)) else (if t137 = true then (if 0 = 0 then (if t155 = true then (some ((t168 == 0) == (!x9_3))) else (some ((t168 == 0) == false))) else (none)) else (none)))) else (none))) = some r := by first | (rw [hy159]; with_reducible exact H) | (have H2_ := (Option.bind_some _ _).symm.trans H; rw [hy159]; with_reducible exact H2_) | (have H2_ := (Option.bind_some _ _).symm.trans H; with_reducible exact H2_) | with_reducible exact H | (rw [hy159]; exact H) | exact H
                            have Ny159 := Aside0.mk hy159
                            clear hy159
                            obtain ⟨y162, hy162⟩ : ∃ y_ : List (S24), y_ = (([(⟨a1_0, nm⟩ : S24)] : List (S24))) := ⟨_, rfl⟩
                            replace H : (if y159.length + y162.length < 4398046511104 then ((headers_Check.f k3 (y159 ++ y162)).bind fun t168 => (if (l0.length : Int) > 0 then (if 1 ≤ (l0.length : Int) then ((headers_Check.f k3 (l0.drop 1)).bind fun t173 => (if t137 = true then (if t173 = 0 then (if t155 = true then (some ((t168 == 0) == (!x9_3))) else (some ((t168 == 0) == false))) else (none)) else (none))) else (none)) else (if t137 = true then (if 0 = 0 then (if t155 = true then (some ((t168 == 0) == (!x9_3))) else (some ((t168 == 0) == false))) else (none)) else (none)))) else (none)) = some r := by first | (rw [hy162]; with_reducible exact H) | (have H2_ := (Option.bind_some _ _).symm.trans H; rw [hy162]; with_reducible exact H2_) | (have H2_ := (Option.bind_some _ _).symm.trans H; with_reducible exact H2_) | with_reducible exact H | (rw [hy162]; exact H) | exact H
                            have Ny162 := Aside0.mk hy162
                            clear hy162
                            by_cases c53 : y159.length + y162.length < 4398046511104
                            · rw [if_pos c53] at H
                              have LMc53 := Aside0.mk c53
                              clear c53
                              obtain ⟨y165, hy165⟩ : ∃ y_ : List (S24), y_ = (y159 ++ y162) := ⟨_, rfl⟩
                              replace H : ((headers_Check.f k3 y165).bind fun t168 => (if (l0.length : Int) > 0 then (if 1 ≤ (l0.length : Int) then ((headers_Check.f k3 (l0.drop 1)).bind fun t173 => (if t137 = true then (if t173 = 0 then (if t155 = true then (some ((t168 == 0) == (!x9_3))) else (some ((t168 == 0) == false))) else (none)) else (none))) else (none)) else (if t137 = true then (if 0 = 0 then (if t155 = true then (some ((t168 == 0) == (!x9_3))) else (some ((t168 == 0) == false))) else (none)) else (none)))) = some r := by first | (rw [hy165]; with_reducible exact H) | (have H2_ := (Option.bind_some _ _).symm.trans H; rw [hy165]; with_reducible exact H2_) | (have H2_ := (Option.bind_some _ _).symm.trans H; with_reducible exact H2_) | with_reducible exact H | (rw [hy165]; exact H) | exact H
                              have Ny165 := Aside0.mk hy165
                              clear hy165
                              replace H := Option.bind_eq_some_iff.mp H
                              obtain ⟨t168, A540, H⟩ := H
                              replace H : (if (l0.length : Int) > 0 then (if 1 ≤ (l0.length : Int) then ((headers_Check.f k3 (l0.drop 1)).bind fun t173 => (if t137 = true then (if t173 = 0 then (if t155 = true then (some ((t168 == 0) == (!x9_3))) else (some ((t168 == 0) == false))) else (none)) else (none))) else (none)) else (if t137 = true then (if 0 = 0 then (if t155 = true then (some ((t168 == 0) == (!x9_3))) else (some ((t168 == 0) == false))) else (none)) else (none))) = some r := H
                              have A54 := Aside0.mk A540
                              clear A540
                              by_cases c55 : (l0.length : Int) > 0
                              · rw [if_pos c55] at H
                                have c55b0 : decide (0 < (l0.length : Int)) = true := decide_eq_true c55
                                have c55b1 : decide (0 < l0.length) = true := decide_eq_true (by omega)
                                clear c55
                                by_cases c56 : 1 ≤ (l0.length : Int)
                                · rw [if_pos c56] at H
                                  have c56b0 := eq_true c56
                                  have c56b1 : decide (1 ≤ (l0.length : Int)) = true := decide_eq_true c56
                                  clear c56
                                  obtain ⟨y169, hy169⟩ : ∃ y_ : List (S24), y_ = (l0.drop 1) := ⟨_, rfl⟩
                                  replace H : ((headers_Check.f k3 y169).bind fun t173 => (if t137 = true then (if t173 = 0 then (if t155 = true then (some ((t168 == 0) == (!x9_3))) else (some ((t168 == 0) == false))) else (none)) else (none))) = some r := by first | (rw [hy169]; with_reducible exact H) | (have H2_ := (Option.bind_some _ _).symm.trans H; rw [hy169]; with_reducible exact H2_) | (have H2_ := (Option.bind_some _ _).symm.trans H; with_reducible exact H2_) | with_reducible exact H | (rw [hy169]; exact H) | exact H
                                  have Ny169 := Aside0.mk hy169
                                  clear hy169
                                  replace H := Option.bind_eq_some_iff.mp H
                                  obtain ⟨t173, A570, H⟩ := H
                                  replace H : (if t137 = true then (if t173 = 0 then (if t155 = true then (some ((t168 == 0) == (!x9_3))) else (some ((t168 == 0) == false))) else (none)) else (none)) = some r := H
                                  have A57 := Aside0.mk A570
                                  clear A570
                                  by_cases c58 : t137 = true
                                  · subst c58
                                    have H1 : (if t173 = 0 then (if t155 = true then (some ((t168 == 0) == (!x9_3))) else (some ((t168 == 0) == false))) else (none)) = some r := by rw [if_pos rfl] at H; exact H
                                    clear H
                                    have H := H1
                                    clear H1
                                    by_cases c59 : t173 = 0
                                    · rw [if_pos c59] at H
                                      have c59b0 : (t173 == 0) = true := beq_iff_eq.mpr c59
                                      have c59b1 : (t173 != 0) = false := bne_eq_false_iff_eq.mpr c59
                                      clear c59
                                      by_cases c60 : t155 = true
                                      · subst c60
                                        have H1 : (some ((t168 == 0) == (!x9_3))) = some r := by rw [if_pos rfl] at H; exact H
                                        clear H
                                        have H := H1
                                        clear H1
                                        obtain rfl := Option.some.inj H
                                        have hcz61_0 : wr.cell? ⟨gb136, 0, none⟩ = some (.string a1_0) := (blk_cell BK136.out 0).trans rfl
                                        have hcz61_1 : wr.cell? ⟨gb136, 1, none⟩ = some (.string nm) := (blk_cell BK136.out 1).trans rfl
                                        have hfz61_0 := blk_frozen BK136.out 0
                                        have hfz61_1 := blk_frozen BK136.out 1
                                        try go_wp2_with (first | ((with_reducible refine gate_callee (f := 13) rfl ?_); refine goesL_ (some 90) rfl rfl Tryd.func13 (by kernel_rfl) rfl #[.string a1_0] rfl (by (try simp only [List.map_toArray, List.map_cons, List.map_nil]); first | done | rfl | (simp only [List.length_drop, List.length_take]; rfl)) ?_; (with_reducible refine (octet_Token.calls k3 a1_0 true _ A51.out).mono ?_); rintro e w' ⟨rfl, ⟨nd, rfl⟩⟩; refine ⟨_, rfl, ?_⟩))
                                        (try (rw [drewN_self wr]; generalize hq_ : World.drewN wr _ = wr; have n0_ : Aside0 (wr.heap[gb136]? = some (.cells #[.string a1_0, .string nm] 24 (0, 0))) := ⟨by rw [← hq_]; exact (by (with_reducible repeat (first | refine blk_drewN ?_ _ | refine blk_drew ?_ | refine blk_alloc ?_ _)); exact BK136.out)⟩; have n1_ : Aside0 (Below w.heap.size w wr) := ⟨by rw [← hq_]; exact (by repeat (first | (with_reducible first | exact HB.out | apply below_alloc | apply pw_below_drewN | apply below_drew1 | refine below_set ?_ GE136.out) | exact HB.out))⟩; clear BK136 HB hq_; have BK136 := n0_; have HB := n1_; clear n0_ n1_))
                                        have n0_ := Aside0.mk (blk_drew BK136.out)
                                        have n1_ := Aside0.mk (below_drew1 HB.out)
                                        clear BK136
                                        clear HB
                                        have BK136 := n0_
                                        have HB := n1_
                                        clear n0_ n1_
                                        refine start_ (n := 8) (S := fun w' => w'.cell? ⟨gb136, 0, none⟩ = some (.string a1_0) ∧ w'.cell? ⟨gb136, 1, none⟩ = some (.string nm)) (ds := []) #[false, false, false, false, false, false, false, false] (by kernel_rfl) rfl rfl ⟨(blk_cell BK136.out 0).trans rfl, (blk_cell BK136.out 1).trans rfl⟩ (fun hHeld => ?_); refine with_tabW glacislaw07_HeadersBytes.tab12 glacislaw07_HeadersBytes.bits12 (fun HT_ HW_ => ?_)
                                        generalize wr.drew = w62 at BK136 HB hHeld ⊢
                                        refine pure_ (i := 1) (N := some 92) (v := ?_) (a' := ?_) #[false, true, false, false, false, false, false, false] rfl rfl (any_of HT_.out (by kernel_rfl)) (fun _ _ _ h => h) (Or.inl ⟨by rfl, ?_⟩) ?_ ?_
                                        rotate_left
                                        · intro w'
                                          go_simp
                                          with_reducible rfl
                                        rotate_left
                                        · simp only [Act.put, List.setIfInBounds_toArray, List.set_cons_zero, List.set_cons_succ, i64_w, i32_w]
                                          rfl
                                        refine take_ (i := 3) (N := some 94) (v := ?_) (a' := ?_) #[false, true, false, true, false, false, false, false] rfl rfl (take_ofW HT_.out HW_.out (by kernel_rfl)) (fun _ _ _ h => h) (Or.inl ⟨by rfl, ?_⟩) hHeld ?_ ?_
                                        rotate_left
                                        · rintro w' ⟨s0, s1⟩
                                          go_simp
                                          with_reducible rfl
                                        rotate_left
                                        · simp only [Act.put, List.setIfInBounds_toArray, List.set_cons_zero, List.set_cons_succ, i64_w, i32_w]
                                          rfl
                                        refine join_ (σ := Value × Value × Value) 3 #[true, true, true, true, true, false, false, false] (fun s_ => [(91, s_.1), (93, s_.2.1), (95, s_.2.2)]) (fun s_ w' => (w'.cell? ⟨gb136, 0, none⟩ = some (.string a1_0) ∧ w'.cell? ⟨gb136, 1, none⟩ = some (.string nm)) ∧ (Kd.R k24 24 w' w.heap.size (fun k_ => some k_ ≠ (s_.2.2 : Value).ownBlock ∧ k_ ≠ gb136) s_.2.1 y159) ∧ (Kd.R k24 24 w' w.heap.size (fun k_ => some k_ ≠ (s_.2.1 : Value).ownBlock ∧ k_ ≠ gb136) s_.2.2 y162) ∧ (w'.heap[gb136]? = some (.cells #[.string a1_0, .string nm] 24 (0, 0))) ∧ (Below w.heap.size w w')) ?_ ?_
                                        rotate_left
                                        · intro hCont
                                          refine two_ (i := 0) (j := 4) (Ni := some 91) (Nj := some 95) #[true, true, false, true, false, false, false, false] #[false, true, false, true, true, false, false, false] rfl rfl rfl rfl (two_of HT_.out (by kernel_rfl)) (by decide) (by decide) (fun K hK => ?_) (fun K hK => ?_)
                                          · skip
                                            refine Kd.R_lit_step k24 _ 24 ?hg (N := 91) ?hd (xs := ([] : List (S24))) (inner := []) (ok := fun _ => True) (okp := fun _ => True) ?hr ?hp (fun _ hk => hk) trivial (Below.refl _ _) (Nat.le_refl _) (by simp) ?_; (case hd => rfl); (case hg => rfl); (case hr => first | (go_simp; done) | (go_simp; rfl)); (case hp => exact (Reps.none _ _))
                                            intro v157 w63 ho64 hb hg_ hnew_
                                            clear hg_ hnew_
                                            (first | rw [← Ny156.out] at ho64 | (simp only [Int.reduceToNat] at ho64; rw [← Ny156.out] at ho64))
                                            have n0_ := Aside0.mk (Kd.R_lower (Kd.R_newB ho64 (g := gb136) (o := .cells #[.string a1_0, .string nm] 24 (0, 0)) (by (with_reducible repeat (first | refine blk_drewN ?_ _ | refine blk_drew ?_ | refine blk_alloc ?_ _)); exact BK136.out)) (below_size (by repeat (first | (with_reducible first | exact HB.out | apply below_alloc | apply pw_below_drewN | apply below_drew1 | refine below_set ?_ GE136.out) | exact HB.out))))
                                            have n1_ := Aside0.mk (blk_below (g := gb136) (o := .cells #[.string a1_0, .string nm] 24 (0, 0)) (by (with_reducible repeat (first | refine blk_drewN ?_ _ | refine blk_drew ?_ | refine blk_alloc ?_ _)); exact BK136.out) hb)
                                            have n2_ := Aside0.mk (below_step (by repeat (first | (with_reducible first | exact HB.out | apply below_alloc | apply pw_below_drewN | apply below_drew1 | refine below_set ?_ GE136.out) | exact HB.out)) hb)
                                            clear BK136
                                            clear HB
                                            have HO158 := n0_
                                            have BK136 := n1_
                                            have HB := n2_
                                            clear n0_ n1_ n2_
                                            clear hb ho64
                                            refine hK.out _ _ ⟨(blk_cell BK136.out 0).trans rfl, (blk_cell BK136.out 1).trans rfl⟩ (fun hHeld => ?_)
                                            clear hK K
                                            refine norm_ (a' := ?_) ?_ ?_
                                            rotate_left
                                            · show Act.put _ (some 91) _ = _
                                              simp only [Act.put, List.setIfInBounds_toArray, List.set_cons_zero, List.set_cons_succ, i64_w, i32_w]
                                              rfl
                                            refine two_ (i := 2) (j := 4) (Ni := some 93) (Nj := some 95) #[true, true, true, true, false, false, false, false] #[true, true, false, true, true, false, false, false] rfl rfl rfl rfl (two_of HT_.out (by kernel_rfl)) (by decide) (by decide) (fun K hK => ?_) (fun K hK => ?_)
                                            · skip
                                              refine Kd.R_append_rows_step k24 (w0 := w) w.heap.size (by rfl) (.tmp 91) (.tmp 92) 25 24 (.agg #[(.string ⟨#[]⟩), (.string ⟨#[]⟩)]) 32 rfl Tryd.underlying25 info24 rfl (by decide) (by omega) v157 y156 l0 _ _ _ (fun k_ => k_ ≠ gb136) (fun _ => False) rfl rfl ?aO ?aR (fun _ _ h => h) (fun _ h => h.elim) ?aF ?aB ?aS ?aL ?_
                                              (case aR => repeat (first | exact (Kd.C_below HR0.out HB.out) | (with_reducible refine Kd.C_alloc ?_ _) | (with_reducible refine Kd.C_drewN ?_ _) | (with_reducible refine Kd.C_drew ?_)))
                                              (case aB => exact (by repeat (first | (with_reducible first | exact HB.out | apply below_alloc | apply pw_below_drewN | apply below_drew1 | refine below_set ?_ GE136.out) | exact HB.out)))
                                              (case aF => exact (fun k_ hk => Kd.freshB (g := gb136) (o := .cells #[.string a1_0, .string nm] 24 (0, 0)) (by (with_reducible repeat (first | refine blk_drewN ?_ _ | refine blk_drew ?_ | refine blk_alloc ?_ _)); exact BK136.out) k_ hk))
                                              (case aO => exact (by (with_reducible repeat (first | apply Kd.R_alloc | apply Kd.R_drewN | apply Kd.R_drew)); exact Kd.R_mono HO158.out (fun _ hk => hk.2)))
                                              (case aS => exact (below_size (by repeat (first | (with_reducible first | exact HB.out | apply below_alloc | apply pw_below_drewN | apply below_drew1 | refine below_set ?_ GE136.out) | exact HB.out))))
                                              (case aL => have := LMc52.out; omega)
                                              intro v160 w65 ho hb hg hat
                                              rw [← Ny159.out] at ho
                                              have n0_ := Aside0.mk (blk_grown (g := gb136) (o := .cells #[.string a1_0, .string nm] 24 (0, 0)) (by (with_reducible repeat (first | refine blk_drewN ?_ _ | refine blk_drew ?_ | refine blk_alloc ?_ _)); exact BK136.out) hg (Kd.R_away HO158.out (fun _ hk => hk.2)))
                                              have n1_ := Aside0.mk (hb)
                                              have n2_ := Aside0.mk (ho)
                                              clear BK136
                                              clear HB
                                              clear HO158
                                              have BK136 := n0_
                                              have HB := n1_
                                              have HO161 := n2_
                                              clear n0_ n1_ n2_
                                              clear ho hb hg hat
                                              refine hK.out _ _ ⟨(blk_cell BK136.out 0).trans rfl, (blk_cell BK136.out 1).trans rfl⟩ (fun hHeld => ?_)
                                              clear hK K
                                              refine norm_ (a' := ?_) ?_ ?_
                                              rotate_left
                                              · show Act.put _ (some 93) _ = _
                                                simp only [Act.put, List.setIfInBounds_toArray, List.set_cons_zero, List.set_cons_succ, i64_w, i32_w]
                                                rfl
                                              refine one_ (i := 4) (N := some 95) #[true, true, true, true, true, false, false, false] rfl rfl (one_of HT_.out (by kernel_rfl)) (by decide) (fun K hK => ?_)
                                              refine Kd.R_lit_step k24 _ 24 ?hg (N := 95) ?hd (xs := ([(⟨a1_0, nm⟩ : S24)] : List (S24))) (inner := [.string a1_0, .string nm]) (ok := fun _ => True) (okp := fun _ => True) ?hr ?hp (fun _ hk => hk) trivial (Below.refl _ _) (Nat.le_refl _) (by simp) ?_; (case hd => rfl); (case hg => rfl); (case hr => first | (go_simp; done) | (go_simp; rfl)); (case hp => exact (Reps.c2 (show Kd.M k24 _ _ _ (⟨a1_0, nm⟩ : S24) [.string a1_0, .string nm] from (k24_mkM _ _ _ (⟨a1_0, nm⟩ : S24) )) (Reps.none _ _)))
                                              intro v163 w66 ho67 hb hg_ hnew_
                                              clear hg_ hnew_
                                              (first | rw [← Ny162.out] at ho67 | (simp only [Int.reduceToNat] at ho67; rw [← Ny162.out] at ho67))
                                              have n0_ := Aside0.mk (Kd.R_elder' (by (with_reducible repeat (first | apply Kd.R_alloc | apply Kd.R_drewN | apply Kd.R_drew)); exact HO161.out) (Kd.R_base ho67) hb)
                                              have n1_ := Aside0.mk (Kd.R_lower (Kd.R_newB (Kd.R_new' ho67 (Kd.R_lt (by (with_reducible repeat (first | apply Kd.R_alloc | apply Kd.R_drewN | apply Kd.R_drew)); exact HO161.out))) (g := gb136) (o := .cells #[.string a1_0, .string nm] 24 (0, 0)) (by (with_reducible repeat (first | refine blk_drewN ?_ _ | refine blk_drew ?_ | refine blk_alloc ?_ _)); exact BK136.out)) (below_size (by repeat (first | (with_reducible first | exact HB.out | apply below_alloc | apply pw_below_drewN | apply below_drew1 | refine below_set ?_ GE136.out) | exact HB.out))))
                                              have n2_ := Aside0.mk (blk_below (g := gb136) (o := .cells #[.string a1_0, .string nm] 24 (0, 0)) (by (with_reducible repeat (first | refine blk_drewN ?_ _ | refine blk_drew ?_ | refine blk_alloc ?_ _)); exact BK136.out) hb)
                                              have n3_ := Aside0.mk (below_step (by repeat (first | (with_reducible first | exact HB.out | apply below_alloc | apply pw_below_drewN | apply below_drew1 | refine below_set ?_ GE136.out) | exact HB.out)) hb)
                                              clear HO161
                                              clear BK136
                                              clear HB
                                              have HO161 := n0_
                                              have HO164 := n1_
                                              have BK136 := n2_
                                              have HB := n3_
                                              clear n0_ n1_ n2_ n3_
                                              clear hb ho67
                                              refine hK.out _ _ ⟨(blk_cell BK136.out 0).trans rfl, (blk_cell BK136.out 1).trans rfl⟩ (fun hHeld => ?_)
                                              clear hK K
                                              refine norm_ (a' := ?_) ?_ ?_
                                              rotate_left
                                              · show Act.put _ (some 95) _ = _
                                                simp only [Act.put, List.setIfInBounds_toArray, List.set_cons_zero, List.set_cons_succ, i64_w, i32_w]
                                                rfl
                                              exact norm_ (by simp only [putAll, Act.put, List.setIfInBounds_toArray, List.set_cons_zero, List.set_cons_succ]) (hCont (v157, v160, v163) _ ⟨hHeld, (by (with_reducible repeat (first | apply Kd.R_alloc | apply Kd.R_drewN | apply Kd.R_drew)); exact Kd.R_mono HO161.out (fun _ hk => ⟨hk.2, hk.1⟩)), (by (with_reducible repeat (first | apply Kd.R_alloc | apply Kd.R_drewN | apply Kd.R_drew)); exact Kd.R_mono HO164.out (fun _ hk => ⟨hk.1.2, hk.2⟩)), (by (with_reducible repeat (first | refine blk_drewN ?_ _ | refine blk_drew ?_ | refine blk_alloc ?_ _)); exact BK136.out), (by repeat (first | (with_reducible first | exact HB.out | apply below_alloc | apply pw_below_drewN | apply below_drew1 | refine below_set ?_ GE136.out) | exact HB.out))⟩)
                                            · skip
                                              refine Kd.R_lit_step k24 _ 24 ?hg (N := 95) ?hd (xs := ([(⟨a1_0, nm⟩ : S24)] : List (S24))) (inner := [.string a1_0, .string nm]) (ok := fun _ => True) (okp := fun _ => True) ?hr ?hp (fun _ hk => hk) trivial (Below.refl _ _) (Nat.le_refl _) (by simp) ?_; (case hd => rfl); (case hg => rfl); (case hr => first | (go_simp; done) | (go_simp; rfl)); (case hp => exact (Reps.c2 (show Kd.M k24 _ _ _ (⟨a1_0, nm⟩ : S24) [.string a1_0, .string nm] from (k24_mkM _ _ _ (⟨a1_0, nm⟩ : S24) )) (Reps.none _ _)))
                                              intro v163 w65 ho66 hb hg_ hnew_
                                              clear hg_ hnew_
                                              (first | rw [← Ny162.out] at ho66 | (simp only [Int.reduceToNat] at ho66; rw [← Ny162.out] at ho66))
                                              have n0_ := Aside0.mk (Kd.R_elder' (by (with_reducible repeat (first | apply Kd.R_alloc | apply Kd.R_drewN | apply Kd.R_drew)); exact HO158.out) (Kd.R_base ho66) hb)
                                              have n1_ := Aside0.mk (Kd.R_lower (Kd.R_newB (Kd.R_new' ho66 (Kd.R_lt (by (with_reducible repeat (first | apply Kd.R_alloc | apply Kd.R_drewN | apply Kd.R_drew)); exact HO158.out))) (g := gb136) (o := .cells #[.string a1_0, .string nm] 24 (0, 0)) (by (with_reducible repeat (first | refine blk_drewN ?_ _ | refine blk_drew ?_ | refine blk_alloc ?_ _)); exact BK136.out)) (below_size (by repeat (first | (with_reducible first | exact HB.out | apply below_alloc | apply pw_below_drewN | apply below_drew1 | refine below_set ?_ GE136.out) | exact HB.out))))
                                              have n2_ := Aside0.mk (blk_below (g := gb136) (o := .cells #[.string a1_0, .string nm] 24 (0, 0)) (by (with_reducible repeat (first | refine blk_drewN ?_ _ | refine blk_drew ?_ | refine blk_alloc ?_ _)); exact BK136.out) hb)
                                              have n3_ := Aside0.mk (below_step (by repeat (first | (with_reducible first | exact HB.out | apply below_alloc | apply pw_below_drewN | apply below_drew1 | refine below_set ?_ GE136.out) | exact HB.out)) hb)
                                              clear HO158
                                              clear BK136
                                              clear HB
                                              have HO158 := n0_
                                              have HO164 := n1_
                                              have BK136 := n2_
                                              have HB := n3_
                                              clear n0_ n1_ n2_ n3_
                                              clear hb ho66
                                              refine hK.out _ _ ⟨(blk_cell BK136.out 0).trans rfl, (blk_cell BK136.out 1).trans rfl⟩ (fun hHeld => ?_)
                                              clear hK K
                                              refine norm_ (a' := ?_) ?_ ?_
                                              rotate_left
                                              · show Act.put _ (some 95) _ = _
                                                simp only [Act.put, List.setIfInBounds_toArray, List.set_cons_zero, List.set_cons_succ, i64_w, i32_w]
                                                rfl
                                              refine one_ (i := 2) (N := some 93) #[true, true, true, true, true, false, false, false] rfl rfl (one_of HT_.out (by kernel_rfl)) (by decide) (fun K hK => ?_)
                                              refine Kd.R_append_rows_step k24 (w0 := w) w.heap.size (by rfl) (.tmp 91) (.tmp 92) 25 24 (.agg #[(.string ⟨#[]⟩), (.string ⟨#[]⟩)]) 32 rfl Tryd.underlying25 info24 rfl (by decide) (by omega) v157 y156 l0 _ _ _ (fun k_ => some k_ ≠ (v163 : Value).ownBlock ∧ k_ ≠ gb136) (fun _ => False) rfl rfl ?aO ?aR (fun _ _ h => h) (fun _ h => h.elim) ?aF ?aB ?aS ?aL ?_
                                              (case aR => repeat (first | exact (Kd.C_below HR0.out HB.out) | (with_reducible refine Kd.C_alloc ?_ _) | (with_reducible refine Kd.C_drewN ?_ _) | (with_reducible refine Kd.C_drew ?_)))
                                              (case aB => exact (by repeat (first | (with_reducible first | exact HB.out | apply below_alloc | apply pw_below_drewN | apply below_drew1 | refine below_set ?_ GE136.out) | exact HB.out)))
                                              (case aF => exact (fun k_ hk => ⟨Kd.fresh' (Kd.R_lt (by (with_reducible repeat (first | apply Kd.R_alloc | apply Kd.R_drewN | apply Kd.R_drew)); exact HO164.out)) k_ hk, Kd.freshB (g := gb136) (o := .cells #[.string a1_0, .string nm] 24 (0, 0)) (by (with_reducible repeat (first | refine blk_drewN ?_ _ | refine blk_drew ?_ | refine blk_alloc ?_ _)); exact BK136.out) k_ hk⟩))
                                              (case aO => exact (by (with_reducible repeat (first | apply Kd.R_alloc | apply Kd.R_drewN | apply Kd.R_drew)); exact Kd.R_mono HO158.out (fun _ hk => ⟨hk.2, hk.1.2⟩)))
                                              (case aS => exact (below_size (by repeat (first | (with_reducible first | exact HB.out | apply below_alloc | apply pw_below_drewN | apply below_drew1 | refine below_set ?_ GE136.out) | exact HB.out))))
                                              (case aL => have := LMc52.out; omega)
                                              intro v160 w67 ho hb hg hat
                                              rw [← Ny159.out] at ho
                                              have n0_ := Aside0.mk (blk_grown (g := gb136) (o := .cells #[.string a1_0, .string nm] 24 (0, 0)) (by (with_reducible repeat (first | refine blk_drewN ?_ _ | refine blk_drew ?_ | refine blk_alloc ?_ _)); exact BK136.out) hg (Kd.R_away HO158.out (fun _ hk => hk.1.2)))
                                              have n1_ := Aside0.mk (Kd.R_after (ok := (fun k_ => k_ ≠ gb136)) (by (with_reducible repeat (first | apply Kd.R_alloc | apply Kd.R_drewN | apply Kd.R_drew)); exact Kd.R_mono HO164.out (fun _ hk => ⟨hk.2, hk.1.2⟩)) hg hat)
                                              have n2_ := Aside0.mk (hb)
                                              have n3_ := Aside0.mk (ho)
                                              clear BK136
                                              clear HO164
                                              clear HB
                                              clear HO158
                                              have BK136 := n0_
                                              have HO164 := n1_
                                              have HB := n2_
                                              have HO161 := n3_
                                              clear n0_ n1_ n2_ n3_
                                              clear ho hb hg hat
                                              refine hK.out _ _ ⟨(blk_cell BK136.out 0).trans rfl, (blk_cell BK136.out 1).trans rfl⟩ (fun hHeld => ?_)
                                              clear hK K
                                              refine norm_ (a' := ?_) ?_ ?_
                                              rotate_left
                                              · show Act.put _ (some 93) _ = _
                                                simp only [Act.put, List.setIfInBounds_toArray, List.set_cons_zero, List.set_cons_succ, i64_w, i32_w]
                                                rfl
                                              exact norm_ (by simp only [putAll, Act.put, List.setIfInBounds_toArray, List.set_cons_zero, List.set_cons_succ]) (hCont (v157, v160, v163) _ ⟨hHeld, (by (with_reducible repeat (first | apply Kd.R_alloc | apply Kd.R_drewN | apply Kd.R_drew)); exact HO161.out), (by (with_reducible repeat (first | apply Kd.R_alloc | apply Kd.R_drewN | apply Kd.R_drew)); exact Kd.R_mono HO164.out (fun _ hk => ⟨hk.2, hk.1⟩)), (by (with_reducible repeat (first | refine blk_drewN ?_ _ | refine blk_drew ?_ | refine blk_alloc ?_ _)); exact BK136.out), (by repeat (first | (with_reducible first | exact HB.out | apply below_alloc | apply pw_below_drewN | apply below_drew1 | refine below_set ?_ GE136.out) | exact HB.out))⟩)
                                          · skip
                                            refine Kd.R_lit_step k24 _ 24 ?hg (N := 95) ?hd (xs := ([(⟨a1_0, nm⟩ : S24)] : List (S24))) (inner := [.string a1_0, .string nm]) (ok := fun _ => True) (okp := fun _ => True) ?hr ?hp (fun _ hk => hk) trivial (Below.refl _ _) (Nat.le_refl _) (by simp) ?_; (case hd => rfl); (case hg => rfl); (case hr => first | (go_simp; done) | (go_simp; rfl)); (case hp => exact (Reps.c2 (show Kd.M k24 _ _ _ (⟨a1_0, nm⟩ : S24) [.string a1_0, .string nm] from (k24_mkM _ _ _ (⟨a1_0, nm⟩ : S24) )) (Reps.none _ _)))
                                            intro v163 w63 ho64 hb hg_ hnew_
                                            clear hg_ hnew_
                                            (first | rw [← Ny162.out] at ho64 | (simp only [Int.reduceToNat] at ho64; rw [← Ny162.out] at ho64))
                                            have n0_ := Aside0.mk (Kd.R_lower (Kd.R_newB ho64 (g := gb136) (o := .cells #[.string a1_0, .string nm] 24 (0, 0)) (by (with_reducible repeat (first | refine blk_drewN ?_ _ | refine blk_drew ?_ | refine blk_alloc ?_ _)); exact BK136.out)) (below_size (by repeat (first | (with_reducible first | exact HB.out | apply below_alloc | apply pw_below_drewN | apply below_drew1 | refine below_set ?_ GE136.out) | exact HB.out))))
                                            have n1_ := Aside0.mk (blk_below (g := gb136) (o := .cells #[.string a1_0, .string nm] 24 (0, 0)) (by (with_reducible repeat (first | refine blk_drewN ?_ _ | refine blk_drew ?_ | refine blk_alloc ?_ _)); exact BK136.out) hb)
                                            have n2_ := Aside0.mk (below_step (by repeat (first | (with_reducible first | exact HB.out | apply below_alloc | apply pw_below_drewN | apply below_drew1 | refine below_set ?_ GE136.out) | exact HB.out)) hb)
                                            clear BK136
                                            clear HB
                                            have HO164 := n0_
                                            have BK136 := n1_
                                            have HB := n2_
                                            clear n0_ n1_ n2_
                                            clear hb ho64
                                            refine hK.out _ _ ⟨(blk_cell BK136.out 0).trans rfl, (blk_cell BK136.out 1).trans rfl⟩ (fun hHeld => ?_)
                                            clear hK K
                                            refine norm_ (a' := ?_) ?_ ?_
                                            rotate_left
                                            · show Act.put _ (some 95) _ = _
                                              simp only [Act.put, List.setIfInBounds_toArray, List.set_cons_zero, List.set_cons_succ, i64_w, i32_w]
                                              rfl
                                            refine one_ (i := 0) (N := some 91) #[true, true, false, true, true, false, false, false] rfl rfl (one_of HT_.out (by kernel_rfl)) (by decide) (fun K hK => ?_)
                                            refine Kd.R_lit_step k24 _ 24 ?hg (N := 91) ?hd (xs := ([] : List (S24))) (inner := []) (ok := fun _ => True) (okp := fun _ => True) ?hr ?hp (fun _ hk => hk) trivial (Below.refl _ _) (Nat.le_refl _) (by simp) ?_; (case hd => rfl); (case hg => rfl); (case hr => first | (go_simp; done) | (go_simp; rfl)); (case hp => exact (Reps.none _ _))
                                            intro v157 w65 ho66 hb hg_ hnew_
                                            clear hg_ hnew_
                                            (first | rw [← Ny156.out] at ho66 | (simp only [Int.reduceToNat] at ho66; rw [← Ny156.out] at ho66))
                                            have n0_ := Aside0.mk (Kd.R_elder' (by (with_reducible repeat (first | apply Kd.R_alloc | apply Kd.R_drewN | apply Kd.R_drew)); exact HO164.out) (Kd.R_base ho66) hb)
                                            have n1_ := Aside0.mk (Kd.R_lower (Kd.R_newB (Kd.R_new' ho66 (Kd.R_lt (by (with_reducible repeat (first | apply Kd.R_alloc | apply Kd.R_drewN | apply Kd.R_drew)); exact HO164.out))) (g := gb136) (o := .cells #[.string a1_0, .string nm] 24 (0, 0)) (by (with_reducible repeat (first | refine blk_drewN ?_ _ | refine blk_drew ?_ | refine blk_alloc ?_ _)); exact BK136.out)) (below_size (by repeat (first | (with_reducible first | exact HB.out | apply below_alloc | apply pw_below_drewN | apply below_drew1 | refine below_set ?_ GE136.out) | exact HB.out))))
                                            have n2_ := Aside0.mk (blk_below (g := gb136) (o := .cells #[.string a1_0, .string nm] 24 (0, 0)) (by (with_reducible repeat (first | refine blk_drewN ?_ _ | refine blk_drew ?_ | refine blk_alloc ?_ _)); exact BK136.out) hb)
                                            have n3_ := Aside0.mk (below_step (by repeat (first | (with_reducible first | exact HB.out | apply below_alloc | apply pw_below_drewN | apply below_drew1 | refine below_set ?_ GE136.out) | exact HB.out)) hb)
                                            clear HO164
                                            clear BK136
                                            clear HB
                                            have HO164 := n0_
                                            have HO158 := n1_
                                            have BK136 := n2_
                                            have HB := n3_
                                            clear n0_ n1_ n2_ n3_
                                            clear hb ho66
                                            refine hK.out _ _ ⟨(blk_cell BK136.out 0).trans rfl, (blk_cell BK136.out 1).trans rfl⟩ (fun hHeld => ?_)
                                            clear hK K
                                            refine norm_ (a' := ?_) ?_ ?_
                                            rotate_left
                                            · show Act.put _ (some 91) _ = _
                                              simp only [Act.put, List.setIfInBounds_toArray, List.set_cons_zero, List.set_cons_succ, i64_w, i32_w]
                                              rfl
                                            refine one_ (i := 2) (N := some 93) #[true, true, true, true, true, false, false, false] rfl rfl (one_of HT_.out (by kernel_rfl)) (by decide) (fun K hK => ?_)
                                            refine Kd.R_append_rows_step k24 (w0 := w) w.heap.size (by rfl) (.tmp 91) (.tmp 92) 25 24 (.agg #[(.string ⟨#[]⟩), (.string ⟨#[]⟩)]) 32 rfl Tryd.underlying25 info24 rfl (by decide) (by omega) v157 y156 l0 _ _ _ (fun k_ => some k_ ≠ (v163 : Value).ownBlock ∧ k_ ≠ gb136) (fun _ => False) rfl rfl ?aO ?aR (fun _ _ h => h) (fun _ h => h.elim) ?aF ?aB ?aS ?aL ?_
                                            (case aR => repeat (first | exact (Kd.C_below HR0.out HB.out) | (with_reducible refine Kd.C_alloc ?_ _) | (with_reducible refine Kd.C_drewN ?_ _) | (with_reducible refine Kd.C_drew ?_)))
                                            (case aB => exact (by repeat (first | (with_reducible first | exact HB.out | apply below_alloc | apply pw_below_drewN | apply below_drew1 | refine below_set ?_ GE136.out) | exact HB.out)))
                                            (case aF => exact (fun k_ hk => ⟨Kd.fresh' (Kd.R_lt (by (with_reducible repeat (first | apply Kd.R_alloc | apply Kd.R_drewN | apply Kd.R_drew)); exact HO164.out)) k_ hk, Kd.freshB (g := gb136) (o := .cells #[.string a1_0, .string nm] 24 (0, 0)) (by (with_reducible repeat (first | refine blk_drewN ?_ _ | refine blk_drew ?_ | refine blk_alloc ?_ _)); exact BK136.out) k_ hk⟩))
                                            (case aO => exact (by (with_reducible repeat (first | apply Kd.R_alloc | apply Kd.R_drewN | apply Kd.R_drew)); exact Kd.R_mono HO158.out (fun _ hk => ⟨hk.1.2, hk.2⟩)))
                                            (case aS => exact (below_size (by repeat (first | (with_reducible first | exact HB.out | apply below_alloc | apply pw_below_drewN | apply below_drew1 | refine below_set ?_ GE136.out) | exact HB.out))))
                                            (case aL => have := LMc52.out; omega)
                                            intro v160 w67 ho hb hg hat
                                            rw [← Ny159.out] at ho
                                            have n0_ := Aside0.mk (blk_grown (g := gb136) (o := .cells #[.string a1_0, .string nm] 24 (0, 0)) (by (with_reducible repeat (first | refine blk_drewN ?_ _ | refine blk_drew ?_ | refine blk_alloc ?_ _)); exact BK136.out) hg (Kd.R_away HO158.out (fun _ hk => hk.2)))
                                            have n1_ := Aside0.mk (Kd.R_after (ok := (fun k_ => k_ ≠ gb136)) (by (with_reducible repeat (first | apply Kd.R_alloc | apply Kd.R_drewN | apply Kd.R_drew)); exact Kd.R_mono HO164.out (fun _ hk => ⟨hk.1.2, hk.2⟩)) hg hat)
                                            have n2_ := Aside0.mk (hb)
                                            have n3_ := Aside0.mk (ho)
                                            clear BK136
                                            clear HO164
                                            clear HB
                                            clear HO158
                                            have BK136 := n0_
                                            have HO164 := n1_
                                            have HB := n2_
                                            have HO161 := n3_
                                            clear n0_ n1_ n2_ n3_
                                            clear ho hb hg hat
                                            refine hK.out _ _ ⟨(blk_cell BK136.out 0).trans rfl, (blk_cell BK136.out 1).trans rfl⟩ (fun hHeld => ?_)
                                            clear hK K
                                            refine norm_ (a' := ?_) ?_ ?_
                                            rotate_left
                                            · show Act.put _ (some 93) _ = _
                                              simp only [Act.put, List.setIfInBounds_toArray, List.set_cons_zero, List.set_cons_succ, i64_w, i32_w]
                                              rfl
                                            exact norm_ (by simp only [putAll, Act.put, List.setIfInBounds_toArray, List.set_cons_zero, List.set_cons_succ]) (hCont (v157, v160, v163) _ ⟨hHeld, (by (with_reducible repeat (first | apply Kd.R_alloc | apply Kd.R_drewN | apply Kd.R_drew)); exact HO161.out), (by (with_reducible repeat (first | apply Kd.R_alloc | apply Kd.R_drewN | apply Kd.R_drew)); exact Kd.R_mono HO164.out (fun _ hk => ⟨hk.2, hk.1⟩)), (by (with_reducible repeat (first | refine blk_drewN ?_ _ | refine blk_drew ?_ | refine blk_alloc ?_ _)); exact BK136.out), (by repeat (first | (with_reducible first | exact HB.out | apply below_alloc | apply pw_below_drewN | apply below_drew1 | refine below_set ?_ GE136.out) | exact HB.out))⟩)
                                        rintro ⟨v157, v160, v163⟩ w68 ⟨hS_, h0_, h1_, h2_, h3_⟩
                                        have n0_ : Aside0 (Kd.R k24 24 w68 w.heap.size (fun k_ => some k_ ≠ (v163 : Value).ownBlock ∧ k_ ≠ gb136) v160 y159) := ⟨h0_⟩
                                        have n1_ : Aside0 (Kd.R k24 24 w68 w.heap.size (fun k_ => some k_ ≠ (v160 : Value).ownBlock ∧ k_ ≠ gb136) v163 y162) := ⟨h1_⟩
                                        have n2_ : Aside0 (w68.heap[gb136]? = some (.cells #[.string a1_0, .string nm] 24 (0, 0))) := ⟨h2_⟩
                                        have n3_ : Aside0 (Below w.heap.size w w68) := ⟨h3_⟩
                                        clear BK136
                                        clear HB
                                        clear h0_ h1_ h2_ h3_
                                        have HO161 := n0_
                                        have HO164 := n1_
                                        have BK136 := n2_
                                        have HB := n3_
                                        clear n0_ n1_ n2_ n3_
                                        have hHeld : w68.cell? ⟨gb136, 0, none⟩ = some (.string a1_0) ∧ w68.cell? ⟨gb136, 1, none⟩ = some (.string nm) := hS_
                                        obtain ⟨Ao70, co70, eo70⟩ := Kd.R_slice HO164.out
                                        (first | subst eo70 | (injection eo70 with f1_ f2_ f3_; have f4_ := f1_.symm; have f5_ := f3_.symm; clear f1_ f2_ f3_; subst f4_; subst f5_))
                                        refine norm_ (a' := ?_) ?_ ?_
                                        rotate_left
                                        · simp only [putAll, Act.put, List.setIfInBounds_toArray, List.set_cons_zero, List.set_cons_succ]
                                          rfl
                                        refine one_ (i := 5) (N := some 96) #[true, true, true, true, true, true, false, false] rfl rfl (one_of HT_.out (by kernel_rfl)) (by decide) (fun K hK => ?_)
                                        refine Kd.R_append_rows_step k24 (w0 := w) w.heap.size (by rfl) (.tmp 93) (.tmp 95) 25 24 (.agg #[(.string ⟨#[]⟩), (.string ⟨#[]⟩)]) 32 rfl Tryd.underlying25 info24 rfl (by decide) (by omega) v160 y159 y162 _ _ _ (fun k_ => some k_ ≠ (.slice Ao70 y162.length co70 : Value).ownBlock ∧ k_ ≠ gb136) (fun _ => False) rfl rfl ?aO ?aR (fun _ _ h => h) (fun _ h => h.elim) ?aF ?aB ?aS ?aL ?_
                                        (case aR => repeat (first | exact (Kd.R_reads' HO164.out).2.2 | (with_reducible refine Kd.C_alloc ?_ _) | (with_reducible refine Kd.C_drewN ?_ _) | (with_reducible refine Kd.C_drew ?_)))
                                        (case aB => exact (by repeat (first | (with_reducible first | exact HB.out | apply below_alloc | apply pw_below_drewN | apply below_drew1 | refine below_set ?_ GE136.out) | exact HB.out)))
                                        (case aF => exact (fun k_ hk => ⟨Kd.fresh' (Kd.R_lt (by (with_reducible repeat (first | apply Kd.R_alloc | apply Kd.R_drewN | apply Kd.R_drew)); exact HO164.out)) k_ hk, Kd.freshB (g := gb136) (o := .cells #[.string a1_0, .string nm] 24 (0, 0)) (by (with_reducible repeat (first | refine blk_drewN ?_ _ | refine blk_drew ?_ | refine blk_alloc ?_ _)); exact BK136.out) k_ hk⟩))
                                        (case aO => exact (by (with_reducible repeat (first | apply Kd.R_alloc | apply Kd.R_drewN | apply Kd.R_drew)); exact HO161.out))
                                        (case aS => exact (below_size (by repeat (first | (with_reducible first | exact HB.out | apply below_alloc | apply pw_below_drewN | apply below_drew1 | refine below_set ?_ GE136.out) | exact HB.out))))
                                        (case aL => have := LMc53.out; omega)
                                        intro v166 w69 ho hb hg hat
                                        rw [← Ny165.out] at ho
                                        have n0_ := Aside0.mk (blk_grown (g := gb136) (o := .cells #[.string a1_0, .string nm] 24 (0, 0)) (by (with_reducible repeat (first | refine blk_drewN ?_ _ | refine blk_drew ?_ | refine blk_alloc ?_ _)); exact BK136.out) hg (Kd.R_away HO161.out (fun _ hk => hk.2)))
                                        have n1_ := Aside0.mk (Kd.R_after (ok := (fun k_ => k_ ≠ gb136)) (by (with_reducible repeat (first | apply Kd.R_alloc | apply Kd.R_drewN | apply Kd.R_drew)); exact Kd.R_mono HO164.out (fun _ hk => ⟨hk.2, hk.1⟩)) hg hat)
                                        have n2_ := Aside0.mk (hb)
                                        have n3_ := Aside0.mk (ho)
                                        clear BK136
                                        clear HO164
                                        clear HB
                                        clear HO161
                                        have BK136 := n0_
                                        have HO164 := n1_
                                        have HB := n2_
                                        have HO167 := n3_
                                        clear n0_ n1_ n2_ n3_
                                        clear ho hb hg hat
                                        obtain ⟨Ao71, co71, eo71⟩ := Kd.R_slice HO167.out
                                        (first | subst eo71 | (injection eo71 with f1_ f2_ f3_; have f4_ := f1_.symm; have f5_ := f3_.symm; clear f1_ f2_ f3_; subst f4_; subst f5_))
                                        refine hK.out _ _ ⟨(blk_cell BK136.out 0).trans rfl, (blk_cell BK136.out 1).trans rfl⟩ (fun hHeld => ?_)
                                        clear hK K
                                        refine norm_ (a' := ?_) ?_ ?_
                                        rotate_left
                                        · show Act.put _ (some 96) _ = _
                                          simp only [Act.put, List.setIfInBounds_toArray, List.set_cons_zero, List.set_cons_succ, i64_w, i32_w]
                                          rfl
                                        refine one_ (i := 6) (N := some 97) #[true, true, true, true, true, true, true, false] rfl rfl (one_of HT_.out (by kernel_rfl)) (by decide) (fun K hK => ?_)
                                        refine goes_ Tryd.func12 (by kernel_rfl) rfl #[.slice Ao71 y165.length co71] (by rfl) rfl rfl (by (try simp only [List.map_toArray, List.map_cons, List.map_nil]); first | done | rfl | (simp only [List.length_drop, List.length_take]; rfl)) ?_
                                        with_reducible refine (headers_Check.calls k3 _ _ y165 t168 _ ?side1 ?side2 A54.out).mono ?_
                                        (case side1 => repeat (first | exact (Kd.R_reads' HO167.out).2.2 | (with_reducible refine Kd.C_alloc ?_ _) | (with_reducible refine Kd.C_drewN ?_ _) | (with_reducible refine Kd.C_drew ?_)))
                                        (case side2 => exact (Kd.R_reads' HO167.out).2.1)
                                        rintro e w72 ⟨rfl, hb⟩
                                        refine ⟨_, rfl, ?_⟩
                                        have n0_ := Aside0.mk (Kd.R_below (by (with_reducible repeat (first | apply Kd.R_alloc | apply Kd.R_drewN | apply Kd.R_drew)); exact HO164.out) hb)
                                        have n1_ := Aside0.mk (Kd.R_below (by (with_reducible repeat (first | apply Kd.R_alloc | apply Kd.R_drewN | apply Kd.R_drew)); exact HO167.out) hb)
                                        have n2_ := Aside0.mk (blk_below (g := gb136) (o := .cells #[.string a1_0, .string nm] 24 (0, 0)) (by (with_reducible repeat (first | refine blk_drewN ?_ _ | refine blk_drew ?_ | refine blk_alloc ?_ _)); exact BK136.out) hb)
                                        have n3_ := Aside0.mk (below_step (by repeat (first | (with_reducible first | exact HB.out | apply below_alloc | apply pw_below_drewN | apply below_drew1 | refine below_set ?_ GE136.out) | exact HB.out)) hb)
                                        clear HO164
                                        clear HO167
                                        clear BK136
                                        clear HB
                                        have HO164 := n0_
                                        have HO167 := n1_
                                        have BK136 := n2_
                                        have HB := n3_
                                        clear n0_ n1_ n2_ n3_
                                        (try clear hb)
                                        (try clear hb2)
                                        (try clear hk)
                                        (try clear hi)
                                        refine hK.out _ _ ⟨(blk_cell BK136.out 0).trans rfl, (blk_cell BK136.out 1).trans rfl⟩ (fun hHeld => ?_)
                                        clear hK K
                                        refine norm_ (a' := ?_) ?_ ?_
                                        rotate_left
                                        · show Act.put _ (some 97) _ = _
                                          simp only [Act.put, List.setIfInBounds_toArray, List.set_cons_zero, List.set_cons_succ, i64_w, i32_w]
                                          rfl
                                        refine pure_ (i := 7) (N := some 12) (v := ?_) (a' := ?_) #[true, true, true, true, true, true, true, true] rfl rfl (any_of HT_.out (by kernel_rfl)) (fun _ _ _ h => h) (Or.inl ⟨by rfl, ?_⟩) ?_ ?_
                                        rotate_left
                                        · intro w'
                                          go_simp
                                          with_reducible rfl
                                        rotate_left
                                        · simp only [Act.put, List.setIfInBounds_toArray, List.set_cons_zero, List.set_cons_succ, i64_w, i32_w]
                                          rfl
                                        refine done_ (done_of HT_.out (by kernel_rfl)) ?_
                                        have q73 : (1 : Int) ≤ ((l0.length : Int) : Int) := of_decide_eq_true (by first | (with_reducible assumption) | assumption)
                                        obtain ⟨i073, hi073, _, hsz73, _⟩ := info_parts info24
                                        have hroom73 : l0.length ≤ c0 := HC0.out
                                        have hC73 : Kd.C k24 _ A0 l0.length l0 := HR0.out
                                        have hcut73 := cut_from (P := Tryd.prog) 25 24 .i64 Tryd.underlying25 hi073 2 hsz73 A0 l0.length c0 1 (by omega) q73
                                        have hr73 := Kd.C_drop (m := (1 : Int).toNat) (c := c0) hC73 (by omega) hroom73
                                        obtain ⟨A73, hA73⟩ : ∃ A1, A1 = (if c0 = (1 : Int).toNat then A0 else (A0 : Option Addr).map (·.add ((1 : Int).toNat * 2))) := ⟨_, rfl⟩
                                        obtain ⟨c73, hc73⟩ : ∃ c1, c1 = c0 - (1 : Int).toNat := ⟨_, rfl⟩
                                        have hy73 : y169.length = l0.length - (1 : Int).toNat := (by rw [Ny169.out, List.length_drop] <;> omega)
                                        rw [show (l0).drop (1 : Int).toNat = y169 from Ny169.out.symm] at hr73
                                        replace hr73 : Kd.C k24 _ A73 y169.length y169 := (by rw [hA73]; exact hr73)
                                        rw [← hy73, ← hA73, ← hc73] at hcut73
                                        have HR172 := Aside0.mk hr73
                                        have HC172 := Aside0.mk (show y169.length ≤ c73 from by rw [hy73, hc73]; exact Nat.sub_le_sub_right hroom73 _)
                                        clear hr73 hC73 hroom73 hi073 hsz73 hc73
                                        have KY73 := Aside0.mk hy73
                                        have KA73 := Aside0.mk hA73
                                        clear hy73 hA73
                                        replace q73 := eq_true q73
                                        try go_wp2_with (first | ((with_reducible refine gate_callee (f := 12) rfl ?_); refine goesL_ (some 103) rfl rfl Tryd.func12 (by kernel_rfl) rfl #[.slice A73 y169.length c73] rfl (by (try simp only [List.map_toArray, List.map_cons, List.map_nil]); first | done | rfl | (simp only [List.length_drop, List.length_take]; rfl)) ?_; (with_reducible refine (headers_Check.calls k3 _ _ y169 t173 _ ?side1 ?side2 A57.out).mono ?_); (case side1 => repeat (first | exact (Kd.C_below HR172.out HB.out) | (with_reducible refine Kd.C_alloc ?_ _) | (with_reducible refine Kd.C_drewN ?_ _) | (with_reducible refine Kd.C_drew ?_))); (case side2 => exact HC172.out); rintro e w74 ⟨rfl, hb⟩; refine ⟨_, rfl, ?_⟩; have n0_ := Aside0.mk (Kd.R_below (by (with_reducible repeat (first | apply Kd.R_alloc | apply Kd.R_drewN | apply Kd.R_drew)); exact HO164.out) hb); have n1_ := Aside0.mk (Kd.R_below (by (with_reducible repeat (first | apply Kd.R_alloc | apply Kd.R_drewN | apply Kd.R_drew)); exact HO167.out) hb); have n2_ := Aside0.mk (blk_below (g := gb136) (o := .cells #[.string a1_0, .string nm] 24 (0, 0)) (by (with_reducible repeat (first | refine blk_drewN ?_ _ | refine blk_drew ?_ | refine blk_alloc ?_ _)); exact BK136.out) hb); have n3_ := Aside0.mk (below_step (by repeat (first | (with_reducible first | exact HB.out | apply below_alloc | apply pw_below_drewN | apply below_drew1 | refine below_set ?_ GE136.out) | exact HB.out)) hb); clear HO164; clear HO167; clear BK136; clear HB; have HO164 := n0_; have HO167 := n1_; have BK136 := n2_; have HB := n3_; clear n0_ n1_ n2_ n3_; (try clear hb); (try clear hb2); (try clear hk); (try clear hi)))
                                        go_ret
                                        exact ⟨by first | rfl | (simp [errW_none, errW_some] <;> rfl) | (simp [*, errW_none, errW_some] <;> rfl) | (simp [q_ne_nil]; done), by repeat (first | (with_reducible first | exact HB.out | apply below_alloc | apply pw_below_drewN | apply below_drew1 | refine below_set ?_ GE136.out) | exact HB.out)⟩
                                      · replace c60 := Bool.eq_false_iff.mpr c60
                                        subst c60
                                        have H1 : (some ((t168 == 0) == false)) = some r := by rw [if_neg (show ¬ (false = true) by decide)] at H; exact H
                                        clear H
                                        have H := H1
                                        clear H1
                                        obtain rfl := Option.some.inj H
                                        have hcz75_0 : wr.cell? ⟨gb136, 0, none⟩ = some (.string a1_0) := (blk_cell BK136.out 0).trans rfl
                                        have hcz75_1 : wr.cell? ⟨gb136, 1, none⟩ = some (.string nm) := (blk_cell BK136.out 1).trans rfl
                                        have hfz75_0 := blk_frozen BK136.out 0
                                        have hfz75_1 := blk_frozen BK136.out 1
                                        try go_wp2_with (first | ((with_reducible refine gate_callee (f := 13) rfl ?_); refine goesL_ (some 90) rfl rfl Tryd.func13 (by kernel_rfl) rfl #[.string a1_0] rfl (by (try simp only [List.map_toArray, List.map_cons, List.map_nil]); first | done | rfl | (simp only [List.length_drop, List.length_take]; rfl)) ?_; (with_reducible refine (octet_Token.calls k3 a1_0 false _ A51.out).mono ?_); rintro e w' ⟨rfl, ⟨nd, rfl⟩⟩; refine ⟨_, rfl, ?_⟩))
                                        (try (rw [drewN_self wr]; generalize hq_ : World.drewN wr _ = wr; have n0_ : Aside0 (wr.heap[gb136]? = some (.cells #[.string a1_0, .string nm] 24 (0, 0))) := ⟨by rw [← hq_]; exact (by (with_reducible repeat (first | refine blk_drewN ?_ _ | refine blk_drew ?_ | refine blk_alloc ?_ _)); exact BK136.out)⟩; have n1_ : Aside0 (Below w.heap.size w wr) := ⟨by rw [← hq_]; exact (by repeat (first | (with_reducible first | exact HB.out | apply below_alloc | apply pw_below_drewN | apply below_drew1 | refine below_set ?_ GE136.out) | exact HB.out))⟩; clear BK136 HB hq_; have BK136 := n0_; have HB := n1_; clear n0_ n1_))
                                        have n0_ := Aside0.mk (blk_drew BK136.out)
                                        have n1_ := Aside0.mk (below_drew1 HB.out)
                                        clear BK136
                                        clear HB
                                        have BK136 := n0_
                                        have HB := n1_
                                        clear n0_ n1_
                                        refine start_ (n := 8) (S := fun w' => w'.cell? ⟨gb136, 0, none⟩ = some (.string a1_0) ∧ w'.cell? ⟨gb136, 1, none⟩ = some (.string nm)) (ds := []) #[false, false, false, false, false, false, false, false] (by kernel_rfl) rfl rfl ⟨(blk_cell BK136.out 0).trans rfl, (blk_cell BK136.out 1).trans rfl⟩ (fun hHeld => ?_); refine with_tabW glacislaw07_HeadersBytes.tab12 glacislaw07_HeadersBytes.bits12 (fun HT_ HW_ => ?_)
                                        generalize wr.drew = w76 at BK136 HB hHeld ⊢
                                        refine pure_ (i := 1) (N := some 92) (v := ?_) (a' := ?_) #[false, true, false, false, false, false, false, false] rfl rfl (any_of HT_.out (by kernel_rfl)) (fun _ _ _ h => h) (Or.inl ⟨by rfl, ?_⟩) ?_ ?_
                                        rotate_left
                                        · intro w'
                                          go_simp
                                          with_reducible rfl
                                        rotate_left
                                        · simp only [Act.put, List.setIfInBounds_toArray, List.set_cons_zero, List.set_cons_succ, i64_w, i32_w]
                                          rfl
                                        refine take_ (i := 3) (N := some 94) (v := ?_) (a' := ?_) #[false, true, false, true, false, false, false, false] rfl rfl (take_ofW HT_.out HW_.out (by kernel_rfl)) (fun _ _ _ h => h) (Or.inl ⟨by rfl, ?_⟩) hHeld ?_ ?_
                                        rotate_left
                                        · rintro w' ⟨s0, s1⟩
                                          go_simp
                                          with_reducible rfl
                                        rotate_left
                                        · simp only [Act.put, List.setIfInBounds_toArray, List.set_cons_zero, List.set_cons_succ, i64_w, i32_w]
                                          rfl
                                        refine join_ (σ := Value × Value × Value) 3 #[true, true, true, true, true, false, false, false] (fun s_ => [(91, s_.1), (93, s_.2.1), (95, s_.2.2)]) (fun s_ w' => (w'.cell? ⟨gb136, 0, none⟩ = some (.string a1_0) ∧ w'.cell? ⟨gb136, 1, none⟩ = some (.string nm)) ∧ (Kd.R k24 24 w' w.heap.size (fun k_ => some k_ ≠ (s_.2.2 : Value).ownBlock ∧ k_ ≠ gb136) s_.2.1 y159) ∧ (Kd.R k24 24 w' w.heap.size (fun k_ => some k_ ≠ (s_.2.1 : Value).ownBlock ∧ k_ ≠ gb136) s_.2.2 y162) ∧ (w'.heap[gb136]? = some (.cells #[.string a1_0, .string nm] 24 (0, 0))) ∧ (Below w.heap.size w w')) ?_ ?_
                                        rotate_left
                                        · intro hCont
                                          refine two_ (i := 0) (j := 4) (Ni := some 91) (Nj := some 95) #[true, true, false, true, false, false, false, false] #[false, true, false, true, true, false, false, false] rfl rfl rfl rfl (two_of HT_.out (by kernel_rfl)) (by decide) (by decide) (fun K hK => ?_) (fun K hK => ?_)
                                          · skip
                                            refine Kd.R_lit_step k24 _ 24 ?hg (N := 91) ?hd (xs := ([] : List (S24))) (inner := []) (ok := fun _ => True) (okp := fun _ => True) ?hr ?hp (fun _ hk => hk) trivial (Below.refl _ _) (Nat.le_refl _) (by simp) ?_; (case hd => rfl); (case hg => rfl); (case hr => first | (go_simp; done) | (go_simp; rfl)); (case hp => exact (Reps.none _ _))
                                            intro v157 w77 ho78 hb hg_ hnew_
                                            clear hg_ hnew_
                                            (first | rw [← Ny156.out] at ho78 | (simp only [Int.reduceToNat] at ho78; rw [← Ny156.out] at ho78))
                                            have n0_ := Aside0.mk (Kd.R_lower (Kd.R_newB ho78 (g := gb136) (o := .cells #[.string a1_0, .string nm] 24 (0, 0)) (by (with_reducible repeat (first | refine blk_drewN ?_ _ | refine blk_drew ?_ | refine blk_alloc ?_ _)); exact BK136.out)) (below_size (by repeat (first | (with_reducible first | exact HB.out | apply below_alloc | apply pw_below_drewN | apply below_drew1 | refine below_set ?_ GE136.out) | exact HB.out))))
                                            have n1_ := Aside0.mk (blk_below (g := gb136) (o := .cells #[.string a1_0, .string nm] 24 (0, 0)) (by (with_reducible repeat (first | refine blk_drewN ?_ _ | refine blk_drew ?_ | refine blk_alloc ?_ _)); exact BK136.out) hb)
                                            have n2_ := Aside0.mk (below_step (by repeat (first | (with_reducible first | exact HB.out | apply below_alloc | apply pw_below_drewN | apply below_drew1 | refine below_set ?_ GE136.out) | exact HB.out)) hb)
                                            clear BK136
                                            clear HB
                                            have HO158 := n0_
                                            have BK136 := n1_
                                            have HB := n2_
                                            clear n0_ n1_ n2_
                                            clear hb ho78
                                            refine hK.out _ _ ⟨(blk_cell BK136.out 0).trans rfl, (blk_cell BK136.out 1).trans rfl⟩ (fun hHeld => ?_)
                                            clear hK K
                                            refine norm_ (a' := ?_) ?_ ?_
                                            rotate_left
                                            · show Act.put _ (some 91) _ = _
                                              simp only [Act.put, List.setIfInBounds_toArray, List.set_cons_zero, List.set_cons_succ, i64_w, i32_w]
                                              rfl
                                            refine two_ (i := 2) (j := 4) (Ni := some 93) (Nj := some 95) #[true, true, true, true, false, false, false, false] #[true, true, false, true, true, false, false, false] rfl rfl rfl rfl (two_of HT_.out (by kernel_rfl)) (by decide) (by decide) (fun K hK => ?_) (fun K hK => ?_)
                                            · skip
                                              refine Kd.R_append_rows_step k24 (w0 := w) w.heap.size (by rfl) (.tmp 91) (.tmp 92) 25 24 (.agg #[(.string ⟨#[]⟩), (.string ⟨#[]⟩)]) 32 rfl Tryd.underlying25 info24 rfl (by decide) (by omega) v157 y156 l0 _ _ _ (fun k_ => k_ ≠ gb136) (fun _ => False) rfl rfl ?aO ?aR (fun _ _ h => h) (fun _ h => h.elim) ?aF ?aB ?aS ?aL ?_
                                              (case aR => repeat (first | exact (Kd.C_below HR0.out HB.out) | (with_reducible refine Kd.C_alloc ?_ _) | (with_reducible refine Kd.C_drewN ?_ _) | (with_reducible refine Kd.C_drew ?_)))
                                              (case aB => exact (by repeat (first | (with_reducible first | exact HB.out | apply below_alloc | apply pw_below_drewN | apply below_drew1 | refine below_set ?_ GE136.out) | exact HB.out)))
                                              (case aF => exact (fun k_ hk => Kd.freshB (g := gb136) (o := .cells #[.string a1_0, .string nm] 24 (0, 0)) (by (with_reducible repeat (first | refine blk_drewN ?_ _ | refine blk_drew ?_ | refine blk_alloc ?_ _)); exact BK136.out) k_ hk))
                                              (case aO => exact (by (with_reducible repeat (first | apply Kd.R_alloc | apply Kd.R_drewN | apply Kd.R_drew)); exact Kd.R_mono HO158.out (fun _ hk => hk.2)))
                                              (case aS => exact (below_size (by repeat (first | (with_reducible first | exact HB.out | apply below_alloc | apply pw_below_drewN | apply below_drew1 | refine below_set ?_ GE136.out) | exact HB.out))))
                                              (case aL => have := LMc52.out; omega)
                                              intro v160 w79 ho hb hg hat
                                              rw [← Ny159.out] at ho
                                              have n0_ := Aside0.mk (blk_grown (g := gb136) (o := .cells #[.string a1_0, .string nm] 24 (0, 0)) (by (with_reducible repeat (first | refine blk_drewN ?_ _ | refine blk_drew ?_ | refine blk_alloc ?_ _)); exact BK136.out) hg (Kd.R_away HO158.out (fun _ hk => hk.2)))
                                              have n1_ := Aside0.mk (hb)
                                              have n2_ := Aside0.mk (ho)
                                              clear BK136
                                              clear HB
                                              clear HO158
                                              have BK136 := n0_
                                              have HB := n1_
                                              have HO161 := n2_
                                              clear n0_ n1_ n2_
                                              clear ho hb hg hat
                                              refine hK.out _ _ ⟨(blk_cell BK136.out 0).trans rfl, (blk_cell BK136.out 1).trans rfl⟩ (fun hHeld => ?_)
                                              clear hK K
                                              refine norm_ (a' := ?_) ?_ ?_
                                              rotate_left
                                              · show Act.put _ (some 93) _ = _
                                                simp only [Act.put, List.setIfInBounds_toArray, List.set_cons_zero, List.set_cons_succ, i64_w, i32_w]
                                                rfl
                                              refine one_ (i := 4) (N := some 95) #[true, true, true, true, true, false, false, false] rfl rfl (one_of HT_.out (by kernel_rfl)) (by decide) (fun K hK => ?_)
                                              refine Kd.R_lit_step k24 _ 24 ?hg (N := 95) ?hd (xs := ([(⟨a1_0, nm⟩ : S24)] : List (S24))) (inner := [.string a1_0, .string nm]) (ok := fun _ => True) (okp := fun _ => True) ?hr ?hp (fun _ hk => hk) trivial (Below.refl _ _) (Nat.le_refl _) (by simp) ?_; (case hd => rfl); (case hg => rfl); (case hr => first | (go_simp; done) | (go_simp; rfl)); (case hp => exact (Reps.c2 (show Kd.M k24 _ _ _ (⟨a1_0, nm⟩ : S24) [.string a1_0, .string nm] from (k24_mkM _ _ _ (⟨a1_0, nm⟩ : S24) )) (Reps.none _ _)))
                                              intro v163 w80 ho81 hb hg_ hnew_
                                              clear hg_ hnew_
                                              (first | rw [← Ny162.out] at ho81 | (simp only [Int.reduceToNat] at ho81; rw [← Ny162.out] at ho81))
                                              have n0_ := Aside0.mk (Kd.R_elder' (by (with_reducible repeat (first | apply Kd.R_alloc | apply Kd.R_drewN | apply Kd.R_drew)); exact HO161.out) (Kd.R_base ho81) hb)
                                              have n1_ := Aside0.mk (Kd.R_lower (Kd.R_newB (Kd.R_new' ho81 (Kd.R_lt (by (with_reducible repeat (first | apply Kd.R_alloc | apply Kd.R_drewN | apply Kd.R_drew)); exact HO161.out))) (g := gb136) (o := .cells #[.string a1_0, .string nm] 24 (0, 0)) (by (with_reducible repeat (first | refine blk_drewN ?_ _ | refine blk_drew ?_ | refine blk_alloc ?_ _)); exact BK136.out)) (below_size (by repeat (first | (with_reducible first | exact HB.out | apply below_alloc | apply pw_below_drewN | apply below_drew1 | refine below_set ?_ GE136.out) | exact HB.out))))
                                              have n2_ := Aside0.mk (blk_below (g := gb136) (o := .cells #[.string a1_0, .string nm] 24 (0, 0)) (by (with_reducible repeat (first | refine blk_drewN ?_ _ | refine blk_drew ?_ | refine blk_alloc ?_ _)); exact BK136.out) hb)
                                              have n3_ := Aside0.mk (below_step (by repeat (first | (with_reducible first | exact HB.out | apply below_alloc | apply pw_below_drewN | apply below_drew1 | refine below_set ?_ GE136.out) | exact HB.out)) hb)
                                              clear HO161
                                              clear BK136
                                              clear HB
                                              have HO161 := n0_
                                              have HO164 := n1_
                                              have BK136 := n2_
                                              have HB := n3_
                                              clear n0_ n1_ n2_ n3_
                                              clear hb ho81
                                              refine hK.out _ _ ⟨(blk_cell BK136.out 0).trans rfl, (blk_cell BK136.out 1).trans rfl⟩ (fun hHeld => ?_)
                                              clear hK K
                                              refine norm_ (a' := ?_) ?_ ?_
                                              rotate_left
                                              · show Act.put _ (some 95) _ = _
                                                simp only [Act.put, List.setIfInBounds_toArray, List.set_cons_zero, List.set_cons_succ, i64_w, i32_w]
                                                rfl
                                              exact norm_ (by simp only [putAll, Act.put, List.setIfInBounds_toArray, List.set_cons_zero, List.set_cons_succ]) (hCont (v157, v160, v163) _ ⟨hHeld, (by (with_reducible repeat (first | apply Kd.R_alloc | apply Kd.R_drewN | apply Kd.R_drew)); exact Kd.R_mono HO161.out (fun _ hk => ⟨hk.2, hk.1⟩)), (by (with_reducible repeat (first | apply Kd.R_alloc | apply Kd.R_drewN | apply Kd.R_drew)); exact Kd.R_mono HO164.out (fun _ hk => ⟨hk.1.2, hk.2⟩)), (by (with_reducible repeat (first | refine blk_drewN ?_ _ | refine blk_drew ?_ | refine blk_alloc ?_ _)); exact BK136.out), (by repeat (first | (with_reducible first | exact HB.out | apply below_alloc | apply pw_below_drewN | apply below_drew1 | refine below_set ?_ GE136.out) | exact HB.out))⟩)
                                            · skip
                                              refine Kd.R_lit_step k24 _ 24 ?hg (N := 95) ?hd (xs := ([(⟨a1_0, nm⟩ : S24)] : List (S24))) (inner := [.string a1_0, .string nm]) (ok := fun _ => True) (okp := fun _ => True) ?hr ?hp (fun _ hk => hk) trivial (Below.refl _ _) (Nat.le_refl _) (by simp) ?_; (case hd => rfl); (case hg => rfl); (case hr => first | (go_simp; done) | (go_simp; rfl)); (case hp => exact (Reps.c2 (show Kd.M k24 _ _ _ (⟨a1_0, nm⟩ : S24) [.string a1_0, .string nm] from (k24_mkM _ _ _ (⟨a1_0, nm⟩ : S24) )) (Reps.none _ _)))
                                              intro v163 w79 ho80 hb hg_ hnew_
                                              clear hg_ hnew_
                                              (first | rw [← Ny162.out] at ho80 | (simp only [Int.reduceToNat] at ho80; rw [← Ny162.out] at ho80))
                                              have n0_ := Aside0.mk (Kd.R_elder' (by (with_reducible repeat (first | apply Kd.R_alloc | apply Kd.R_drewN | apply Kd.R_drew)); exact HO158.out) (Kd.R_base ho80) hb)
                                              have n1_ := Aside0.mk (Kd.R_lower (Kd.R_newB (Kd.R_new' ho80 (Kd.R_lt (by (with_reducible repeat (first | apply Kd.R_alloc | apply Kd.R_drewN | apply Kd.R_drew)); exact HO158.out))) (g := gb136) (o := .cells #[.string a1_0, .string nm] 24 (0, 0)) (by (with_reducible repeat (first | refine blk_drewN ?_ _ | refine blk_drew ?_ | refine blk_alloc ?_ _)); exact BK136.out)) (below_size (by repeat (first | (with_reducible first | exact HB.out | apply below_alloc | apply pw_below_drewN | apply below_drew1 | refine below_set ?_ GE136.out) | exact HB.out))))
                                              have n2_ := Aside0.mk (blk_below (g := gb136) (o := .cells #[.string a1_0, .string nm] 24 (0, 0)) (by (with_reducible repeat (first | refine blk_drewN ?_ _ | refine blk_drew ?_ | refine blk_alloc ?_ _)); exact BK136.out) hb)
                                              have n3_ := Aside0.mk (below_step (by repeat (first | (with_reducible first | exact HB.out | apply below_alloc | apply pw_below_drewN | apply below_drew1 | refine below_set ?_ GE136.out) | exact HB.out)) hb)
                                              clear HO158
                                              clear BK136
                                              clear HB
                                              have HO158 := n0_
                                              have HO164 := n1_
                                              have BK136 := n2_
                                              have HB := n3_
                                              clear n0_ n1_ n2_ n3_
                                              clear hb ho80
                                              refine hK.out _ _ ⟨(blk_cell BK136.out 0).trans rfl, (blk_cell BK136.out 1).trans rfl⟩ (fun hHeld => ?_)
                                              clear hK K
                                              refine norm_ (a' := ?_) ?_ ?_
                                              rotate_left
                                              · show Act.put _ (some 95) _ = _
                                                simp only [Act.put, List.setIfInBounds_toArray, List.set_cons_zero, List.set_cons_succ, i64_w, i32_w]
                                                rfl
                                              refine one_ (i := 2) (N := some 93) #[true, true, true, true, true, false, false, false] rfl rfl (one_of HT_.out (by kernel_rfl)) (by decide) (fun K hK => ?_)
                                              refine Kd.R_append_rows_step k24 (w0 := w) w.heap.size (by rfl) (.tmp 91) (.tmp 92) 25 24 (.agg #[(.string ⟨#[]⟩), (.string ⟨#[]⟩)]) 32 rfl Tryd.underlying25 info24 rfl (by decide) (by omega) v157 y156 l0 _ _ _ (fun k_ => some k_ ≠ (v163 : Value).ownBlock ∧ k_ ≠ gb136) (fun _ => False) rfl rfl ?aO ?aR (fun _ _ h => h) (fun _ h => h.elim) ?aF ?aB ?aS ?aL ?_
                                              (case aR => repeat (first | exact (Kd.C_below HR0.out HB.out) | (with_reducible refine Kd.C_alloc ?_ _) | (with_reducible refine Kd.C_drewN ?_ _) | (with_reducible refine Kd.C_drew ?_)))
                                              (case aB => exact (by repeat (first | (with_reducible first | exact HB.out | apply below_alloc | apply pw_below_drewN | apply below_drew1 | refine below_set ?_ GE136.out) | exact HB.out)))
                                              (case aF => exact (fun k_ hk => ⟨Kd.fresh' (Kd.R_lt (by (with_reducible repeat (first | apply Kd.R_alloc | apply Kd.R_drewN | apply Kd.R_drew)); exact HO164.out)) k_ hk, Kd.freshB (g := gb136) (o := .cells #[.string a1_0, .string nm] 24 (0, 0)) (by (with_reducible repeat (first | refine blk_drewN ?_ _ | refine blk_drew ?_ | refine blk_alloc ?_ _)); exact BK136.out) k_ hk⟩))
                                              (case aO => exact (by (with_reducible repeat (first | apply Kd.R_alloc | apply Kd.R_drewN | apply Kd.R_drew)); exact Kd.R_mono HO158.out (fun _ hk => ⟨hk.2, hk.1.2⟩)))
                                              (case aS => exact (below_size (by repeat (first | (with_reducible first | exact HB.out | apply below_alloc | apply pw_below_drewN | apply below_drew1 | refine below_set ?_ GE136.out) | exact HB.out))))
                                              (case aL => have := LMc52.out; omega)
                                              intro v160 w81 ho hb hg hat
                                              rw [← Ny159.out] at ho
                                              have n0_ := Aside0.mk (blk_grown (g := gb136) (o := .cells #[.string a1_0, .string nm] 24 (0, 0)) (by (with_reducible repeat (first | refine blk_drewN ?_ _ | refine blk_drew ?_ | refine blk_alloc ?_ _)); exact BK136.out) hg (Kd.R_away HO158.out (fun _ hk => hk.1.2)))
                                              have n1_ := Aside0.mk (Kd.R_after (ok := (fun k_ => k_ ≠ gb136)) (by (with_reducible repeat (first | apply Kd.R_alloc | apply Kd.R_drewN | apply Kd.R_drew)); exact Kd.R_mono HO164.out (fun _ hk => ⟨hk.2, hk.1.2⟩)) hg hat)
                                              have n2_ := Aside0.mk (hb)
                                              have n3_ := Aside0.mk (ho)
                                              clear BK136
                                              clear HO164
                                              clear HB
                                              clear HO158
                                              have BK136 := n0_
                                              have HO164 := n1_
                                              have HB := n2_
                                              have HO161 := n3_
                                              clear n0_ n1_ n2_ n3_
                                              clear ho hb hg hat
                                              refine hK.out _ _ ⟨(blk_cell BK136.out 0).trans rfl, (blk_cell BK136.out 1).trans rfl⟩ (fun hHeld => ?_)
                                              clear hK K
                                              refine norm_ (a' := ?_) ?_ ?_
                                              rotate_left
                                              · show Act.put _ (some 93) _ = _
                                                simp only [Act.put, List.setIfInBounds_toArray, List.set_cons_zero, List.set_cons_succ, i64_w, i32_w]
                                                rfl
                                              exact norm_ (by simp only [putAll, Act.put, List.setIfInBounds_toArray, List.set_cons_zero, List.set_cons_succ]) (hCont (v157, v160, v163) _ ⟨hHeld, (by (with_reducible repeat (first | apply Kd.R_alloc | apply Kd.R_drewN | apply Kd.R_drew)); exact HO161.out), (by (with_reducible repeat (first | apply Kd.R_alloc | apply Kd.R_drewN | apply Kd.R_drew)); exact Kd.R_mono HO164.out (fun _ hk => ⟨hk.2, hk.1⟩)), (by (with_reducible repeat (first | refine blk_drewN ?_ _ | refine blk_drew ?_ | refine blk_alloc ?_ _)); exact BK136.out), (by repeat (first | (with_reducible first | exact HB.out | apply below_alloc | apply pw_below_drewN | apply below_drew1 | refine below_set ?_ GE136.out) | exact HB.out))⟩)
                                          · skip
                                            refine Kd.R_lit_step k24 _ 24 ?hg (N := 95) ?hd (xs := ([(⟨a1_0, nm⟩ : S24)] : List (S24))) (inner := [.string a1_0, .string nm]) (ok := fun _ => True) (okp := fun _ => True) ?hr ?hp (fun _ hk => hk) trivial (Below.refl _ _) (Nat.le_refl _) (by simp) ?_; (case hd => rfl); (case hg => rfl); (case hr => first | (go_simp; done) | (go_simp; rfl)); (case hp => exact (Reps.c2 (show Kd.M k24 _ _ _ (⟨a1_0, nm⟩ : S24) [.string a1_0, .string nm] from (k24_mkM _ _ _ (⟨a1_0, nm⟩ : S24) )) (Reps.none _ _)))
                                            intro v163 w77 ho78 hb hg_ hnew_
                                            clear hg_ hnew_
                                            (first | rw [← Ny162.out] at ho78 | (simp only [Int.reduceToNat] at ho78; rw [← Ny162.out] at ho78))
                                            have n0_ := Aside0.mk (Kd.R_lower (Kd.R_newB ho78 (g := gb136) (o := .cells #[.string a1_0, .string nm] 24 (0, 0)) (by (with_reducible repeat (first | refine blk_drewN ?_ _ | refine blk_drew ?_ | refine blk_alloc ?_ _)); exact BK136.out)) (below_size (by repeat (first | (with_reducible first | exact HB.out | apply below_alloc | apply pw_below_drewN | apply below_drew1 | refine below_set ?_ GE136.out) | exact HB.out))))
                                            have n1_ := Aside0.mk (blk_below (g := gb136) (o := .cells #[.string a1_0, .string nm] 24 (0, 0)) (by (with_reducible repeat (first | refine blk_drewN ?_ _ | refine blk_drew ?_ | refine blk_alloc ?_ _)); exact BK136.out) hb)
                                            have n2_ := Aside0.mk (below_step (by repeat (first | (with_reducible first | exact HB.out | apply below_alloc | apply pw_below_drewN | apply below_drew1 | refine below_set ?_ GE136.out) | exact HB.out)) hb)
                                            clear BK136
                                            clear HB
                                            have HO164 := n0_
                                            have BK136 := n1_
                                            have HB := n2_
                                            clear n0_ n1_ n2_
                                            clear hb ho78
                                            refine hK.out _ _ ⟨(blk_cell BK136.out 0).trans rfl, (blk_cell BK136.out 1).trans rfl⟩ (fun hHeld => ?_)
                                            clear hK K
                                            refine norm_ (a' := ?_) ?_ ?_
                                            rotate_left
                                            · show Act.put _ (some 95) _ = _
                                              simp only [Act.put, List.setIfInBounds_toArray, List.set_cons_zero, List.set_cons_succ, i64_w, i32_w]
                                              rfl
                                            refine one_ (i := 0) (N := some 91) #[true, true, false, true, true, false, false, false] rfl rfl (one_of HT_.out (by kernel_rfl)) (by decide) (fun K hK => ?_)
                                            refine Kd.R_lit_step k24 _ 24 ?hg (N := 91) ?hd (xs := ([] : List (S24))) (inner := []) (ok := fun _ => True) (okp := fun _ => True) ?hr ?hp (fun _ hk => hk) trivial (Below.refl _ _) (Nat.le_refl _) (by simp) ?_; (case hd => rfl); (case hg => rfl); (case hr => first | (go_simp; done) | (go_simp; rfl)); (case hp => exact (Reps.none _ _))
                                            intro v157 w79 ho80 hb hg_ hnew_
                                            clear hg_ hnew_
                                            (first | rw [← Ny156.out] at ho80 | (simp only [Int.reduceToNat] at ho80; rw [← Ny156.out] at ho80))
                                            have n0_ := Aside0.mk (Kd.R_elder' (by (with_reducible repeat (first | apply Kd.R_alloc | apply Kd.R_drewN | apply Kd.R_drew)); exact HO164.out) (Kd.R_base ho80) hb)
                                            have n1_ := Aside0.mk (Kd.R_lower (Kd.R_newB (Kd.R_new' ho80 (Kd.R_lt (by (with_reducible repeat (first | apply Kd.R_alloc | apply Kd.R_drewN | apply Kd.R_drew)); exact HO164.out))) (g := gb136) (o := .cells #[.string a1_0, .string nm] 24 (0, 0)) (by (with_reducible repeat (first | refine blk_drewN ?_ _ | refine blk_drew ?_ | refine blk_alloc ?_ _)); exact BK136.out)) (below_size (by repeat (first | (with_reducible first | exact HB.out | apply below_alloc | apply pw_below_drewN | apply below_drew1 | refine below_set ?_ GE136.out) | exact HB.out))))
                                            have n2_ := Aside0.mk (blk_below (g := gb136) (o := .cells #[.string a1_0, .string nm] 24 (0, 0)) (by (with_reducible repeat (first | refine blk_drewN ?_ _ | refine blk_drew ?_ | refine blk_alloc ?_ _)); exact BK136.out) hb)
                                            have n3_ := Aside0.mk (below_step (by repeat (first | (with_reducible first | exact HB.out | apply below_alloc | apply pw_below_drewN | apply below_drew1 | refine below_set ?_ GE136.out) | exact HB.out)) hb)
                                            clear HO164
                                            clear BK136
                                            clear HB
                                            have HO164 := n0_
                                            have HO158 := n1_
                                            have BK136 := n2_
                                            have HB := n3_
                                            clear n0_ n1_ n2_ n3_
                                            clear hb ho80
                                            refine hK.out _ _ ⟨(blk_cell BK136.out 0).trans rfl, (blk_cell BK136.out 1).trans rfl⟩ (fun hHeld => ?_)
                                            clear hK K
                                            refine norm_ (a' := ?_) ?_ ?_
                                            rotate_left
                                            · show Act.put _ (some 91) _ = _
                                              simp only [Act.put, List.setIfInBounds_toArray, List.set_cons_zero, List.set_cons_succ, i64_w, i32_w]
                                              rfl
                                            refine one_ (i := 2) (N := some 93) #[true, true, true, true, true, false, false, false] rfl rfl (one_of HT_.out (by kernel_rfl)) (by decide) (fun K hK => ?_)
                                            refine Kd.R_append_rows_step k24 (w0 := w) w.heap.size (by rfl) (.tmp 91) (.tmp 92) 25 24 (.agg #[(.string ⟨#[]⟩), (.string ⟨#[]⟩)]) 32 rfl Tryd.underlying25 info24 rfl (by decide) (by omega) v157 y156 l0 _ _ _ (fun k_ => some k_ ≠ (v163 : Value).ownBlock ∧ k_ ≠ gb136) (fun _ => False) rfl rfl ?aO ?aR (fun _ _ h => h) (fun _ h => h.elim) ?aF ?aB ?aS ?aL ?_
                                            (case aR => repeat (first | exact (Kd.C_below HR0.out HB.out) | (with_reducible refine Kd.C_alloc ?_ _) | (with_reducible refine Kd.C_drewN ?_ _) | (with_reducible refine Kd.C_drew ?_)))
                                            (case aB => exact (by repeat (first | (with_reducible first | exact HB.out | apply below_alloc | apply pw_below_drewN | apply below_drew1 | refine below_set ?_ GE136.out) | exact HB.out)))
                                            (case aF => exact (fun k_ hk => ⟨Kd.fresh' (Kd.R_lt (by (with_reducible repeat (first | apply Kd.R_alloc | apply Kd.R_drewN | apply Kd.R_drew)); exact HO164.out)) k_ hk, Kd.freshB (g := gb136) (o := .cells #[.string a1_0, .string nm] 24 (0, 0)) (by (with_reducible repeat (first | refine blk_drewN ?_ _ | refine blk_drew ?_ | refine blk_alloc ?_ _)); exact BK136.out) k_ hk⟩))
                                            (case aO => exact (by (with_reducible repeat (first | apply Kd.R_alloc | apply Kd.R_drewN | apply Kd.R_drew)); exact Kd.R_mono HO158.out (fun _ hk => ⟨hk.1.2, hk.2⟩)))
                                            (case aS => exact (below_size (by repeat (first | (with_reducible first | exact HB.out | apply below_alloc | apply pw_below_drewN | apply below_drew1 | refine below_set ?_ GE136.out) | exact HB.out))))
                                            (case aL => have := LMc52.out; omega)
                                            intro v160 w81 ho hb hg hat
                                            rw [← Ny159.out] at ho
                                            have n0_ := Aside0.mk (blk_grown (g := gb136) (o := .cells #[.string a1_0, .string nm] 24 (0, 0)) (by (with_reducible repeat (first | refine blk_drewN ?_ _ | refine blk_drew ?_ | refine blk_alloc ?_ _)); exact BK136.out) hg (Kd.R_away HO158.out (fun _ hk => hk.2)))
                                            have n1_ := Aside0.mk (Kd.R_after (ok := (fun k_ => k_ ≠ gb136)) (by (with_reducible repeat (first | apply Kd.R_alloc | apply Kd.R_drewN | apply Kd.R_drew)); exact Kd.R_mono HO164.out (fun _ hk => ⟨hk.1.2, hk.2⟩)) hg hat)
                                            have n2_ := Aside0.mk (hb)
                                            have n3_ := Aside0.mk (ho)
                                            clear BK136
                                            clear HO164
                                            clear HB
                                            clear HO158
                                            have BK136 := n0_
                                            have HO164 := n1_
                                            have HB := n2_
                                            have HO161 := n3_
                                            clear n0_ n1_ n2_ n3_
                                            clear ho hb hg hat
                                            refine hK.out _ _ ⟨(blk_cell BK136.out 0).trans rfl, (blk_cell BK136.out 1).trans rfl⟩ (fun hHeld => ?_)
                                            clear hK K
                                            refine norm_ (a' := ?_) ?_ ?_
                                            rotate_left
                                            · show Act.put _ (some 93) _ = _
                                              simp only [Act.put, List.setIfInBounds_toArray, List.set_cons_zero, List.set_cons_succ, i64_w, i32_w]
                                              rfl
                                            exact norm_ (by simp only [putAll, Act.put, List.setIfInBounds_toArray, List.set_cons_zero, List.set_cons_succ]) (hCont (v157, v160, v163) _ ⟨hHeld, (by (with_reducible repeat (first | apply Kd.R_alloc | apply Kd.R_drewN | apply Kd.R_drew)); exact HO161.out), (by (with_reducible repeat (first | apply Kd.R_alloc | apply Kd.R_drewN | apply Kd.R_drew)); exact Kd.R_mono HO164.out (fun _ hk => ⟨hk.2, hk.1⟩)), (by (with_reducible repeat (first | refine blk_drewN ?_ _ | refine blk_drew ?_ | refine blk_alloc ?_ _)); exact BK136.out), (by repeat (first | (with_reducible first | exact HB.out | apply below_alloc | apply pw_below_drewN | apply below_drew1 | refine below_set ?_ GE136.out) | exact HB.out))⟩)
                                        rintro ⟨v157, v160, v163⟩ w82 ⟨hS_, h0_, h1_, h2_, h3_⟩
                                        have n0_ : Aside0 (Kd.R k24 24 w82 w.heap.size (fun k_ => some k_ ≠ (v163 : Value).ownBlock ∧ k_ ≠ gb136) v160 y159) := ⟨h0_⟩
                                        have n1_ : Aside0 (Kd.R k24 24 w82 w.heap.size (fun k_ => some k_ ≠ (v160 : Value).ownBlock ∧ k_ ≠ gb136) v163 y162) := ⟨h1_⟩
                                        have n2_ : Aside0 (w82.heap[gb136]? = some (.cells #[.string a1_0, .string nm] 24 (0, 0))) := ⟨h2_⟩
                                        have n3_ : Aside0 (Below w.heap.size w w82) := ⟨h3_⟩
                                        clear BK136
                                        clear HB
                                        clear h0_ h1_ h2_ h3_
                                        have HO161 := n0_
                                        have HO164 := n1_
                                        have BK136 := n2_
                                        have HB := n3_
                                        clear n0_ n1_ n2_ n3_
                                        have hHeld : w82.cell? ⟨gb136, 0, none⟩ = some (.string a1_0) ∧ w82.cell? ⟨gb136, 1, none⟩ = some (.string nm) := hS_
                                        obtain ⟨Ao84, co84, eo84⟩ := Kd.R_slice HO164.out
                                        (first | subst eo84 | (injection eo84 with f1_ f2_ f3_; have f4_ := f1_.symm; have f5_ := f3_.symm; clear f1_ f2_ f3_; subst f4_; subst f5_))
                                        refine norm_ (a' := ?_) ?_ ?_
                                        rotate_left
                                        · simp only [putAll, Act.put, List.setIfInBounds_toArray, List.set_cons_zero, List.set_cons_succ]
                                          rfl
                                        refine one_ (i := 5) (N := some 96) #[true, true, true, true, true, true, false, false] rfl rfl (one_of HT_.out (by kernel_rfl)) (by decide) (fun K hK => ?_)
                                        refine Kd.R_append_rows_step k24 (w0 := w) w.heap.size (by rfl) (.tmp 93) (.tmp 95) 25 24 (.agg #[(.string ⟨#[]⟩), (.string ⟨#[]⟩)]) 32 rfl Tryd.underlying25 info24 rfl (by decide) (by omega) v160 y159 y162 _ _ _ (fun k_ => some k_ ≠ (.slice Ao84 y162.length co84 : Value).ownBlock ∧ k_ ≠ gb136) (fun _ => False) rfl rfl ?aO ?aR (fun _ _ h => h) (fun _ h => h.elim) ?aF ?aB ?aS ?aL ?_
                                        (case aR => repeat (first | exact (Kd.R_reads' HO164.out).2.2 | (with_reducible refine Kd.C_alloc ?_ _) | (with_reducible refine Kd.C_drewN ?_ _) | (with_reducible refine Kd.C_drew ?_)))
                                        (case aB => exact (by repeat (first | (with_reducible first | exact HB.out | apply below_alloc | apply pw_below_drewN | apply below_drew1 | refine below_set ?_ GE136.out) | exact HB.out)))
                                        (case aF => exact (fun k_ hk => ⟨Kd.fresh' (Kd.R_lt (by (with_reducible repeat (first | apply Kd.R_alloc | apply Kd.R_drewN | apply Kd.R_drew)); exact HO164.out)) k_ hk, Kd.freshB (g := gb136) (o := .cells #[.string a1_0, .string nm] 24 (0, 0)) (by (with_reducible repeat (first | refine blk_drewN ?_ _ | refine blk_drew ?_ | refine blk_alloc ?_ _)); exact BK136.out) k_ hk⟩))
                                        (case aO => exact (by (with_reducible repeat (first | apply Kd.R_alloc | apply Kd.R_drewN | apply Kd.R_drew)); exact HO161.out))
                                        (case aS => exact (below_size (by repeat (first | (with_reducible first | exact HB.out | apply below_alloc | apply pw_below_drewN | apply below_drew1 | refine below_set ?_ GE136.out) | exact HB.out))))
                                        (case aL => have := LMc53.out; omega)
                                        intro v166 w83 ho hb hg hat
                                        rw [← Ny165.out] at ho
                                        have n0_ := Aside0.mk (blk_grown (g := gb136) (o := .cells #[.string a1_0, .string nm] 24 (0, 0)) (by (with_reducible repeat (first | refine blk_drewN ?_ _ | refine blk_drew ?_ | refine blk_alloc ?_ _)); exact BK136.out) hg (Kd.R_away HO161.out (fun _ hk => hk.2)))
                                        have n1_ := Aside0.mk (Kd.R_after (ok := (fun k_ => k_ ≠ gb136)) (by (with_reducible repeat (first | apply Kd.R_alloc | apply Kd.R_drewN | apply Kd.R_drew)); exact Kd.R_mono HO164.out (fun _ hk => ⟨hk.2, hk.1⟩)) hg hat)
                                        have n2_ := Aside0.mk (hb)
                                        have n3_ := Aside0.mk (ho)
                                        clear BK136
                                        clear HO164
                                        clear HB
                                        clear HO161
                                        have BK136 := n0_
                                        have HO164 := n1_
                                        have HB := n2_
                                        have HO167 := n3_
                                        clear n0_ n1_ n2_ n3_
                                        clear ho hb hg hat
                                        obtain ⟨Ao85, co85, eo85⟩ := Kd.R_slice HO167.out
                                        (first | subst eo85 | (injection eo85 with f1_ f2_ f3_; have f4_ := f1_.symm; have f5_ := f3_.symm; clear f1_ f2_ f3_; subst f4_; subst f5_))
                                        refine hK.out _ _ ⟨(blk_cell BK136.out 0).trans rfl, (blk_cell BK136.out 1).trans rfl⟩ (fun hHeld => ?_)
                                        clear hK K
                                        refine norm_ (a' := ?_) ?_ ?_
                                        rotate_left
                                        · show Act.put _ (some 96) _ = _
                                          simp only [Act.put, List.setIfInBounds_toArray, List.set_cons_zero, List.set_cons_succ, i64_w, i32_w]
                                          rfl
                                        refine one_ (i := 6) (N := some 97) #[true, true, true, true, true, true, true, false] rfl rfl (one_of HT_.out (by kernel_rfl)) (by decide) (fun K hK => ?_)
                                        refine goes_ Tryd.func12 (by kernel_rfl) rfl #[.slice Ao85 y165.length co85] (by rfl) rfl rfl (by (try simp only [List.map_toArray, List.map_cons, List.map_nil]); first | done | rfl | (simp only [List.length_drop, List.length_take]; rfl)) ?_
                                        with_reducible refine (headers_Check.calls k3 _ _ y165 t168 _ ?side1 ?side2 A54.out).mono ?_
                                        (case side1 => repeat (first | exact (Kd.R_reads' HO167.out).2.2 | (with_reducible refine Kd.C_alloc ?_ _) | (with_reducible refine Kd.C_drewN ?_ _) | (with_reducible refine Kd.C_drew ?_)))
                                        (case side2 => exact (Kd.R_reads' HO167.out).2.1)
                                        rintro e w86 ⟨rfl, hb⟩
                                        refine ⟨_, rfl, ?_⟩
                                        have n0_ := Aside0.mk (Kd.R_below (by (with_reducible repeat (first | apply Kd.R_alloc | apply Kd.R_drewN | apply Kd.R_drew)); exact HO164.out) hb)
                                        have n1_ := Aside0.mk (Kd.R_below (by (with_reducible repeat (first | apply Kd.R_alloc | apply Kd.R_drewN | apply Kd.R_drew)); exact HO167.out) hb)
                                        have n2_ := Aside0.mk (blk_below (g := gb136) (o := .cells #[.string a1_0, .string nm] 24 (0, 0)) (by (with_reducible repeat (first | refine blk_drewN ?_ _ | refine blk_drew ?_ | refine blk_alloc ?_ _)); exact BK136.out) hb)
                                        have n3_ := Aside0.mk (below_step (by repeat (first | (with_reducible first | exact HB.out | apply below_alloc | apply pw_below_drewN | apply below_drew1 | refine below_set ?_ GE136.out) | exact HB.out)) hb)
                                        clear HO164
                                        clear HO167
                                        clear BK136
                                        clear HB
                                        have HO164 := n0_
                                        have HO167 := n1_
                                        have BK136 := n2_
                                        have HB := n3_
                                        clear n0_ n1_ n2_ n3_
                                        (try clear hb)
                                        (try clear hb2)
                                        (try clear hk)
                                        (try clear hi)
                                        refine hK.out _ _ ⟨(blk_cell BK136.out 0).trans rfl, (blk_cell BK136.out 1).trans rfl⟩ (fun hHeld => ?_)
                                        clear hK K
                                        refine norm_ (a' := ?_) ?_ ?_
                                        rotate_left
                                        · show Act.put _ (some 97) _ = _
                                          simp only [Act.put, List.setIfInBounds_toArray, List.set_cons_zero, List.set_cons_succ, i64_w, i32_w]
                                          rfl
                                        refine pure_ (i := 7) (N := some 12) (v := ?_) (a' := ?_) #[true, true, true, true, true, true, true, true] rfl rfl (any_of HT_.out (by kernel_rfl)) (fun _ _ _ h => h) (Or.inl ⟨by rfl, ?_⟩) ?_ ?_
                                        rotate_left
                                        · intro w'
                                          go_simp
                                          with_reducible rfl
                                        rotate_left
                                        · simp only [Act.put, List.setIfInBounds_toArray, List.set_cons_zero, List.set_cons_succ, i64_w, i32_w]
                                          rfl
                                        refine done_ (done_of HT_.out (by kernel_rfl)) ?_
                                        have q87 : (1 : Int) ≤ ((l0.length : Int) : Int) := of_decide_eq_true (by first | (with_reducible assumption) | assumption)
                                        obtain ⟨i087, hi087, _, hsz87, _⟩ := info_parts info24
                                        have hroom87 : l0.length ≤ c0 := HC0.out
                                        have hC87 : Kd.C k24 _ A0 l0.length l0 := HR0.out
                                        have hcut87 := cut_from (P := Tryd.prog) 25 24 .i64 Tryd.underlying25 hi087 2 hsz87 A0 l0.length c0 1 (by omega) q87
                                        have hr87 := Kd.C_drop (m := (1 : Int).toNat) (c := c0) hC87 (by omega) hroom87
                                        obtain ⟨A87, hA87⟩ : ∃ A1, A1 = (if c0 = (1 : Int).toNat then A0 else (A0 : Option Addr).map (·.add ((1 : Int).toNat * 2))) := ⟨_, rfl⟩
                                        obtain ⟨c87, hc87⟩ : ∃ c1, c1 = c0 - (1 : Int).toNat := ⟨_, rfl⟩
                                        have hy87 : y169.length = l0.length - (1 : Int).toNat := (by rw [Ny169.out, List.length_drop] <;> omega)
                                        rw [show (l0).drop (1 : Int).toNat = y169 from Ny169.out.symm] at hr87
                                        replace hr87 : Kd.C k24 _ A87 y169.length y169 := (by rw [hA87]; exact hr87)
                                        rw [← hy87, ← hA87, ← hc87] at hcut87
                                        have HR172 := Aside0.mk hr87
                                        have HC172 := Aside0.mk (show y169.length ≤ c87 from by rw [hy87, hc87]; exact Nat.sub_le_sub_right hroom87 _)
                                        clear hr87 hC87 hroom87 hi087 hsz87 hc87
                                        have KY87 := Aside0.mk hy87
                                        have KA87 := Aside0.mk hA87
                                        clear hy87 hA87
                                        replace q87 := eq_true q87
                                        try go_wp2_with (first | ((with_reducible refine gate_callee (f := 12) rfl ?_); refine goesL_ (some 103) rfl rfl Tryd.func12 (by kernel_rfl) rfl #[.slice A87 y169.length c87] rfl (by (try simp only [List.map_toArray, List.map_cons, List.map_nil]); first | done | rfl | (simp only [List.length_drop, List.length_take]; rfl)) ?_; (with_reducible refine (headers_Check.calls k3 _ _ y169 t173 _ ?side1 ?side2 A57.out).mono ?_); (case side1 => repeat (first | exact (Kd.C_below HR172.out HB.out) | (with_reducible refine Kd.C_alloc ?_ _) | (with_reducible refine Kd.C_drewN ?_ _) | (with_reducible refine Kd.C_drew ?_))); (case side2 => exact HC172.out); rintro e w88 ⟨rfl, hb⟩; refine ⟨_, rfl, ?_⟩; have n0_ := Aside0.mk (Kd.R_below (by (with_reducible repeat (first | apply Kd.R_alloc | apply Kd.R_drewN | apply Kd.R_drew)); exact HO164.out) hb); have n1_ := Aside0.mk (Kd.R_below (by (with_reducible repeat (first | apply Kd.R_alloc | apply Kd.R_drewN | apply Kd.R_drew)); exact HO167.out) hb); have n2_ := Aside0.mk (blk_below (g := gb136) (o := .cells #[.string a1_0, .string nm] 24 (0, 0)) (by (with_reducible repeat (first | refine blk_drewN ?_ _ | refine blk_drew ?_ | refine blk_alloc ?_ _)); exact BK136.out) hb); have n3_ := Aside0.mk (below_step (by repeat (first | (with_reducible first | exact HB.out | apply below_alloc | apply pw_below_drewN | apply below_drew1 | refine below_set ?_ GE136.out) | exact HB.out)) hb); clear HO164; clear HO167; clear BK136; clear HB; have HO164 := n0_; have HO167 := n1_; have BK136 := n2_; have HB := n3_; clear n0_ n1_ n2_ n3_; (try clear hb); (try clear hb2); (try clear hk); (try clear hi)))
                                        go_ret
                                        exact ⟨by first | rfl | (simp [errW_none, errW_some] <;> rfl) | (simp [*, errW_none, errW_some] <;> rfl) | (simp [q_ne_nil]; done), by repeat (first | (with_reducible first | exact HB.out | apply below_alloc | apply pw_below_drewN | apply below_drew1 | refine below_set ?_ GE136.out) | exact HB.out)⟩
                                    · exact absurd H (by rw [if_neg c59]; simp)
                                  · exact absurd H (by rw [if_neg c58]; simp)
                                · exact absurd H (by rw [if_neg c56]; simp)
                              · rw [if_neg c55] at H
                                have c55b0 : decide (0 < (l0.length : Int)) = false := decide_eq_false c55
                                have c55b1 : decide (0 < l0.length) = false := decide_eq_false (by omega)
                                clear c55
                                by_cases c117 : t137 = true
                                · subst c117
                                  have H1 : (if 0 = 0 then (if t155 = true then (some ((t168 == 0) == (!x9_3))) else (some ((t168 == 0) == false))) else (none)) = some r := by rw [if_pos rfl] at H; exact H
                                  clear H
                                  have H := H1
                                  clear H1
                                  by_cases c118 : 0 = 0
                                  · rw [if_pos c118] at H
                                    have c118b0 : (0 == 0) = true := beq_iff_eq.mpr c118
                                    have c118b1 : (0 != 0) = false := bne_eq_false_iff_eq.mpr c118
                                    clear c118
                                    by_cases c119 : t155 = true
                                    · subst c119
                                      have H1 : (some ((t168 == 0) == (!x9_3))) = some r := by rw [if_pos rfl] at H; exact H
                                      clear H
                                      have H := H1
                                      clear H1
                                      obtain rfl := Option.some.inj H
                                      have hcz120_0 : wr.cell? ⟨gb136, 0, none⟩ = some (.string a1_0) := (blk_cell BK136.out 0).trans rfl
                                      have hcz120_1 : wr.cell? ⟨gb136, 1, none⟩ = some (.string nm) := (blk_cell BK136.out 1).trans rfl
                                      have hfz120_0 := blk_frozen BK136.out 0
                                      have hfz120_1 := blk_frozen BK136.out 1
                                      try go_wp2_with (first | ((with_reducible refine gate_callee (f := 13) rfl ?_); refine goesL_ (some 90) rfl rfl Tryd.func13 (by kernel_rfl) rfl #[.string a1_0] rfl (by (try simp only [List.map_toArray, List.map_cons, List.map_nil]); first | done | rfl | (simp only [List.length_drop, List.length_take]; rfl)) ?_; (with_reducible refine (octet_Token.calls k3 a1_0 true _ A51.out).mono ?_); rintro e w' ⟨rfl, ⟨nd, rfl⟩⟩; refine ⟨_, rfl, ?_⟩))
                                      (try (rw [drewN_self wr]; generalize hq_ : World.drewN wr _ = wr; have n0_ : Aside0 (wr.heap[gb136]? = some (.cells #[.string a1_0, .string nm] 24 (0, 0))) := ⟨by rw [← hq_]; exact (by (with_reducible repeat (first | refine blk_drewN ?_ _ | refine blk_drew ?_ | refine blk_alloc ?_ _)); exact BK136.out)⟩; have n1_ : Aside0 (Below w.heap.size w wr) := ⟨by rw [← hq_]; exact (by repeat (first | (with_reducible first | exact HB.out | apply below_alloc | apply pw_below_drewN | apply below_drew1 | refine below_set ?_ GE136.out) | exact HB.out))⟩; clear BK136 HB hq_; have BK136 := n0_; have HB := n1_; clear n0_ n1_))
                                      have n0_ := Aside0.mk (blk_drew BK136.out)
                                      have n1_ := Aside0.mk (below_drew1 HB.out)
                                      clear BK136
                                      clear HB
                                      have BK136 := n0_
                                      have HB := n1_
                                      clear n0_ n1_
                                      refine start_ (n := 8) (S := fun w' => w'.cell? ⟨gb136, 0, none⟩ = some (.string a1_0) ∧ w'.cell? ⟨gb136, 1, none⟩ = some (.string nm)) (ds := []) #[false, false, false, false, false, false, false, false] (by kernel_rfl) rfl rfl ⟨(blk_cell BK136.out 0).trans rfl, (blk_cell BK136.out 1).trans rfl⟩ (fun hHeld => ?_); refine with_tabW glacislaw07_HeadersBytes.tab12 glacislaw07_HeadersBytes.bits12 (fun HT_ HW_ => ?_)
                                      generalize wr.drew = w121 at BK136 HB hHeld ⊢
                                      refine pure_ (i := 1) (N := some 92) (v := ?_) (a' := ?_) #[false, true, false, false, false, false, false, false] rfl rfl (any_of HT_.out (by kernel_rfl)) (fun _ _ _ h => h) (Or.inl ⟨by rfl, ?_⟩) ?_ ?_
                                      rotate_left
                                      · intro w'
                                        go_simp
                                        with_reducible rfl
                                      rotate_left
                                      · simp only [Act.put, List.setIfInBounds_toArray, List.set_cons_zero, List.set_cons_succ, i64_w, i32_w]
                                        rfl
                                      refine take_ (i := 3) (N := some 94) (v := ?_) (a' := ?_) #[false, true, false, true, false, false, false, false] rfl rfl (take_ofW HT_.out HW_.out (by kernel_rfl)) (fun _ _ _ h => h) (Or.inl ⟨by rfl, ?_⟩) hHeld ?_ ?_
                                      rotate_left
                                      · rintro w' ⟨s0, s1⟩
                                        go_simp
                                        with_reducible rfl
                                      rotate_left
                                      · simp only [Act.put, List.setIfInBounds_toArray, List.set_cons_zero, List.set_cons_succ, i64_w, i32_w]
                                        rfl
                                      refine join_ (σ := Value × Value × Value) 3 #[true, true, true, true, true, false, false, false] (fun s_ => [(91, s_.1), (93, s_.2.1), (95, s_.2.2)]) (fun s_ w' => (w'.cell? ⟨gb136, 0, none⟩ = some (.string a1_0) ∧ w'.cell? ⟨gb136, 1, none⟩ = some (.string nm)) ∧ (Kd.R k24 24 w' w.heap.size (fun k_ => some k_ ≠ (s_.2.2 : Value).ownBlock ∧ k_ ≠ gb136) s_.2.1 y159) ∧ (Kd.R k24 24 w' w.heap.size (fun k_ => some k_ ≠ (s_.2.1 : Value).ownBlock ∧ k_ ≠ gb136) s_.2.2 y162) ∧ (w'.heap[gb136]? = some (.cells #[.string a1_0, .string nm] 24 (0, 0))) ∧ (Below w.heap.size w w')) ?_ ?_
                                      rotate_left
                                      · intro hCont
                                        refine two_ (i := 0) (j := 4) (Ni := some 91) (Nj := some 95) #[true, true, false, true, false, false, false, false] #[false, true, false, true, true, false, false, false] rfl rfl rfl rfl (two_of HT_.out (by kernel_rfl)) (by decide) (by decide) (fun K hK => ?_) (fun K hK => ?_)
                                        · skip
                                          refine Kd.R_lit_step k24 _ 24 ?hg (N := 91) ?hd (xs := ([] : List (S24))) (inner := []) (ok := fun _ => True) (okp := fun _ => True) ?hr ?hp (fun _ hk => hk) trivial (Below.refl _ _) (Nat.le_refl _) (by simp) ?_; (case hd => rfl); (case hg => rfl); (case hr => first | (go_simp; done) | (go_simp; rfl)); (case hp => exact (Reps.none _ _))
                                          intro v157 w122 ho123 hb hg_ hnew_
                                          clear hg_ hnew_
                                          (first | rw [← Ny156.out] at ho123 | (simp only [Int.reduceToNat] at ho123; rw [← Ny156.out] at ho123))
                                          have n0_ := Aside0.mk (Kd.R_lower (Kd.R_newB ho123 (g := gb136) (o := .cells #[.string a1_0, .string nm] 24 (0, 0)) (by (with_reducible repeat (first | refine blk_drewN ?_ _ | refine blk_drew ?_ | refine blk_alloc ?_ _)); exact BK136.out)) (below_size (by repeat (first | (with_reducible first | exact HB.out | apply below_alloc | apply pw_below_drewN | apply below_drew1 | refine below_set ?_ GE136.out) | exact HB.out))))
                                          have n1_ := Aside0.mk (blk_below (g := gb136) (o := .cells #[.string a1_0, .string nm] 24 (0, 0)) (by (with_reducible repeat (first | refine blk_drewN ?_ _ | refine blk_drew ?_ | refine blk_alloc ?_ _)); exact BK136.out) hb)
                                          have n2_ := Aside0.mk (below_step (by repeat (first | (with_reducible first | exact HB.out | apply below_alloc | apply pw_below_drewN | apply below_drew1 | refine below_set ?_ GE136.out) | exact HB.out)) hb)
                                          clear BK136
                                          clear HB
                                          have HO158 := n0_
                                          have BK136 := n1_
                                          have HB := n2_
                                          clear n0_ n1_ n2_
                                          clear hb ho123
                                          refine hK.out _ _ ⟨(blk_cell BK136.out 0).trans rfl, (blk_cell BK136.out 1).trans rfl⟩ (fun hHeld => ?_)
                                          clear hK K
                                          refine norm_ (a' := ?_) ?_ ?_
                                          rotate_left
                                          · show Act.put _ (some 91) _ = _
                                            simp only [Act.put, List.setIfInBounds_toArray, List.set_cons_zero, List.set_cons_succ, i64_w, i32_w]
                                            rfl
                                          refine two_ (i := 2) (j := 4) (Ni := some 93) (Nj := some 95) #[true, true, true, true, false, false, false, false] #[true, true, false, true, true, false, false, false] rfl rfl rfl rfl (two_of HT_.out (by kernel_rfl)) (by decide) (by decide) (fun K hK => ?_) (fun K hK => ?_)
                                          · skip
                                            refine Kd.R_append_rows_step k24 (w0 := w) w.heap.size (by rfl) (.tmp 91) (.tmp 92) 25 24 (.agg #[(.string ⟨#[]⟩), (.string ⟨#[]⟩)]) 32 rfl Tryd.underlying25 info24 rfl (by decide) (by omega) v157 y156 l0 _ _ _ (fun k_ => k_ ≠ gb136) (fun _ => False) rfl rfl ?aO ?aR (fun _ _ h => h) (fun _ h => h.elim) ?aF ?aB ?aS ?aL ?_
                                            (case aR => repeat (first | exact (Kd.C_below HR0.out HB.out) | (with_reducible refine Kd.C_alloc ?_ _) | (with_reducible refine Kd.C_drewN ?_ _) | (with_reducible refine Kd.C_drew ?_)))
                                            (case aB => exact (by repeat (first | (with_reducible first | exact HB.out | apply below_alloc | apply pw_below_drewN | apply below_drew1 | refine below_set ?_ GE136.out) | exact HB.out)))
                                            (case aF => exact (fun k_ hk => Kd.freshB (g := gb136) (o := .cells #[.string a1_0, .string nm] 24 (0, 0)) (by (with_reducible repeat (first | refine blk_drewN ?_ _ | refine blk_drew ?_ | refine blk_alloc ?_ _)); exact BK136.out) k_ hk))
                                            (case aO => exact (by (with_reducible repeat (first | apply Kd.R_alloc | apply Kd.R_drewN | apply Kd.R_drew)); exact Kd.R_mono HO158.out (fun _ hk => hk.2)))
                                            (case aS => exact (below_size (by repeat (first | (with_reducible first | exact HB.out | apply below_alloc | apply pw_below_drewN | apply below_drew1 | refine below_set ?_ GE136.out) | exact HB.out))))
                                            (case aL => have := LMc52.out; omega)
                                            intro v160 w124 ho hb hg hat
                                            rw [← Ny159.out] at ho
                                            have n0_ := Aside0.mk (blk_grown (g := gb136) (o := .cells #[.string a1_0, .string nm] 24 (0, 0)) (by (with_reducible repeat (first | refine blk_drewN ?_ _ | refine blk_drew ?_ | refine blk_alloc ?_ _)); exact BK136.out) hg (Kd.R_away HO158.out (fun _ hk => hk.2)))
                                            have n1_ := Aside0.mk (hb)
                                            have n2_ := Aside0.mk (ho)
                                            clear BK136
                                            clear HB
                                            clear HO158
                                            have BK136 := n0_
                                            have HB := n1_
                                            have HO161 := n2_
                                            clear n0_ n1_ n2_
                                            clear ho hb hg hat
                                            refine hK.out _ _ ⟨(blk_cell BK136.out 0).trans rfl, (blk_cell BK136.out 1).trans rfl⟩ (fun hHeld => ?_)
                                            clear hK K
                                            refine norm_ (a' := ?_) ?_ ?_
                                            rotate_left
                                            · show Act.put _ (some 93) _ = _
                                              simp only [Act.put, List.setIfInBounds_toArray, List.set_cons_zero, List.set_cons_succ, i64_w, i32_w]
                                              rfl
                                            refine one_ (i := 4) (N := some 95) #[true, true, true, true, true, false, false, false] rfl rfl (one_of HT_.out (by kernel_rfl)) (by decide) (fun K hK => ?_)
                                            refine Kd.R_lit_step k24 _ 24 ?hg (N := 95) ?hd (xs := ([(⟨a1_0, nm⟩ : S24)] : List (S24))) (inner := [.string a1_0, .string nm]) (ok := fun _ => True) (okp := fun _ => True) ?hr ?hp (fun _ hk => hk) trivial (Below.refl _ _) (Nat.le_refl _) (by simp) ?_; (case hd => rfl); (case hg => rfl); (case hr => first | (go_simp; done) | (go_simp; rfl)); (case hp => exact (Reps.c2 (show Kd.M k24 _ _ _ (⟨a1_0, nm⟩ : S24) [.string a1_0, .string nm] from (k24_mkM _ _ _ (⟨a1_0, nm⟩ : S24) )) (Reps.none _ _)))
                                            intro v163 w125 ho126 hb hg_ hnew_
                                            clear hg_ hnew_
                                            (first | rw [← Ny162.out] at ho126 | (simp only [Int.reduceToNat] at ho126; rw [← Ny162.out] at ho126))
                                            have n0_ := Aside0.mk (Kd.R_elder' (by (with_reducible repeat (first | apply Kd.R_alloc | apply Kd.R_drewN | apply Kd.R_drew)); exact HO161.out) (Kd.R_base ho126) hb)
                                            have n1_ := Aside0.mk (Kd.R_lower (Kd.R_newB (Kd.R_new' ho126 (Kd.R_lt (by (with_reducible repeat (first | apply Kd.R_alloc | apply Kd.R_drewN | apply Kd.R_drew)); exact HO161.out))) (g := gb136) (o := .cells #[.string a1_0, .string nm] 24 (0, 0)) (by (with_reducible repeat (first | refine blk_drewN ?_ _ | refine blk_drew ?_ | refine blk_alloc ?_ _)); exact BK136.out)) (below_size (by repeat (first | (with_reducible first | exact HB.out | apply below_alloc | apply pw_below_drewN | apply below_drew1 | refine below_set ?_ GE136.out) | exact HB.out))))
                                            have n2_ := Aside0.mk (blk_below (g := gb136) (o := .cells #[.string a1_0, .string nm] 24 (0, 0)) (by (with_reducible repeat (first | refine blk_drewN ?_ _ | refine blk_drew ?_ | refine blk_alloc ?_ _)); exact BK136.out) hb)
                                            have n3_ := Aside0.mk (below_step (by repeat (first | (with_reducible first | exact HB.out | apply below_alloc | apply pw_below_drewN | apply below_drew1 | refine below_set ?_ GE136.out) | exact HB.out)) hb)
                                            clear HO161
                                            clear BK136
                                            clear HB
                                            have HO161 := n0_
                                            have HO164 := n1_
                                            have BK136 := n2_
                                            have HB := n3_
                                            clear n0_ n1_ n2_ n3_
                                            clear hb ho126
                                            refine hK.out _ _ ⟨(blk_cell BK136.out 0).trans rfl, (blk_cell BK136.out 1).trans rfl⟩ (fun hHeld => ?_)
                                            clear hK K
                                            refine norm_ (a' := ?_) ?_ ?_
                                            rotate_left
                                            · show Act.put _ (some 95) _ = _
                                              simp only [Act.put, List.setIfInBounds_toArray, List.set_cons_zero, List.set_cons_succ, i64_w, i32_w]
                                              rfl
                                            exact norm_ (by simp only [putAll, Act.put, List.setIfInBounds_toArray, List.set_cons_zero, List.set_cons_succ]) (hCont (v157, v160, v163) _ ⟨hHeld, (by (with_reducible repeat (first | apply Kd.R_alloc | apply Kd.R_drewN | apply Kd.R_drew)); exact Kd.R_mono HO161.out (fun _ hk => ⟨hk.2, hk.1⟩)), (by (with_reducible repeat (first | apply Kd.R_alloc | apply Kd.R_drewN | apply Kd.R_drew)); exact Kd.R_mono HO164.out (fun _ hk => ⟨hk.1.2, hk.2⟩)), (by (with_reducible repeat (first | refine blk_drewN ?_ _ | refine blk_drew ?_ | refine blk_alloc ?_ _)); exact BK136.out), (by repeat (first | (with_reducible first | exact HB.out | apply below_alloc | apply pw_below_drewN | apply below_drew1 | refine below_set ?_ GE136.out) | exact HB.out))⟩)
                                          · skip
                                            refine Kd.R_lit_step k24 _ 24 ?hg (N := 95) ?hd (xs := ([(⟨a1_0, nm⟩ : S24)] : List (S24))) (inner := [.string a1_0, .string nm]) (ok := fun _ => True) (okp := fun _ => True) ?hr ?hp (fun _ hk => hk) trivial (Below.refl _ _) (Nat.le_refl _) (by simp) ?_; (case hd => rfl); (case hg => rfl); (case hr => first | (go_simp; done) | (go_simp; rfl)); (case hp => exact (Reps.c2 (show Kd.M k24 _ _ _ (⟨a1_0, nm⟩ : S24) [.string a1_0, .string nm] from (k24_mkM _ _ _ (⟨a1_0, nm⟩ : S24) )) (Reps.none _ _)))
                                            intro v163 w124 ho125 hb hg_ hnew_
                                            clear hg_ hnew_
                                            (first | rw [← Ny162.out] at ho125 | (simp only [Int.reduceToNat] at ho125; rw [← Ny162.out] at ho125))
                                            have n0_ := Aside0.mk (Kd.R_elder' (by (with_reducible repeat (first | apply Kd.R_alloc | apply Kd.R_drewN | apply Kd.R_drew)); exact HO158.out) (Kd.R_base ho125) hb)
                                            have n1_ := Aside0.mk (Kd.R_lower (Kd.R_newB (Kd.R_new' ho125 (Kd.R_lt (by (with_reducible repeat (first | apply Kd.R_alloc | apply Kd.R_drewN | apply Kd.R_drew)); exact HO158.out))) (g := gb136) (o := .cells #[.string a1_0, .string nm] 24 (0, 0)) (by (with_reducible repeat (first | refine blk_drewN ?_ _ | refine blk_drew ?_ | refine blk_alloc ?_ _)); exact BK136.out)) (below_size (by repeat (first | (with_reducible first | exact HB.out | apply below_alloc | apply pw_below_drewN | apply below_drew1 | refine below_set ?_ GE136.out) | exact HB.out))))
                                            have n2_ := Aside0.mk (blk_below (g := gb136) (o := .cells #[.string a1_0, .string nm] 24 (0, 0)) (by (with_reducible repeat (first | refine blk_drewN ?_ _ | refine blk_drew ?_ | refine blk_alloc ?_ _)); exact BK136.out) hb)
                                            have n3_ := Aside0.mk (below_step (by repeat (first | (with_reducible first | exact HB.out | apply below_alloc | apply pw_below_drewN | apply below_drew1 | refine below_set ?_ GE136.out) | exact HB.out)) hb)
                                            clear HO158
                                            clear BK136
                                            clear HB
                                            have HO158 := n0_
                                            have HO164 := n1_
                                            have BK136 := n2_
                                            have HB := n3_
                                            clear n0_ n1_ n2_ n3_
                                            clear hb ho125
                                            refine hK.out _ _ ⟨(blk_cell BK136.out 0).trans rfl, (blk_cell BK136.out 1).trans rfl⟩ (fun hHeld => ?_)
                                            clear hK K
                                            refine norm_ (a' := ?_) ?_ ?_
                                            rotate_left
                                            · show Act.put _ (some 95) _ = _
                                              simp only [Act.put, List.setIfInBounds_toArray, List.set_cons_zero, List.set_cons_succ, i64_w, i32_w]
                                              rfl
                                            refine one_ (i := 2) (N := some 93) #[true, true, true, true, true, false, false, false] rfl rfl (one_of HT_.out (by kernel_rfl)) (by decide) (fun K hK => ?_)
                                            refine Kd.R_append_rows_step k24 (w0 := w) w.heap.size (by rfl) (.tmp 91) (.tmp 92) 25 24 (.agg #[(.string ⟨#[]⟩), (.string ⟨#[]⟩)]) 32 rfl Tryd.underlying25 info24 rfl (by decide) (by omega) v157 y156 l0 _ _ _ (fun k_ => some k_ ≠ (v163 : Value).ownBlock ∧ k_ ≠ gb136) (fun _ => False) rfl rfl ?aO ?aR (fun _ _ h => h) (fun _ h => h.elim) ?aF ?aB ?aS ?aL ?_
                                            (case aR => repeat (first | exact (Kd.C_below HR0.out HB.out) | (with_reducible refine Kd.C_alloc ?_ _) | (with_reducible refine Kd.C_drewN ?_ _) | (with_reducible refine Kd.C_drew ?_)))
                                            (case aB => exact (by repeat (first | (with_reducible first | exact HB.out | apply below_alloc | apply pw_below_drewN | apply below_drew1 | refine below_set ?_ GE136.out) | exact HB.out)))
                                            (case aF => exact (fun k_ hk => ⟨Kd.fresh' (Kd.R_lt (by (with_reducible repeat (first | apply Kd.R_alloc | apply Kd.R_drewN | apply Kd.R_drew)); exact HO164.out)) k_ hk, Kd.freshB (g := gb136) (o := .cells #[.string a1_0, .string nm] 24 (0, 0)) (by (with_reducible repeat (first | refine blk_drewN ?_ _ | refine blk_drew ?_ | refine blk_alloc ?_ _)); exact BK136.out) k_ hk⟩))
                                            (case aO => exact (by (with_reducible repeat (first | apply Kd.R_alloc | apply Kd.R_drewN | apply Kd.R_drew)); exact Kd.R_mono HO158.out (fun _ hk => ⟨hk.2, hk.1.2⟩)))
                                            (case aS => exact (below_size (by repeat (first | (with_reducible first | exact HB.out | apply below_alloc | apply pw_below_drewN | apply below_drew1 | refine below_set ?_ GE136.out) | exact HB.out))))
                                            (case aL => have := LMc52.out; omega)
                                            intro v160 w126 ho hb hg hat
                                            rw [← Ny159.out] at ho
                                            have n0_ := Aside0.mk (blk_grown (g := gb136) (o := .cells #[.string a1_0, .string nm] 24 (0, 0)) (by (with_reducible repeat (first | refine blk_drewN ?_ _ | refine blk_drew ?_ | refine blk_alloc ?_ _)); exact BK136.out) hg (Kd.R_away HO158.out (fun _ hk => hk.1.2)))
                                            have n1_ := Aside0.mk (Kd.R_after (ok := (fun k_ => k_ ≠ gb136)) (by (with_reducible repeat (first | apply Kd.R_alloc | apply Kd.R_drewN | apply Kd.R_drew)); exact Kd.R_mono HO164.out (fun _ hk => ⟨hk.2, hk.1.2⟩)) hg hat)
                                            have n2_ := Aside0.mk (hb)
                                            have n3_ := Aside0.mk (ho)
                                            clear BK136
                                            clear HO164
                                            clear HB
                                            clear HO158
                                            have BK136 := n0_
                                            have HO164 := n1_
                                            have HB := n2_
                                            have HO161 := n3_
                                            clear n0_ n1_ n2_ n3_
                                            clear ho hb hg hat
                                            refine hK.out _ _ ⟨(blk_cell BK136.out 0).trans rfl, (blk_cell BK136.out 1).trans rfl⟩ (fun hHeld => ?_)
                                            clear hK K
                                            refine norm_ (a' := ?_) ?_ ?_
                                            rotate_left
                                            · show Act.put _ (some 93) _ = _
                                              simp only [Act.put, List.setIfInBounds_toArray, List.set_cons_zero, List.set_cons_succ, i64_w, i32_w]
                                              rfl
                                            exact norm_ (by simp only [putAll, Act.put, List.setIfInBounds_toArray, List.set_cons_zero, List.set_cons_succ]) (hCont (v157, v160, v163) _ ⟨hHeld, (by (with_reducible repeat (first | apply Kd.R_alloc | apply Kd.R_drewN | apply Kd.R_drew)); exact HO161.out), (by (with_reducible repeat (first | apply Kd.R_alloc | apply Kd.R_drewN | apply Kd.R_drew)); exact Kd.R_mono HO164.out (fun _ hk => ⟨hk.2, hk.1⟩)), (by (with_reducible repeat (first | refine blk_drewN ?_ _ | refine blk_drew ?_ | refine blk_alloc ?_ _)); exact BK136.out), (by repeat (first | (with_reducible first | exact HB.out | apply below_alloc | apply pw_below_drewN | apply below_drew1 | refine below_set ?_ GE136.out) | exact HB.out))⟩)
                                        · skip
                                          refine Kd.R_lit_step k24 _ 24 ?hg (N := 95) ?hd (xs := ([(⟨a1_0, nm⟩ : S24)] : List (S24))) (inner := [.string a1_0, .string nm]) (ok := fun _ => True) (okp := fun _ => True) ?hr ?hp (fun _ hk => hk) trivial (Below.refl _ _) (Nat.le_refl _) (by simp) ?_; (case hd => rfl); (case hg => rfl); (case hr => first | (go_simp; done) | (go_simp; rfl)); (case hp => exact (Reps.c2 (show Kd.M k24 _ _ _ (⟨a1_0, nm⟩ : S24) [.string a1_0, .string nm] from (k24_mkM _ _ _ (⟨a1_0, nm⟩ : S24) )) (Reps.none _ _)))
                                          intro v163 w122 ho123 hb hg_ hnew_
                                          clear hg_ hnew_
                                          (first | rw [← Ny162.out] at ho123 | (simp only [Int.reduceToNat] at ho123; rw [← Ny162.out] at ho123))
                                          have n0_ := Aside0.mk (Kd.R_lower (Kd.R_newB ho123 (g := gb136) (o := .cells #[.string a1_0, .string nm] 24 (0, 0)) (by (with_reducible repeat (first | refine blk_drewN ?_ _ | refine blk_drew ?_ | refine blk_alloc ?_ _)); exact BK136.out)) (below_size (by repeat (first | (with_reducible first | exact HB.out | apply below_alloc | apply pw_below_drewN | apply below_drew1 | refine below_set ?_ GE136.out) | exact HB.out))))
                                          have n1_ := Aside0.mk (blk_below (g := gb136) (o := .cells #[.string a1_0, .string nm] 24 (0, 0)) (by (with_reducible repeat (first | refine blk_drewN ?_ _ | refine blk_drew ?_ | refine blk_alloc ?_ _)); exact BK136.out) hb)
                                          have n2_ := Aside0.mk (below_step (by repeat (first | (with_reducible first | exact HB.out | apply below_alloc | apply pw_below_drewN | apply below_drew1 | refine below_set ?_ GE136.out) | exact HB.out)) hb)
                                          clear BK136
                                          clear HB
                                          have HO164 := n0_
                                          have BK136 := n1_
                                          have HB := n2_
                                          clear n0_ n1_ n2_
                                          clear hb ho123
                                          refine hK.out _ _ ⟨(blk_cell BK136.out 0).trans rfl, (blk_cell BK136.out 1).trans rfl⟩ (fun hHeld => ?_)
                                          clear hK K
                                          refine norm_ (a' := ?_) ?_ ?_
                                          rotate_left
                                          · show Act.put _ (some 95) _ = _
                                            simp only [Act.put, List.setIfInBounds_toArray, List.set_cons_zero, List.set_cons_succ, i64_w, i32_w]
                                            rfl
                                          refine one_ (i := 0) (N := some 91) #[true, true, false, true, true, false, false, false] rfl rfl (one_of HT_.out (by kernel_rfl)) (by decide) (fun K hK => ?_)
                                          refine Kd.R_lit_step k24 _ 24 ?hg (N := 91) ?hd (xs := ([] : List (S24))) (inner := []) (ok := fun _ => True) (okp := fun _ => True) ?hr ?hp (fun _ hk => hk) trivial (Below.refl _ _) (Nat.le_refl _) (by simp) ?_; (case hd => rfl); (case hg => rfl); (case hr => first | (go_simp; done) | (go_simp; rfl)); (case hp => exact (Reps.none _ _))
                                          intro v157 w124 ho125 hb hg_ hnew_
                                          clear hg_ hnew_
                                          (first | rw [← Ny156.out] at ho125 | (simp only [Int.reduceToNat] at ho125; rw [← Ny156.out] at ho125))
                                          have n0_ := Aside0.mk (Kd.R_elder' (by (with_reducible repeat (first | apply Kd.R_alloc | apply Kd.R_drewN | apply Kd.R_drew)); exact HO164.out) (Kd.R_base ho125) hb)
                                          have n1_ := Aside0.mk (Kd.R_lower (Kd.R_newB (Kd.R_new' ho125 (Kd.R_lt (by (with_reducible repeat (first | apply Kd.R_alloc | apply Kd.R_drewN | apply Kd.R_drew)); exact HO164.out))) (g := gb136) (o := .cells #[.string a1_0, .string nm] 24 (0, 0)) (by (with_reducible repeat (first | refine blk_drewN ?_ _ | refine blk_drew ?_ | refine blk_alloc ?_ _)); exact BK136.out)) (below_size (by repeat (first | (with_reducible first | exact HB.out | apply below_alloc | apply pw_below_drewN | apply below_drew1 | refine below_set ?_ GE136.out) | exact HB.out))))
                                          have n2_ := Aside0.mk (blk_below (g := gb136) (o := .cells #[.string a1_0, .string nm] 24 (0, 0)) (by (with_reducible repeat (first | refine blk_drewN ?_ _ | refine blk_drew ?_ | refine blk_alloc ?_ _)); exact BK136.out) hb)
                                          have n3_ := Aside0.mk (below_step (by repeat (first | (with_reducible first | exact HB.out | apply below_alloc | apply pw_below_drewN | apply below_drew1 | refine below_set ?_ GE136.out) | exact HB.out)) hb)
                                          clear HO164
                                          clear BK136
                                          clear HB
                                          have HO164 := n0_
                                          have HO158 := n1_
                                          have BK136 := n2_
                                          have HB := n3_
                                          clear n0_ n1_ n2_ n3_
                                          clear hb ho125
                                          refine hK.out _ _ ⟨(blk_cell BK136.out 0).trans rfl, (blk_cell BK136.out 1).trans rfl⟩ (fun hHeld => ?_)
                                          clear hK K
                                          refine norm_ (a' := ?_) ?_ ?_
                                          rotate_left
                                          · show Act.put _ (some 91) _ = _
                                            simp only [Act.put, List.setIfInBounds_toArray, List.set_cons_zero, List.set_cons_succ, i64_w, i32_w]
                                            rfl
                                          refine one_ (i := 2) (N := some 93) #[true, true, true, true, true, false, false, false] rfl rfl (one_of HT_.out (by kernel_rfl)) (by decide) (fun K hK => ?_)
                                          refine Kd.R_append_rows_step k24 (w0 := w) w.heap.size (by rfl) (.tmp 91) (.tmp 92) 25 24 (.agg #[(.string ⟨#[]⟩), (.string ⟨#[]⟩)]) 32 rfl Tryd.underlying25 info24 rfl (by decide) (by omega) v157 y156 l0 _ _ _ (fun k_ => some k_ ≠ (v163 : Value).ownBlock ∧ k_ ≠ gb136) (fun _ => False) rfl rfl ?aO ?aR (fun _ _ h => h) (fun _ h => h.elim) ?aF ?aB ?aS ?aL ?_
                                          (case aR => repeat (first | exact (Kd.C_below HR0.out HB.out) | (with_reducible refine Kd.C_alloc ?_ _) | (with_reducible refine Kd.C_drewN ?_ _) | (with_reducible refine Kd.C_drew ?_)))
                                          (case aB => exact (by repeat (first | (with_reducible first | exact HB.out | apply below_alloc | apply pw_below_drewN | apply below_drew1 | refine below_set ?_ GE136.out) | exact HB.out)))
                                          (case aF => exact (fun k_ hk => ⟨Kd.fresh' (Kd.R_lt (by (with_reducible repeat (first | apply Kd.R_alloc | apply Kd.R_drewN | apply Kd.R_drew)); exact HO164.out)) k_ hk, Kd.freshB (g := gb136) (o := .cells #[.string a1_0, .string nm] 24 (0, 0)) (by (with_reducible repeat (first | refine blk_drewN ?_ _ | refine blk_drew ?_ | refine blk_alloc ?_ _)); exact BK136.out) k_ hk⟩))
                                          (case aO => exact (by (with_reducible repeat (first | apply Kd.R_alloc | apply Kd.R_drewN | apply Kd.R_drew)); exact Kd.R_mono HO158.out (fun _ hk => ⟨hk.1.2, hk.2⟩)))
                                          (case aS => exact (below_size (by repeat (first | (with_reducible first | exact HB.out | apply below_alloc | apply pw_below_drewN | apply below_drew1 | refine below_set ?_ GE136.out) | exact HB.out))))
                                          (case aL => have := LMc52.out; omega)
                                          intro v160 w126 ho hb hg hat
                                          rw [← Ny159.out] at ho
                                          have n0_ := Aside0.mk (blk_grown (g := gb136) (o := .cells #[.string a1_0, .string nm] 24 (0, 0)) (by (with_reducible repeat (first | refine blk_drewN ?_ _ | refine blk_drew ?_ | refine blk_alloc ?_ _)); exact BK136.out) hg (Kd.R_away HO158.out (fun _ hk => hk.2)))
                                          have n1_ := Aside0.mk (Kd.R_after (ok := (fun k_ => k_ ≠ gb136)) (by (with_reducible repeat (first | apply Kd.R_alloc | apply Kd.R_drewN | apply Kd.R_drew)); exact Kd.R_mono HO164.out (fun _ hk => ⟨hk.1.2, hk.2⟩)) hg hat)
                                          have n2_ := Aside0.mk (hb)
                                          have n3_ := Aside0.mk (ho)
                                          clear BK136
                                          clear HO164
                                          clear HB
                                          clear HO158
                                          have BK136 := n0_
                                          have HO164 := n1_
                                          have HB := n2_
                                          have HO161 := n3_
                                          clear n0_ n1_ n2_ n3_
                                          clear ho hb hg hat
                                          refine hK.out _ _ ⟨(blk_cell BK136.out 0).trans rfl, (blk_cell BK136.out 1).trans rfl⟩ (fun hHeld => ?_)
                                          clear hK K
                                          refine norm_ (a' := ?_) ?_ ?_
                                          rotate_left
                                          · show Act.put _ (some 93) _ = _
                                            simp only [Act.put, List.setIfInBounds_toArray, List.set_cons_zero, List.set_cons_succ, i64_w, i32_w]
                                            rfl
                                          exact norm_ (by simp only [putAll, Act.put, List.setIfInBounds_toArray, List.set_cons_zero, List.set_cons_succ]) (hCont (v157, v160, v163) _ ⟨hHeld, (by (with_reducible repeat (first | apply Kd.R_alloc | apply Kd.R_drewN | apply Kd.R_drew)); exact HO161.out), (by (with_reducible repeat (first | apply Kd.R_alloc | apply Kd.R_drewN | apply Kd.R_drew)); exact Kd.R_mono HO164.out (fun _ hk => ⟨hk.2, hk.1⟩)), (by (with_reducible repeat (first | refine blk_drewN ?_ _ | refine blk_drew ?_ | refine blk_alloc ?_ _)); exact BK136.out), (by repeat (first | (with_reducible first | exact HB.out | apply below_alloc | apply pw_below_drewN | apply below_drew1 | refine below_set ?_ GE136.out) | exact HB.out))⟩)
                                      rintro ⟨v157, v160, v163⟩ w127 ⟨hS_, h0_, h1_, h2_, h3_⟩
                                      have n0_ : Aside0 (Kd.R k24 24 w127 w.heap.size (fun k_ => some k_ ≠ (v163 : Value).ownBlock ∧ k_ ≠ gb136) v160 y159) := ⟨h0_⟩
                                      have n1_ : Aside0 (Kd.R k24 24 w127 w.heap.size (fun k_ => some k_ ≠ (v160 : Value).ownBlock ∧ k_ ≠ gb136) v163 y162) := ⟨h1_⟩
                                      have n2_ : Aside0 (w127.heap[gb136]? = some (.cells #[.string a1_0, .string nm] 24 (0, 0))) := ⟨h2_⟩
                                      have n3_ : Aside0 (Below w.heap.size w w127) := ⟨h3_⟩
                                      clear BK136
                                      clear HB
                                      clear h0_ h1_ h2_ h3_
                                      have HO161 := n0_
                                      have HO164 := n1_
                                      have BK136 := n2_
                                      have HB := n3_
                                      clear n0_ n1_ n2_ n3_
                                      have hHeld : w127.cell? ⟨gb136, 0, none⟩ = some (.string a1_0) ∧ w127.cell? ⟨gb136, 1, none⟩ = some (.string nm) := hS_
                                      obtain ⟨Ao129, co129, eo129⟩ := Kd.R_slice HO164.out
                                      (first | subst eo129 | (injection eo129 with f1_ f2_ f3_; have f4_ := f1_.symm; have f5_ := f3_.symm; clear f1_ f2_ f3_; subst f4_; subst f5_))
                                      refine norm_ (a' := ?_) ?_ ?_
                                      rotate_left
                                      · simp only [putAll, Act.put, List.setIfInBounds_toArray, List.set_cons_zero, List.set_cons_succ]
                                        rfl
                                      refine one_ (i := 5) (N := some 96) #[true, true, true, true, true, true, false, false] rfl rfl (one_of HT_.out (by kernel_rfl)) (by decide) (fun K hK => ?_)
                                      refine Kd.R_append_rows_step k24 (w0 := w) w.heap.size (by rfl) (.tmp 93) (.tmp 95) 25 24 (.agg #[(.string ⟨#[]⟩), (.string ⟨#[]⟩)]) 32 rfl Tryd.underlying25 info24 rfl (by decide) (by omega) v160 y159 y162 _ _ _ (fun k_ => some k_ ≠ (.slice Ao129 y162.length co129 : Value).ownBlock ∧ k_ ≠ gb136) (fun _ => False) rfl rfl ?aO ?aR (fun _ _ h => h) (fun _ h => h.elim) ?aF ?aB ?aS ?aL ?_
                                      (case aR => repeat (first | exact (Kd.R_reads' HO164.out).2.2 | (with_reducible refine Kd.C_alloc ?_ _) | (with_reducible refine Kd.C_drewN ?_ _) | (with_reducible refine Kd.C_drew ?_)))
                                      (case aB => exact (by repeat (first | (with_reducible first | exact HB.out | apply below_alloc | apply pw_below_drewN | apply below_drew1 | refine below_set ?_ GE136.out) | exact HB.out)))
                                      (case aF => exact (fun k_ hk => ⟨Kd.fresh' (Kd.R_lt (by (with_reducible repeat (first | apply Kd.R_alloc | apply Kd.R_drewN | apply Kd.R_drew)); exact HO164.out)) k_ hk, Kd.freshB (g := gb136) (o := .cells #[.string a1_0, .string nm] 24 (0, 0)) (by (with_reducible repeat (first | refine blk_drewN ?_ _ | refine blk_drew ?_ | refine blk_alloc ?_ _)); exact BK136.out) k_ hk⟩))
                                      (case aO => exact (by (with_reducible repeat (first | apply Kd.R_alloc | apply Kd.R_drewN | apply Kd.R_drew)); exact HO161.out))
                                      (case aS => exact (below_size (by repeat (first | (with_reducible first | exact HB.out | apply below_alloc | apply pw_below_drewN | apply below_drew1 | refine below_set ?_ GE136.out) | exact HB.out))))
                                      (case aL => have := LMc53.out; omega)
                                      intro v166 w128 ho hb hg hat
                                      rw [← Ny165.out] at ho
                                      have n0_ := Aside0.mk (blk_grown (g := gb136) (o := .cells #[.string a1_0, .string nm] 24 (0, 0)) (by (with_reducible repeat (first | refine blk_drewN ?_ _ | refine blk_drew ?_ | refine blk_alloc ?_ _)); exact BK136.out) hg (Kd.R_away HO161.out (fun _ hk => hk.2)))
                                      have n1_ := Aside0.mk (Kd.R_after (ok := (fun k_ => k_ ≠ gb136)) (by (with_reducible repeat (first | apply Kd.R_alloc | apply Kd.R_drewN | apply Kd.R_drew)); exact Kd.R_mono HO164.out (fun _ hk => ⟨hk.2, hk.1⟩)) hg hat)
                                      have n2_ := Aside0.mk (hb)
                                      have n3_ := Aside0.mk (ho)
                                      clear BK136
                                      clear HO164
                                      clear HB
                                      clear HO161
                                      have BK136 := n0_
                                      have HO164 := n1_
                                      have HB := n2_
                                      have HO167 := n3_
                                      clear n0_ n1_ n2_ n3_
                                      clear ho hb hg hat
                                      obtain ⟨Ao130, co130, eo130⟩ := Kd.R_slice HO167.out
                                      (first | subst eo130 | (injection eo130 with f1_ f2_ f3_; have f4_ := f1_.symm; have f5_ := f3_.symm; clear f1_ f2_ f3_; subst f4_; subst f5_))
                                      refine hK.out _ _ ⟨(blk_cell BK136.out 0).trans rfl, (blk_cell BK136.out 1).trans rfl⟩ (fun hHeld => ?_)
                                      clear hK K
                                      refine norm_ (a' := ?_) ?_ ?_
                                      rotate_left
                                      · show Act.put _ (some 96) _ = _
                                        simp only [Act.put, List.setIfInBounds_toArray, List.set_cons_zero, List.set_cons_succ, i64_w, i32_w]
                                        rfl
                                      refine one_ (i := 6) (N := some 97) #[true, true, true, true, true, true, true, false] rfl rfl (one_of HT_.out (by kernel_rfl)) (by decide) (fun K hK => ?_)
                                      refine goes_ Tryd.func12 (by kernel_rfl) rfl #[.slice Ao130 y165.length co130] (by rfl) rfl rfl (by (try simp only [List.map_toArray, List.map_cons, List.map_nil]); first | done | rfl | (simp only [List.length_drop, List.length_take]; rfl)) ?_
                                      with_reducible refine (headers_Check.calls k3 _ _ y165 t168 _ ?side1 ?side2 A54.out).mono ?_
                                      (case side1 => repeat (first | exact (Kd.R_reads' HO167.out).2.2 | (with_reducible refine Kd.C_alloc ?_ _) | (with_reducible refine Kd.C_drewN ?_ _) | (with_reducible refine Kd.C_drew ?_)))
                                      (case side2 => exact (Kd.R_reads' HO167.out).2.1)
                                      rintro e w131 ⟨rfl, hb⟩
                                      refine ⟨_, rfl, ?_⟩
                                      have n0_ := Aside0.mk (Kd.R_below (by (with_reducible repeat (first | apply Kd.R_alloc | apply Kd.R_drewN | apply Kd.R_drew)); exact HO164.out) hb)
                                      have n1_ := Aside0.mk (Kd.R_below (by (with_reducible repeat (first | apply Kd.R_alloc | apply Kd.R_drewN | apply Kd.R_drew)); exact HO167.out) hb)
                                      have n2_ := Aside0.mk (blk_below (g := gb136) (o := .cells #[.string a1_0, .string nm] 24 (0, 0)) (by (with_reducible repeat (first | refine blk_drewN ?_ _ | refine blk_drew ?_ | refine blk_alloc ?_ _)); exact BK136.out) hb)
                                      have n3_ := Aside0.mk (below_step (by repeat (first | (with_reducible first | exact HB.out | apply below_alloc | apply pw_below_drewN | apply below_drew1 | refine below_set ?_ GE136.out) | exact HB.out)) hb)
                                      clear HO164
                                      clear HO167
                                      clear BK136
                                      clear HB
                                      have HO164 := n0_
                                      have HO167 := n1_
                                      have BK136 := n2_
                                      have HB := n3_
                                      clear n0_ n1_ n2_ n3_
                                      (try clear hb)
                                      (try clear hb2)
                                      (try clear hk)
                                      (try clear hi)
                                      refine hK.out _ _ ⟨(blk_cell BK136.out 0).trans rfl, (blk_cell BK136.out 1).trans rfl⟩ (fun hHeld => ?_)
                                      clear hK K
                                      refine norm_ (a' := ?_) ?_ ?_
                                      rotate_left
                                      · show Act.put _ (some 97) _ = _
                                        simp only [Act.put, List.setIfInBounds_toArray, List.set_cons_zero, List.set_cons_succ, i64_w, i32_w]
                                        rfl
                                      refine pure_ (i := 7) (N := some 12) (v := ?_) (a' := ?_) #[true, true, true, true, true, true, true, true] rfl rfl (any_of HT_.out (by kernel_rfl)) (fun _ _ _ h => h) (Or.inl ⟨by rfl, ?_⟩) ?_ ?_
                                      rotate_left
                                      · intro w'
                                        go_simp
                                        with_reducible rfl
                                      rotate_left
                                      · simp only [Act.put, List.setIfInBounds_toArray, List.set_cons_zero, List.set_cons_succ, i64_w, i32_w]
                                        rfl
                                      refine done_ (done_of HT_.out (by kernel_rfl)) ?_
                                      try go_wp2
                                      go_ret
                                      exact ⟨by first | rfl | (simp [errW_none, errW_some] <;> rfl) | (simp [*, errW_none, errW_some] <;> rfl) | (simp [q_ne_nil]; done), by repeat (first | (with_reducible first | exact HB.out | apply below_alloc | apply pw_below_drewN | apply below_drew1 | refine below_set ?_ GE136.out) | exact HB.out)⟩
                                    · replace c119 := Bool.eq_false_iff.mpr c119
                                      subst c119
                                      have H1 : (some ((t168 == 0) == false)) = some r := by rw [if_neg (show ¬ (false = true) by decide)] at H; exact H
                                      clear H
                                      have H := H1
                                      clear H1
                                      obtain rfl := Option.some.inj H
                                      have hcz132_0 : wr.cell? ⟨gb136, 0, none⟩ = some (.string a1_0) := (blk_cell BK136.out 0).trans rfl
                                      have hcz132_1 : wr.cell? ⟨gb136, 1, none⟩ = some (.string nm) := (blk_cell BK136.out 1).trans rfl
                                      have hfz132_0 := blk_frozen BK136.out 0
                                      have hfz132_1 := blk_frozen BK136.out 1
                                      try go_wp2_with (first | ((with_reducible refine gate_callee (f := 13) rfl ?_); refine goesL_ (some 90) rfl rfl Tryd.func13 (by kernel_rfl) rfl #[.string a1_0] rfl (by (try simp only [List.map_toArray, List.map_cons, List.map_nil]); first | done | rfl | (simp only [List.length_drop, List.length_take]; rfl)) ?_; (with_reducible refine (octet_Token.calls k3 a1_0 false _ A51.out).mono ?_); rintro e w' ⟨rfl, ⟨nd, rfl⟩⟩; refine ⟨_, rfl, ?_⟩))
                                      (try (rw [drewN_self wr]; generalize hq_ : World.drewN wr _ = wr; have n0_ : Aside0 (wr.heap[gb136]? = some (.cells #[.string a1_0, .string nm] 24 (0, 0))) := ⟨by rw [← hq_]; exact (by (with_reducible repeat (first | refine blk_drewN ?_ _ | refine blk_drew ?_ | refine blk_alloc ?_ _)); exact BK136.out)⟩; have n1_ : Aside0 (Below w.heap.size w wr) := ⟨by rw [← hq_]; exact (by repeat (first | (with_reducible first | exact HB.out | apply below_alloc | apply pw_below_drewN | apply below_drew1 | refine below_set ?_ GE136.out) | exact HB.out))⟩; clear BK136 HB hq_; have BK136 := n0_; have HB := n1_; clear n0_ n1_))
                                      have n0_ := Aside0.mk (blk_drew BK136.out)
                                      have n1_ := Aside0.mk (below_drew1 HB.out)
                                      clear BK136
                                      clear HB
                                      have BK136 := n0_
                                      have HB := n1_
                                      clear n0_ n1_
                                      refine start_ (n := 8) (S := fun w' => w'.cell? ⟨gb136, 0, none⟩ = some (.string a1_0) ∧ w'.cell? ⟨gb136, 1, none⟩ = some (.string nm)) (ds := []) #[false, false, false, false, false, false, false, false] (by kernel_rfl) rfl rfl ⟨(blk_cell BK136.out 0).trans rfl, (blk_cell BK136.out 1).trans rfl⟩ (fun hHeld => ?_); refine with_tabW glacislaw07_HeadersBytes.tab12 glacislaw07_HeadersBytes.bits12 (fun HT_ HW_ => ?_)
                                      generalize wr.drew = w133 at BK136 HB hHeld ⊢
                                      refine pure_ (i := 1) (N := some 92) (v := ?_) (a' := ?_) #[false, true, false, false, false, false, false, false] rfl rfl (any_of HT_.out (by kernel_rfl)) (fun _ _ _ h => h) (Or.inl ⟨by rfl, ?_⟩) ?_ ?_
                                      rotate_left
                                      · intro w'
                                        go_simp
                                        with_reducible rfl
                                      rotate_left
                                      · simp only [Act.put, List.setIfInBounds_toArray, List.set_cons_zero, List.set_cons_succ, i64_w, i32_w]
                                        rfl
                                      refine take_ (i := 3) (N := some 94) (v := ?_) (a' := ?_) #[false, true, false, true, false, false, false, false] rfl rfl (take_ofW HT_.out HW_.out (by kernel_rfl)) (fun _ _ _ h => h) (Or.inl ⟨by rfl, ?_⟩) hHeld ?_ ?_
                                      rotate_left
                                      · rintro w' ⟨s0, s1⟩
                                        go_simp
                                        with_reducible rfl
                                      rotate_left
                                      · simp only [Act.put, List.setIfInBounds_toArray, List.set_cons_zero, List.set_cons_succ, i64_w, i32_w]
                                        rfl
                                      refine join_ (σ := Value × Value × Value) 3 #[true, true, true, true, true, false, false, false] (fun s_ => [(91, s_.1), (93, s_.2.1), (95, s_.2.2)]) (fun s_ w' => (w'.cell? ⟨gb136, 0, none⟩ = some (.string a1_0) ∧ w'.cell? ⟨gb136, 1, none⟩ = some (.string nm)) ∧ (Kd.R k24 24 w' w.heap.size (fun k_ => some k_ ≠ (s_.2.2 : Value).ownBlock ∧ k_ ≠ gb136) s_.2.1 y159) ∧ (Kd.R k24 24 w' w.heap.size (fun k_ => some k_ ≠ (s_.2.1 : Value).ownBlock ∧ k_ ≠ gb136) s_.2.2 y162) ∧ (w'.heap[gb136]? = some (.cells #[.string a1_0, .string nm] 24 (0, 0))) ∧ (Below w.heap.size w w')) ?_ ?_
                                      rotate_left
                                      · intro hCont
                                        refine two_ (i := 0) (j := 4) (Ni := some 91) (Nj := some 95) #[true, true, false, true, false, false, false, false] #[false, true, false, true, true, false, false, false] rfl rfl rfl rfl (two_of HT_.out (by kernel_rfl)) (by decide) (by decide) (fun K hK => ?_) (fun K hK => ?_)
                                        · skip
                                          refine Kd.R_lit_step k24 _ 24 ?hg (N := 91) ?hd (xs := ([] : List (S24))) (inner := []) (ok := fun _ => True) (okp := fun _ => True) ?hr ?hp (fun _ hk => hk) trivial (Below.refl _ _) (Nat.le_refl _) (by simp) ?_; (case hd => rfl); (case hg => rfl); (case hr => first | (go_simp; done) | (go_simp; rfl)); (case hp => exact (Reps.none _ _))
                                          intro v157 w134 ho135 hb hg_ hnew_
                                          clear hg_ hnew_
                                          (first | rw [← Ny156.out] at ho135 | (simp only [Int.reduceToNat] at ho135; rw [← Ny156.out] at ho135))
                                          have n0_ := Aside0.mk (Kd.R_lower (Kd.R_newB ho135 (g := gb136) (o := .cells #[.string a1_0, .string nm] 24 (0, 0)) (by (with_reducible repeat (first | refine blk_drewN ?_ _ | refine blk_drew ?_ | refine blk_alloc ?_ _)); exact BK136.out)) (below_size (by repeat (first | (with_reducible first | exact HB.out | apply below_alloc | apply pw_below_drewN | apply below_drew1 | refine below_set ?_ GE136.out) | exact HB.out))))
                                          have n1_ := Aside0.mk (blk_below (g := gb136) (o := .cells #[.string a1_0, .string nm] 24 (0, 0)) (by (with_reducible repeat (first | refine blk_drewN ?_ _ | refine blk_drew ?_ | refine blk_alloc ?_ _)); exact BK136.out) hb)
                                          have n2_ := Aside0.mk (below_step (by repeat (first | (with_reducible first | exact HB.out | apply below_alloc | apply pw_below_drewN | apply below_drew1 | refine below_set ?_ GE136.out) | exact HB.out)) hb)
                                          clear BK136
                                          clear HB
                                          have HO158 := n0_
                                          have BK136 := n1_
                                          have HB := n2_
                                          clear n0_ n1_ n2_
                                          clear hb ho135
                                          refine hK.out _ _ ⟨(blk_cell BK136.out 0).trans rfl, (blk_cell BK136.out 1).trans rfl⟩ (fun hHeld => ?_)
                                          clear hK K
                                          refine norm_ (a' := ?_) ?_ ?_
                                          rotate_left
                                          · show Act.put _ (some 91) _ = _
                                            simp only [Act.put, List.setIfInBounds_toArray, List.set_cons_zero, List.set_cons_succ, i64_w, i32_w]
                                            rfl
                                          refine two_ (i := 2) (j := 4) (Ni := some 93) (Nj := some 95) #[true, true, true, true, false, false, false, false] #[true, true, false, true, true, false, false, false] rfl rfl rfl rfl (two_of HT_.out (by kernel_rfl)) (by decide) (by decide) (fun K hK => ?_) (fun K hK => ?_)
                                          · skip
                                            refine Kd.R_append_rows_step k24 (w0 := w) w.heap.size (by rfl) (.tmp 91) (.tmp 92) 25 24 (.agg #[(.string ⟨#[]⟩), (.string ⟨#[]⟩)]) 32 rfl Tryd.underlying25 info24 rfl (by decide) (by omega) v157 y156 l0 _ _ _ (fun k_ => k_ ≠ gb136) (fun _ => False) rfl rfl ?aO ?aR (fun _ _ h => h) (fun _ h => h.elim) ?aF ?aB ?aS ?aL ?_
                                            (case aR => repeat (first | exact (Kd.C_below HR0.out HB.out) | (with_reducible refine Kd.C_alloc ?_ _) | (with_reducible refine Kd.C_drewN ?_ _) | (with_reducible refine Kd.C_drew ?_)))
                                            (case aB => exact (by repeat (first | (with_reducible first | exact HB.out | apply below_alloc | apply pw_below_drewN | apply below_drew1 | refine below_set ?_ GE136.out) | exact HB.out)))
                                            (case aF => exact (fun k_ hk => Kd.freshB (g := gb136) (o := .cells #[.string a1_0, .string nm] 24 (0, 0)) (by (with_reducible repeat (first | refine blk_drewN ?_ _ | refine blk_drew ?_ | refine blk_alloc ?_ _)); exact BK136.out) k_ hk))
                                            (case aO => exact (by (with_reducible repeat (first | apply Kd.R_alloc | apply Kd.R_drewN | apply Kd.R_drew)); exact Kd.R_mono HO158.out (fun _ hk => hk.2)))
                                            (case aS => exact (below_size (by repeat (first | (with_reducible first | exact HB.out | apply below_alloc | apply pw_below_drewN | apply below_drew1 | refine below_set ?_ GE136.out) | exact HB.out))))
                                            (case aL => have := LMc52.out; omega)
                                            intro v160 w136 ho hb hg hat
                                            rw [← Ny159.out] at ho
                                            have n0_ := Aside0.mk (blk_grown (g := gb136) (o := .cells #[.string a1_0, .string nm] 24 (0, 0)) (by (with_reducible repeat (first | refine blk_drewN ?_ _ | refine blk_drew ?_ | refine blk_alloc ?_ _)); exact BK136.out) hg (Kd.R_away HO158.out (fun _ hk => hk.2)))
                                            have n1_ := Aside0.mk (hb)
                                            have n2_ := Aside0.mk (ho)
                                            clear BK136
                                            clear HB
                                            clear HO158
                                            have BK136 := n0_
                                            have HB := n1_
                                            have HO161 := n2_
                                            clear n0_ n1_ n2_
                                            clear ho hb hg hat
                                            refine hK.out _ _ ⟨(blk_cell BK136.out 0).trans rfl, (blk_cell BK136.out 1).trans rfl⟩ (fun hHeld => ?_)
                                            clear hK K
                                            refine norm_ (a' := ?_) ?_ ?_
                                            rotate_left
                                            · show Act.put _ (some 93) _ = _
                                              simp only [Act.put, List.setIfInBounds_toArray, List.set_cons_zero, List.set_cons_succ, i64_w, i32_w]
                                              rfl
                                            refine one_ (i := 4) (N := some 95) #[true, true, true, true, true, false, false, false] rfl rfl (one_of HT_.out (by kernel_rfl)) (by decide) (fun K hK => ?_)
                                            refine Kd.R_lit_step k24 _ 24 ?hg (N := 95) ?hd (xs := ([(⟨a1_0, nm⟩ : S24)] : List (S24))) (inner := [.string a1_0, .string nm]) (ok := fun _ => True) (okp := fun _ => True) ?hr ?hp (fun _ hk => hk) trivial (Below.refl _ _) (Nat.le_refl _) (by simp) ?_; (case hd => rfl); (case hg => rfl); (case hr => first | (go_simp; done) | (go_simp; rfl)); (case hp => exact (Reps.c2 (show Kd.M k24 _ _ _ (⟨a1_0, nm⟩ : S24) [.string a1_0, .string nm] from (k24_mkM _ _ _ (⟨a1_0, nm⟩ : S24) )) (Reps.none _ _)))
                                            intro v163 w137 ho138 hb hg_ hnew_
                                            clear hg_ hnew_
                                            (first | rw [← Ny162.out] at ho138 | (simp only [Int.reduceToNat] at ho138; rw [← Ny162.out] at ho138))
                                            have n0_ := Aside0.mk (Kd.R_elder' (by (with_reducible repeat (first | apply Kd.R_alloc | apply Kd.R_drewN | apply Kd.R_drew)); exact HO161.out) (Kd.R_base ho138) hb)
                                            have n1_ := Aside0.mk (Kd.R_lower (Kd.R_newB (Kd.R_new' ho138 (Kd.R_lt (by (with_reducible repeat (first | apply Kd.R_alloc | apply Kd.R_drewN | apply Kd.R_drew)); exact HO161.out))) (g := gb136) (o := .cells #[.string a1_0, .string nm] 24 (0, 0)) (by (with_reducible repeat (first | refine blk_drewN ?_ _ | refine blk_drew ?_ | refine blk_alloc ?_ _)); exact BK136.out)) (below_size (by repeat (first | (with_reducible first | exact HB.out | apply below_alloc | apply pw_below_drewN | apply below_drew1 | refine below_set ?_ GE136.out) | exact HB.out))))
                                            have n2_ := Aside0.mk (blk_below (g := gb136) (o := .cells #[.string a1_0, .string nm] 24 (0, 0)) (by (with_reducible repeat (first | refine blk_drewN ?_ _ | refine blk_drew ?_ | refine blk_alloc ?_ _)); exact BK136.out) hb)
                                            have n3_ := Aside0.mk (below_step (by repeat (first | (with_reducible first | exact HB.out | apply below_alloc | apply pw_below_drewN | apply below_drew1 | refine below_set ?_ GE136.out) | exact HB.out)) hb)
                                            clear HO161
                                            clear BK136
                                            clear HB
                                            have HO161 := n0_
                                            have HO164 := n1_
                                            have BK136 := n2_
                                            have HB := n3_
                                            clear n0_ n1_ n2_ n3_
                                            clear hb ho138
                                            refine hK.out _ _ ⟨(blk_cell BK136.out 0).trans rfl, (blk_cell BK136.out 1).trans rfl⟩ (fun hHeld => ?_)
                                            clear hK K
                                            refine norm_ (a' := ?_) ?_ ?_
                                            rotate_left
                                            · show Act.put _ (some 95) _ = _
                                              simp only [Act.put, List.setIfInBounds_toArray, List.set_cons_zero, List.set_cons_succ, i64_w, i32_w]
                                              rfl
                                            exact norm_ (by simp only [putAll, Act.put, List.setIfInBounds_toArray, List.set_cons_zero, List.set_cons_succ]) (hCont (v157, v160, v163) _ ⟨hHeld, (by (with_reducible repeat (first | apply Kd.R_alloc | apply Kd.R_drewN | apply Kd.R_drew)); exact Kd.R_mono HO161.out (fun _ hk => ⟨hk.2, hk.1⟩)), (by (with_reducible repeat (first | apply Kd.R_alloc | apply Kd.R_drewN | apply Kd.R_drew)); exact Kd.R_mono HO164.out (fun _ hk => ⟨hk.1.2, hk.2⟩)), (by (with_reducible repeat (first | refine blk_drewN ?_ _ | refine blk_drew ?_ | refine blk_alloc ?_ _)); exact BK136.out), (by repeat (first | (with_reducible first | exact HB.out | apply below_alloc | apply pw_below_drewN | apply below_drew1 | refine below_set ?_ GE136.out) | exact HB.out))⟩)
                                          · skip
                                            refine Kd.R_lit_step k24 _ 24 ?hg (N := 95) ?hd (xs := ([(⟨a1_0, nm⟩ : S24)] : List (S24))) (inner := [.string a1_0, .string nm]) (ok := fun _ => True) (okp := fun _ => True) ?hr ?hp (fun _ hk => hk) trivial (Below.refl _ _) (Nat.le_refl _) (by simp) ?_; (case hd => rfl); (case hg => rfl); (case hr => first | (go_simp; done) | (go_simp; rfl)); (case hp => exact (Reps.c2 (show Kd.M k24 _ _ _ (⟨a1_0, nm⟩ : S24) [.string a1_0, .string nm] from (k24_mkM _ _ _ (⟨a1_0, nm⟩ : S24) )) (Reps.none _ _)))
                                            intro v163 w136 ho137 hb hg_ hnew_
                                            clear hg_ hnew_
                                            (first | rw [← Ny162.out] at ho137 | (simp only [Int.reduceToNat] at ho137; rw [← Ny162.out] at ho137))
                                            have n0_ := Aside0.mk (Kd.R_elder' (by (with_reducible repeat (first | apply Kd.R_alloc | apply Kd.R_drewN | apply Kd.R_drew)); exact HO158.out) (Kd.R_base ho137) hb)
                                            have n1_ := Aside0.mk (Kd.R_lower (Kd.R_newB (Kd.R_new' ho137 (Kd.R_lt (by (with_reducible repeat (first | apply Kd.R_alloc | apply Kd.R_drewN | apply Kd.R_drew)); exact HO158.out))) (g := gb136) (o := .cells #[.string a1_0, .string nm] 24 (0, 0)) (by (with_reducible repeat (first | refine blk_drewN ?_ _ | refine blk_drew ?_ | refine blk_alloc ?_ _)); exact BK136.out)) (below_size (by repeat (first | (with_reducible first | exact HB.out | apply below_alloc | apply pw_below_drewN | apply below_drew1 | refine below_set ?_ GE136.out) | exact HB.out))))
                                            have n2_ := Aside0.mk (blk_below (g := gb136) (o := .cells #[.string a1_0, .string nm] 24 (0, 0)) (by (with_reducible repeat (first | refine blk_drewN ?_ _ | refine blk_drew ?_ | refine blk_alloc ?_ _)); exact BK136.out) hb)
                                            have n3_ := Aside0.mk (below_step (by repeat (first | (with_reducible first | exact HB.out | apply below_alloc | apply pw_below_drewN | apply below_drew1 | refine below_set ?_ GE136.out) | exact HB.out)) hb)
                                            clear HO158
                                            clear BK136
                                            clear HB
                                            have HO158 := n0_
                                            have HO164 := n1_
                                            have BK136 := n2_
                                            have HB := n3_
                                            clear n0_ n1_ n2_ n3_
                                            clear hb ho137
                                            refine hK.out _ _ ⟨(blk_cell BK136.out 0).trans rfl, (blk_cell BK136.out 1).trans rfl⟩ (fun hHeld => ?_)
                                            clear hK K
                                            refine norm_ (a' := ?_) ?_ ?_
                                            rotate_left
                                            · show Act.put _ (some 95) _ = _
                                              simp only [Act.put, List.setIfInBounds_toArray, List.set_cons_zero, List.set_cons_succ, i64_w, i32_w]
                                              rfl
                                            refine one_ (i := 2) (N := some 93) #[true, true, true, true, true, false, false, false] rfl rfl (one_of HT_.out (by kernel_rfl)) (by decide) (fun K hK => ?_)
                                            refine Kd.R_append_rows_step k24 (w0 := w) w.heap.size (by rfl) (.tmp 91) (.tmp 92) 25 24 (.agg #[(.string ⟨#[]⟩), (.string ⟨#[]⟩)]) 32 rfl Tryd.underlying25 info24 rfl (by decide) (by omega) v157 y156 l0 _ _ _ (fun k_ => some k_ ≠ (v163 : Value).ownBlock ∧ k_ ≠ gb136) (fun _ => False) rfl rfl ?aO ?aR (fun _ _ h => h) (fun _ h => h.elim) ?aF ?aB ?aS ?aL ?_
                                            (case aR => repeat (first | exact (Kd.C_below HR0.out HB.out) | (with_reducible refine Kd.C_alloc ?_ _) | (with_reducible refine Kd.C_drewN ?_ _) | (with_reducible refine Kd.C_drew ?_)))
                                            (case aB => exact (by repeat (first | (with_reducible first | exact HB.out | apply below_alloc | apply pw_below_drewN | apply below_drew1 | refine below_set ?_ GE136.out) | exact HB.out)))
                                            (case aF => exact (fun k_ hk => ⟨Kd.fresh' (Kd.R_lt (by (with_reducible repeat (first | apply Kd.R_alloc | apply Kd.R_drewN | apply Kd.R_drew)); exact HO164.out)) k_ hk, Kd.freshB (g := gb136) (o := .cells #[.string a1_0, .string nm] 24 (0, 0)) (by (with_reducible repeat (first | refine blk_drewN ?_ _ | refine blk_drew ?_ | refine blk_alloc ?_ _)); exact BK136.out) k_ hk⟩))
                                            (case aO => exact (by (with_reducible repeat (first | apply Kd.R_alloc | apply Kd.R_drewN | apply Kd.R_drew)); exact Kd.R_mono HO158.out (fun _ hk => ⟨hk.2, hk.1.2⟩)))
                                            (case aS => exact (below_size (by repeat (first | (with_reducible first | exact HB.out | apply below_alloc | apply pw_below_drewN | apply below_drew1 | refine below_set ?_ GE136.out) | exact HB.out))))
                                            (case aL => have := LMc52.out; omega)
                                            intro v160 w138 ho hb hg hat
                                            rw [← Ny159.out] at ho
                                            have n0_ := Aside0.mk (blk_grown (g := gb136) (o := .cells #[.string a1_0, .string nm] 24 (0, 0)) (by (with_reducible repeat (first | refine blk_drewN ?_ _ | refine blk_drew ?_ | refine blk_alloc ?_ _)); exact BK136.out) hg (Kd.R_away HO158.out (fun _ hk => hk.1.2)))
                                            have n1_ := Aside0.mk (Kd.R_after (ok := (fun k_ => k_ ≠ gb136)) (by (with_reducible repeat (first | apply Kd.R_alloc | apply Kd.R_drewN | apply Kd.R_drew)); exact Kd.R_mono HO164.out (fun _ hk => ⟨hk.2, hk.1.2⟩)) hg hat)
                                            have n2_ := Aside0.mk (hb)
                                            have n3_ := Aside0.mk (ho)
                                            clear BK136
                                            clear HO164
                                            clear HB
                                            clear HO158
                                            have BK136 := n0_
                                            have HO164 := n1_
                                            have HB := n2_
                                            have HO161 := n3_
                                            clear n0_ n1_ n2_ n3_
                                            clear ho hb hg hat
                                            refine hK.out _ _ ⟨(blk_cell BK136.out 0).trans rfl, (blk_cell BK136.out 1).trans rfl⟩ (fun hHeld => ?_)
                                            clear hK K
                                            refine norm_ (a' := ?_) ?_ ?_
                                            rotate_left
                                            · show Act.put _ (some 93) _ = _
                                              simp only [Act.put, List.setIfInBounds_toArray, List.set_cons_zero, List.set_cons_succ, i64_w, i32_w]
                                              rfl
                                            exact norm_ (by simp only [putAll, Act.put, List.setIfInBounds_toArray, List.set_cons_zero, List.set_cons_succ]) (hCont (v157, v160, v163) _ ⟨hHeld, (by (with_reducible repeat (first | apply Kd.R_alloc | apply Kd.R_drewN | apply Kd.R_drew)); exact HO161.out), (by (with_reducible repeat (first | apply Kd.R_alloc | apply Kd.R_drewN | apply Kd.R_drew)); exact Kd.R_mono HO164.out (fun _ hk => ⟨hk.2, hk.1⟩)), (by (with_reducible repeat (first | refine blk_drewN ?_ _ | refine blk_drew ?_ | refine blk_alloc ?_ _)); exact BK136.out), (by repeat (first | (with_reducible first | exact HB.out | apply below_alloc | apply pw_below_drewN | apply below_drew1 | refine below_set ?_ GE136.out) | exact HB.out))⟩)
                                        · skip
                                          refine Kd.R_lit_step k24 _ 24 ?hg (N := 95) ?hd (xs := ([(⟨a1_0, nm⟩ : S24)] : List (S24))) (inner := [.string a1_0, .string nm]) (ok := fun _ => True) (okp := fun _ => True) ?hr ?hp (fun _ hk => hk) trivial (Below.refl _ _) (Nat.le_refl _) (by simp) ?_; (case hd => rfl); (case hg => rfl); (case hr => first | (go_simp; done) | (go_simp; rfl)); (case hp => exact (Reps.c2 (show Kd.M k24 _ _ _ (⟨a1_0, nm⟩ : S24) [.string a1_0, .string nm] from (k24_mkM _ _ _ (⟨a1_0, nm⟩ : S24) )) (Reps.none _ _)))
                                          intro v163 w134 ho135 hb hg_ hnew_
                                          clear hg_ hnew_
                                          (first | rw [← Ny162.out] at ho135 | (simp only [Int.reduceToNat] at ho135; rw [← Ny162.out] at ho135))
                                          have n0_ := Aside0.mk (Kd.R_lower (Kd.R_newB ho135 (g := gb136) (o := .cells #[.string a1_0, .string nm] 24 (0, 0)) (by (with_reducible repeat (first | refine blk_drewN ?_ _ | refine blk_drew ?_ | refine blk_alloc ?_ _)); exact BK136.out)) (below_size (by repeat (first | (with_reducible first | exact HB.out | apply below_alloc | apply pw_below_drewN | apply below_drew1 | refine below_set ?_ GE136.out) | exact HB.out))))
                                          have n1_ := Aside0.mk (blk_below (g := gb136) (o := .cells #[.string a1_0, .string nm] 24 (0, 0)) (by (with_reducible repeat (first | refine blk_drewN ?_ _ | refine blk_drew ?_ | refine blk_alloc ?_ _)); exact BK136.out) hb)
                                          have n2_ := Aside0.mk (below_step (by repeat (first | (with_reducible first | exact HB.out | apply below_alloc | apply pw_below_drewN | apply below_drew1 | refine below_set ?_ GE136.out) | exact HB.out)) hb)
                                          clear BK136
                                          clear HB
                                          have HO164 := n0_
                                          have BK136 := n1_
                                          have HB := n2_
                                          clear n0_ n1_ n2_
                                          clear hb ho135
                                          refine hK.out _ _ ⟨(blk_cell BK136.out 0).trans rfl, (blk_cell BK136.out 1).trans rfl⟩ (fun hHeld => ?_)
                                          clear hK K
                                          refine norm_ (a' := ?_) ?_ ?_
                                          rotate_left
                                          · show Act.put _ (some 95) _ = _
                                            simp only [Act.put, List.setIfInBounds_toArray, List.set_cons_zero, List.set_cons_succ, i64_w, i32_w]
                                            rfl
                                          refine one_ (i := 0) (N := some 91) #[true, true, false, true, true, false, false, false] rfl rfl (one_of HT_.out (by kernel_rfl)) (by decide) (fun K hK => ?_)
                                          refine Kd.R_lit_step k24 _ 24 ?hg (N := 91) ?hd (xs := ([] : List (S24))) (inner := []) (ok := fun _ => True) (okp := fun _ => True) ?hr ?hp (fun _ hk => hk) trivial (Below.refl _ _) (Nat.le_refl _) (by simp) ?_; (case hd => rfl); (case hg => rfl); (case hr => first | (go_simp; done) | (go_simp; rfl)); (case hp => exact (Reps.none _ _))
                                          intro v157 w136 ho137 hb hg_ hnew_
                                          clear hg_ hnew_
                                          (first | rw [← Ny156.out] at ho137 | (simp only [Int.reduceToNat] at ho137; rw [← Ny156.out] at ho137))
                                          have n0_ := Aside0.mk (Kd.R_elder' (by (with_reducible repeat (first | apply Kd.R_alloc | apply Kd.R_drewN | apply Kd.R_drew)); exact HO164.out) (Kd.R_base ho137) hb)
                                          have n1_ := Aside0.mk (Kd.R_lower (Kd.R_newB (Kd.R_new' ho137 (Kd.R_lt (by (with_reducible repeat (first | apply Kd.R_alloc | apply Kd.R_drewN | apply Kd.R_drew)); exact HO164.out))) (g := gb136) (o := .cells #[.string a1_0, .string nm] 24 (0, 0)) (by (with_reducible repeat (first | refine blk_drewN ?_ _ | refine blk_drew ?_ | refine blk_alloc ?_ _)); exact BK136.out)) (below_size (by repeat (first | (with_reducible first | exact HB.out | apply below_alloc | apply pw_below_drewN | apply below_drew1 | refine below_set ?_ GE136.out) | exact HB.out))))
                                          have n2_ := Aside0.mk (blk_below (g := gb136) (o := .cells #[.string a1_0, .string nm] 24 (0, 0)) (by (with_reducible repeat (first | refine blk_drewN ?_ _ | refine blk_drew ?_ | refine blk_alloc ?_ _)); exact BK136.out) hb)
                                          have n3_ := Aside0.mk (below_step (by repeat (first | (with_reducible first | exact HB.out | apply below_alloc | apply pw_below_drewN | apply below_drew1 | refine below_set ?_ GE136.out) | exact HB.out)) hb)
                                          clear HO164
                                          clear BK136
                                          clear HB
                                          have HO164 := n0_
                                          have HO158 := n1_
                                          have BK136 := n2_
                                          have HB := n3_
                                          clear n0_ n1_ n2_ n3_
                                          clear hb ho137
                                          refine hK.out _ _ ⟨(blk_cell BK136.out 0).trans rfl, (blk_cell BK136.out 1).trans rfl⟩ (fun hHeld => ?_)
                                          clear hK K
                                          refine norm_ (a' := ?_) ?_ ?_
                                          rotate_left
                                          · show Act.put _ (some 91) _ = _
                                            simp only [Act.put, List.setIfInBounds_toArray, List.set_cons_zero, List.set_cons_succ, i64_w, i32_w]
                                            rfl
                                          refine one_ (i := 2) (N := some 93) #[true, true, true, true, true, false, false, false] rfl rfl (one_of HT_.out (by kernel_rfl)) (by decide) (fun K hK => ?_)
                                          refine Kd.R_append_rows_step k24 (w0 := w) w.heap.size (by rfl) (.tmp 91) (.tmp 92) 25 24 (.agg #[(.string ⟨#[]⟩), (.string ⟨#[]⟩)]) 32 rfl Tryd.underlying25 info24 rfl (by decide) (by omega) v157 y156 l0 _ _ _ (fun k_ => some k_ ≠ (v163 : Value).ownBlock ∧ k_ ≠ gb136) (fun _ => False) rfl rfl ?aO ?aR (fun _ _ h => h) (fun _ h => h.elim) ?aF ?aB ?aS ?aL ?_
                                          (case aR => repeat (first | exact (Kd.C_below HR0.out HB.out) | (with_reducible refine Kd.C_alloc ?_ _) | (with_reducible refine Kd.C_drewN ?_ _) | (with_reducible refine Kd.C_drew ?_)))
                                          (case aB => exact (by repeat (first | (with_reducible first | exact HB.out | apply below_alloc | apply pw_below_drewN | apply below_drew1 | refine below_set ?_ GE136.out) | exact HB.out)))
                                          (case aF => exact (fun k_ hk => ⟨Kd.fresh' (Kd.R_lt (by (with_reducible repeat (first | apply Kd.R_alloc | apply Kd.R_drewN | apply Kd.R_drew)); exact HO164.out)) k_ hk, Kd.freshB (g := gb136) (o := .cells #[.string a1_0, .string nm] 24 (0, 0)) (by (with_reducible repeat (first | refine blk_drewN ?_ _ | refine blk_drew ?_ | refine blk_alloc ?_ _)); exact BK136.out) k_ hk⟩))
                                          (case aO => exact (by (with_reducible repeat (first | apply Kd.R_alloc | apply Kd.R_drewN | apply Kd.R_drew)); exact Kd.R_mono HO158.out (fun _ hk => ⟨hk.1.2, hk.2⟩)))
                                          (case aS => exact (below_size (by repeat (first | (with_reducible first | exact HB.out | apply below_alloc | apply pw_below_drewN | apply below_drew1 | refine below_set ?_ GE136.out) | exact HB.out))))
                                          (case aL => have := LMc52.out; omega)
                                          intro v160 w138 ho hb hg hat
                                          rw [← Ny159.out] at ho
                                          have n0_ := Aside0.mk (blk_grown (g := gb136) (o := .cells #[.string a1_0, .string nm] 24 (0, 0)) (by (with_reducible repeat (first | refine blk_drewN ?_ _ | refine blk_drew ?_ | refine blk_alloc ?_ _)); exact BK136.out) hg (Kd.R_away HO158.out (fun _ hk => hk.2)))
                                          have n1_ := Aside0.mk (Kd.R_after (ok := (fun k_ => k_ ≠ gb136)) (by (with_reducible repeat (first | apply Kd.R_alloc | apply Kd.R_drewN | apply Kd.R_drew)); exact Kd.R_mono HO164.out (fun _ hk => ⟨hk.1.2, hk.2⟩)) hg hat)
                                          have n2_ := Aside0.mk (hb)
                                          have n3_ := Aside0.mk (ho)
                                          clear BK136
                                          clear HO164
                                          clear HB
                                          clear HO158
                                          have BK136 := n0_
                                          have HO164 := n1_
                                          have HB := n2_
                                          have HO161 := n3_
                                          clear n0_ n1_ n2_ n3_
                                          clear ho hb hg hat
                                          refine hK.out _ _ ⟨(blk_cell BK136.out 0).trans rfl, (blk_cell BK136.out 1).trans rfl⟩ (fun hHeld => ?_)
                                          clear hK K
                                          refine norm_ (a' := ?_) ?_ ?_
                                          rotate_left
                                          · show Act.put _ (some 93) _ = _
                                            simp only [Act.put, List.setIfInBounds_toArray, List.set_cons_zero, List.set_cons_succ, i64_w, i32_w]
                                            rfl
                                          exact norm_ (by simp only [putAll, Act.put, List.setIfInBounds_toArray, List.set_cons_zero, List.set_cons_succ]) (hCont (v157, v160, v163) _ ⟨hHeld, (by (with_reducible repeat (first | apply Kd.R_alloc | apply Kd.R_drewN | apply Kd.R_drew)); exact HO161.out), (by (with_reducible repeat (first | apply Kd.R_alloc | apply Kd.R_drewN | apply Kd.R_drew)); exact Kd.R_mono HO164.out (fun _ hk => ⟨hk.2, hk.1⟩)), (by (with_reducible repeat (first | refine blk_drewN ?_ _ | refine blk_drew ?_ | refine blk_alloc ?_ _)); exact BK136.out), (by repeat (first | (with_reducible first | exact HB.out | apply below_alloc | apply pw_below_drewN | apply below_drew1 | refine below_set ?_ GE136.out) | exact HB.out))⟩)
                                      rintro ⟨v157, v160, v163⟩ w139 ⟨hS_, h0_, h1_, h2_, h3_⟩
                                      have n0_ : Aside0 (Kd.R k24 24 w139 w.heap.size (fun k_ => some k_ ≠ (v163 : Value).ownBlock ∧ k_ ≠ gb136) v160 y159) := ⟨h0_⟩
                                      have n1_ : Aside0 (Kd.R k24 24 w139 w.heap.size (fun k_ => some k_ ≠ (v160 : Value).ownBlock ∧ k_ ≠ gb136) v163 y162) := ⟨h1_⟩
                                      have n2_ : Aside0 (w139.heap[gb136]? = some (.cells #[.string a1_0, .string nm] 24 (0, 0))) := ⟨h2_⟩
                                      have n3_ : Aside0 (Below w.heap.size w w139) := ⟨h3_⟩
                                      clear BK136
                                      clear HB
                                      clear h0_ h1_ h2_ h3_
                                      have HO161 := n0_
                                      have HO164 := n1_
                                      have BK136 := n2_
                                      have HB := n3_
                                      clear n0_ n1_ n2_ n3_
                                      have hHeld : w139.cell? ⟨gb136, 0, none⟩ = some (.string a1_0) ∧ w139.cell? ⟨gb136, 1, none⟩ = some (.string nm) := hS_
                                      obtain ⟨Ao141, co141, eo141⟩ := Kd.R_slice HO164.out
                                      (first | subst eo141 | (injection eo141 with f1_ f2_ f3_; have f4_ := f1_.symm; have f5_ := f3_.symm; clear f1_ f2_ f3_; subst f4_; subst f5_))
                                      refine norm_ (a' := ?_) ?_ ?_
                                      rotate_left
                                      · simp only [putAll, Act.put, List.setIfInBounds_toArray, List.set_cons_zero, List.set_cons_succ]
                                        rfl
                                      refine one_ (i := 5) (N := some 96) #[true, true, true, true, true, true, false, false] rfl rfl (one_of HT_.out (by kernel_rfl)) (by decide) (fun K hK => ?_)
                                      refine Kd.R_append_rows_step k24 (w0 := w) w.heap.size (by rfl) (.tmp 93) (.tmp 95) 25 24 (.agg #[(.string ⟨#[]⟩), (.string ⟨#[]⟩)]) 32 rfl Tryd.underlying25 info24 rfl (by decide) (by omega) v160 y159 y162 _ _ _ (fun k_ => some k_ ≠ (.slice Ao141 y162.length co141 : Value).ownBlock ∧ k_ ≠ gb136) (fun _ => False) rfl rfl ?aO ?aR (fun _ _ h => h) (fun _ h => h.elim) ?aF ?aB ?aS ?aL ?_
                                      (case aR => repeat (first | exact (Kd.R_reads' HO164.out).2.2 | (with_reducible refine Kd.C_alloc ?_ _) | (with_reducible refine Kd.C_drewN ?_ _) | (with_reducible refine Kd.C_drew ?_)))
                                      (case aB => exact (by repeat (first | (with_reducible first | exact HB.out | apply below_alloc | apply pw_below_drewN | apply below_drew1 | refine below_set ?_ GE136.out) | exact HB.out)))
                                      (case aF => exact (fun k_ hk => ⟨Kd.fresh' (Kd.R_lt (by (with_reducible repeat (first | apply Kd.R_alloc | apply Kd.R_drewN | apply Kd.R_drew)); exact HO164.out)) k_ hk, Kd.freshB (g := gb136) (o := .cells #[.string a1_0, .string nm] 24 (0, 0)) (by (with_reducible repeat (first | refine blk_drewN ?_ _ | refine blk_drew ?_ | refine blk_alloc ?_ _)); exact BK136.out) k_ hk⟩))
                                      (case aO => exact (by (with_reducible repeat (first | apply Kd.R_alloc | apply Kd.R_drewN | apply Kd.R_drew)); exact HO161.out))
                                      (case aS => exact (below_size (by repeat (first | (with_reducible first | exact HB.out | apply below_alloc | apply pw_below_drewN | apply below_drew1 | refine below_set ?_ GE136.out) | exact HB.out))))
                                      (case aL => have := LMc53.out; omega)
                                      intro v166 w140 ho hb hg hat
                                      rw [← Ny165.out] at ho
                                      have n0_ := Aside0.mk (blk_grown (g := gb136) (o := .cells #[.string a1_0, .string nm] 24 (0, 0)) (by (with_reducible repeat (first | refine blk_drewN ?_ _ | refine blk_drew ?_ | refine blk_alloc ?_ _)); exact BK136.out) hg (Kd.R_away HO161.out (fun _ hk => hk.2)))
                                      have n1_ := Aside0.mk (Kd.R_after (ok := (fun k_ => k_ ≠ gb136)) (by (with_reducible repeat (first | apply Kd.R_alloc | apply Kd.R_drewN | apply Kd.R_drew)); exact Kd.R_mono HO164.out (fun _ hk => ⟨hk.2, hk.1⟩)) hg hat)
                                      have n2_ := Aside0.mk (hb)
                                      have n3_ := Aside0.mk (ho)
                                      clear BK136
                                      clear HO164
                                      clear HB
                                      clear HO161
                                      have BK136 := n0_
                                      have HO164 := n1_
                                      have HB := n2_
                                      have HO167 := n3_
                                      clear n0_ n1_ n2_ n3_
                                      clear ho hb hg hat
                                      obtain ⟨Ao142, co142, eo142⟩ := Kd.R_slice HO167.out
                                      (first | subst eo142 | (injection eo142 with f1_ f2_ f3_; have f4_ := f1_.symm; have f5_ := f3_.symm; clear f1_ f2_ f3_; subst f4_; subst f5_))
                                      refine hK.out _ _ ⟨(blk_cell BK136.out 0).trans rfl, (blk_cell BK136.out 1).trans rfl⟩ (fun hHeld => ?_)
                                      clear hK K
                                      refine norm_ (a' := ?_) ?_ ?_
                                      rotate_left
                                      · show Act.put _ (some 96) _ = _
                                        simp only [Act.put, List.setIfInBounds_toArray, List.set_cons_zero, List.set_cons_succ, i64_w, i32_w]
                                        rfl
                                      refine one_ (i := 6) (N := some 97) #[true, true, true, true, true, true, true, false] rfl rfl (one_of HT_.out (by kernel_rfl)) (by decide) (fun K hK => ?_)
                                      refine goes_ Tryd.func12 (by kernel_rfl) rfl #[.slice Ao142 y165.length co142] (by rfl) rfl rfl (by (try simp only [List.map_toArray, List.map_cons, List.map_nil]); first | done | rfl | (simp only [List.length_drop, List.length_take]; rfl)) ?_
                                      with_reducible refine (headers_Check.calls k3 _ _ y165 t168 _ ?side1 ?side2 A54.out).mono ?_
                                      (case side1 => repeat (first | exact (Kd.R_reads' HO167.out).2.2 | (with_reducible refine Kd.C_alloc ?_ _) | (with_reducible refine Kd.C_drewN ?_ _) | (with_reducible refine Kd.C_drew ?_)))
                                      (case side2 => exact (Kd.R_reads' HO167.out).2.1)
                                      rintro e w143 ⟨rfl, hb⟩
                                      refine ⟨_, rfl, ?_⟩
                                      have n0_ := Aside0.mk (Kd.R_below (by (with_reducible repeat (first | apply Kd.R_alloc | apply Kd.R_drewN | apply Kd.R_drew)); exact HO164.out) hb)
                                      have n1_ := Aside0.mk (Kd.R_below (by (with_reducible repeat (first | apply Kd.R_alloc | apply Kd.R_drewN | apply Kd.R_drew)); exact HO167.out) hb)
                                      have n2_ := Aside0.mk (blk_below (g := gb136) (o := .cells #[.string a1_0, .string nm] 24 (0, 0)) (by (with_reducible repeat (first | refine blk_drewN ?_ _ | refine blk_drew ?_ | refine blk_alloc ?_ _)); exact BK136.out) hb)
                                      have n3_ := Aside0.mk (below_step (by repeat (first | (with_reducible first | exact HB.out | apply below_alloc | apply pw_below_drewN | apply below_drew1 | refine below_set ?_ GE136.out) | exact HB.out)) hb)
                                      clear HO164
                                      clear HO167
                                      clear BK136
                                      clear HB
                                      have HO164 := n0_
                                      have HO167 := n1_
                                      have BK136 := n2_
                                      have HB := n3_
                                      clear n0_ n1_ n2_ n3_
                                      (try clear hb)
                                      (try clear hb2)
                                      (try clear hk)
                                      (try clear hi)
                                      refine hK.out _ _ ⟨(blk_cell BK136.out 0).trans rfl, (blk_cell BK136.out 1).trans rfl⟩ (fun hHeld => ?_)
                                      clear hK K
                                      refine norm_ (a' := ?_) ?_ ?_
                                      rotate_left
                                      · show Act.put _ (some 97) _ = _
                                        simp only [Act.put, List.setIfInBounds_toArray, List.set_cons_zero, List.set_cons_succ, i64_w, i32_w]
                                        rfl
                                      refine pure_ (i := 7) (N := some 12) (v := ?_) (a' := ?_) #[true, true, true, true, true, true, true, true] rfl rfl (any_of HT_.out (by kernel_rfl)) (fun _ _ _ h => h) (Or.inl ⟨by rfl, ?_⟩) ?_ ?_
                                      rotate_left
                                      · intro w'
                                        go_simp
                                        with_reducible rfl
                                      rotate_left
                                      · simp only [Act.put, List.setIfInBounds_toArray, List.set_cons_zero, List.set_cons_succ, i64_w, i32_w]
                                        rfl
                                      refine done_ (done_of HT_.out (by kernel_rfl)) ?_
                                      try go_wp2
                                      go_ret
                                      exact ⟨by first | rfl | (simp [errW_none, errW_some] <;> rfl) | (simp [*, errW_none, errW_some] <;> rfl) | (simp [q_ne_nil]; done), by repeat (first | (with_reducible first | exact HB.out | apply below_alloc | apply pw_below_drewN | apply below_drew1 | refine below_set ?_ GE136.out) | exact HB.out)⟩
                                  · exact absurd H (by rw [if_neg c118]; simp)
                                · exact absurd H (by rw [if_neg c117]; simp)
                            · exact absurd H (by rw [if_neg c53]; simp)
                          · exact absurd H (by rw [if_neg c52]; simp)
              · exact absurd H (by rw [if_neg c30]; simp)
            · exact absurd H (by rw [if_neg c29]; simp)
    · exact absurd H (by rw [if_neg c6]; simp)
  · exact absurd H (by rw [if_neg c5]; simp)

end Go.Proofs.YtebkibohejjkcaaDoor.Q
