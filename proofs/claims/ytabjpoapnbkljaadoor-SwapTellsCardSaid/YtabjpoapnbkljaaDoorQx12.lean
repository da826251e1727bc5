-- Laid by this seat's own driver (wip/tools/drive.py) out of the translation.
import Derived.Test.YtabjpoapnbkljaaDoorQx0
import Derived.Test.YtabjpoapnbkljaaDoorQx3
import Derived.Test.YtabjpoapnbkljaaDoorQx7
import Derived.Test.YtabjpoapnbkljaaDoorQx8
namespace Go.Proofs.YtabjpoapnbkljaaDoor.Q
open Go.RowKit Go.Proofs.YtabjpoapnbkljaaDoorW.PrintWords Go.Proofs.YtabjpoapnbkljaaDoorW.PrintLast Go.Proofs.YtabjpoapnbkljaaDoorW.PrintMore
attribute [local go_sem] max2_int min2_int max_two min_two max_three min_three max_four min_four   -- for this text's walks alone
set_option linter.unusedVariables false
set_option linter.unusedSimpArgs false

/-! ### glacislaw19_SwapTells: function 3 -/
def glacislaw19_SwapTells.f (k : Nat) (a0 : Bool) (a1_0 : Int) (a1_1 : ByteArray) (a1_2 : Int) (a1_3 : ByteArray) (a2_0 : Bool) (a2_1 : Int) (a2_2 : ByteArray) (a2_3 : ByteArray) (a2_4 : Bool) (a2_5 : Int) (a2_6 : Int) (a3_0 : Int) (a3_1 : ByteArray) (a3_2 : Int) (a3_3 : ByteArray) (a4_0 : Bool) (a4_1 : Int) (a4_2 : ByteArray) (a4_3 : ByteArray) (a4_4 : Bool) (a4_5 : Int) (a4_6 : Int) : Option (Bool) := (glacislaw19_awake.f k).bind fun t191 => ((glacislaw19_short.f a2_0 a2_1 a2_2 a2_3 a2_4 a2_5 a2_6 a4_0 a4_1 a4_2 a4_3 a4_4 a4_5 a4_6).bind fun t192 => (if t192 = true then ((swap_Reports.f a0 a1_0 a1_1 a1_2 a1_3 a2_0 a2_1 a2_2 a2_3 a2_4 a2_5 a2_6 a3_0 a3_1 a3_2 a3_3 a4_0 a4_1 a4_2 a4_3 a4_4 a4_5 a4_6).bind fun bt193 => ((glacisref19_Reports.f k a0 a1_0 a1_1 a1_2 a1_3 a2_0 a2_1 a2_2 a2_3 a2_4 a2_5 a2_6 a3_0 a3_1 a3_2 a3_3 a4_0 a4_1 a4_2 a4_3 a4_4 a4_5 a4_6).bind fun bt195 => ((swap_Match.f a1_0 a2_0 a2_1 a2_2 a2_3 a2_4 a2_5 a2_6 a3_0 a4_0 a4_1 a4_2 a4_3 a4_4 a4_5 a4_6).bind fun t197 => ((glacisref19_Match.f k a1_0 a2_0 a2_1 a2_2 a2_3 a2_4 a2_5 a2_6 a3_0 a4_0 a4_1 a4_2 a4_3 a4_4 a4_5 a4_6).bind fun t198 => ((swap_Swap.f a0 a1_0 a2_0 a2_1 a2_2 a2_3 a2_4 a2_5 a2_6 a3_0 a4_0 a4_1 a4_2 a4_3 a4_4 a4_5 a4_6).bind fun t199 => ((glacisref19_Swap.f k a0 a1_0 a2_0 a2_1 a2_2 a2_3 a2_4 a2_5 a2_6 a3_0 a4_0 a4_1 a4_2 a4_3 a4_4 a4_5 a4_6).bind fun t200 => (if t191 = true then (if (bt193.1 == bt195.1) = true then (if (bt193.2 == bt195.2) = true then (if (t197 == t198) = true then (some (t199 == t200)) else (none)) else (none)) else (none)) else (none)))))))) else (some t191)))
theorem glacislaw19_SwapTells.mono : ∀ a0 a1 a2 a3 a4 a5 a6 a7 a8 a9 a10 a11 a12 a13 a14 a15 a16 a17 a18 a19 a20 a21 a22 k, LeO (glacislaw19_SwapTells.f k a0 a1 a2 a3 a4 a5 a6 a7 a8 a9 a10 a11 a12 a13 a14 a15 a16 a17 a18 a19 a20 a21 a22) (glacislaw19_SwapTells.f (k + 1) a0 a1 a2 a3 a4 a5 a6 a7 a8 a9 a10 a11 a12 a13 a14 a15 a16 a17 a18 a19 a20 a21 a22) := by
  intro a0 a1 a2 a3 a4 a5 a6 a7 a8 a9 a10 a11 a12 a13 a14 a15 a16 a17 a18 a19 a20 a21 a22 k
  unfold glacislaw19_SwapTells.f
  repeat' first
      | (with_reducible exact glacislaw19_awake.mono _)
      | (with_reducible exact glacisref19_Match.mono _ _ _ _ _ _ _ _ _ _ _ _ _ _ _ _ _)
      | (with_reducible exact glacisref19_Reports.mono _ _ _ _ _ _ _ _ _ _ _ _ _ _ _ _ _ _ _ _ _ _ _ _)
      | (with_reducible exact glacisref19_Swap.mono _ _ _ _ _ _ _ _ _ _ _ _ _ _ _ _ _ _)
      | (with_reducible exact LeO.refl _)
      | (with_reducible exact LeO.none _)
      | (with_reducible refine LeO.ite ?_ ?_)
      | (with_reducible refine LeO.bind ?_ (fun _ => ?_))
      | exact glacislaw19_awake.mono _
      | exact glacisref19_Match.mono _ _ _ _ _ _ _ _ _ _ _ _ _ _ _ _ _
      | exact glacisref19_Reports.mono _ _ _ _ _ _ _ _ _ _ _ _ _ _ _ _ _ _ _ _ _ _ _ _
      | exact glacisref19_Swap.mono _ _ _ _ _ _ _ _ _ _ _ _ _ _ _ _ _ _
      | exact LeO.none _
      | refine LeO.ite ?_ ?_
      | refine LeO.bind ?_ (fun _ => ?_)
def glacislaw19_SwapTells.T6 : Bool × List (List Nat × List Nat) := (true, [([], []), ([0], [0]), ([], []), ([], []), ([3], [3]), ([], []), ([1, 2, 4, 5], [1, 2, 4, 5]), ([], []), ([7], [7]), ([], []), ([], []), ([10], [10]), ([], []), ([8, 9, 11, 12, 6], [8, 9, 11, 12]), ([6, 13], [6, 13]), ([14, 13, 0, 1, 2, 3, 4, 5, 6, 7, 8, 9, 10, 11, 12, 13, 14], [14])])
def glacislaw19_SwapTells.B6 : List Nat := [0, 1, 0, 0, 8, 0, 63, 0, 128, 0, 0, 1024, 0, 8191, 16383, 32767]
theorem glacislaw19_SwapTells.tab6 : rtab .any (opsOf Tryd.f3 6) = glacislaw19_SwapTells.T6 := by kernel_rfl
theorem glacislaw19_SwapTells.bits6 : waitsOk glacislaw19_SwapTells.T6.2 glacislaw19_SwapTells.B6 = true := by kernel_rfl
def glacislaw19_SwapTells.T7 : Bool × List (List Nat × List Nat) := (true, [([], []), ([], []), ([1], [1]), ([], []), ([], []), ([4], [4]), ([], []), ([0, 2, 3, 5, 6], [0, 2, 3, 5, 6]), ([], []), ([], []), ([9], [9]), ([], []), ([], []), ([12], [12]), ([], []), ([8, 10, 11, 13, 14, 7], [8, 10, 11, 13, 14]), ([7, 15], [7, 15]), ([16, 15, 0, 1, 2, 3, 4, 5, 6, 7, 8, 9, 10, 11, 12, 13, 14, 15, 16], [16])])
def glacislaw19_SwapTells.B7 : List Nat := [0, 0, 2, 0, 0, 16, 0, 127, 0, 0, 512, 0, 0, 4096, 0, 32767, 65535, 131071]
theorem glacislaw19_SwapTells.tab7 : rtab .any (opsOf Tryd.f3 7) = glacislaw19_SwapTells.T7 := by kernel_rfl
theorem glacislaw19_SwapTells.bits7 : waitsOk glacislaw19_SwapTells.T7.2 glacislaw19_SwapTells.B7 = true := by kernel_rfl
set_option maxHeartbeats 8000000 in
set_option maxRecDepth 100000 in
theorem glacislaw19_SwapTells.calls (k : Nat) (a0 : Bool) (a1_0 : Int) (a1_1 : ByteArray) (a1_2 : Int) (a1_3 : ByteArray) (a2_0 : Bool) (a2_1 : Int) (a2_2 : ByteArray) (a2_3 : ByteArray) (a2_4 : Bool) (a2_5 : Int) (a2_6 : Int) (a3_0 : Int) (a3_1 : ByteArray) (a3_2 : Int) (a3_3 : ByteArray) (a4_0 : Bool) (a4_1 : Int) (a4_2 : ByteArray) (a4_3 : ByteArray) (a4_4 : Bool) (a4_5 : Int) (a4_6 : Int) (r : Bool) (w : World) (h : glacislaw19_SwapTells.f k a0 a1_0 a1_1 a1_2 a1_3 a2_0 a2_1 a2_2 a2_3 a2_4 a2_5 a2_6 a3_0 a3_1 a3_2 a3_3 a4_0 a4_1 a4_2 a4_3 a4_4 a4_5 a4_6 = some r) :
    Calls Tryd.prog 3 #[.bool a0, .agg #[.int .i64 a1_0, .string a1_1, .int .i64 a1_2, .string a1_3], .agg #[.bool a2_0, .int .i64 a2_1, .string a2_2, .string a2_3, .bool a2_4, .int .u32 a2_5, .int .i64 a2_6], .agg #[.int .i64 a3_0, .string a3_1, .int .i64 a3_2, .string a3_3], .agg #[.bool a4_0, .int .i64 a4_1, .string a4_2, .string a4_3, .bool a4_4, .int .u32 a4_5, .int .i64 a4_6]] w fun e w' => e = .returned (.bool r) ∧ Below w.heap.size w w' := by
  have hu23 := Tryd.underlying23
  have hu28 := Tryd.underlying28
  have HB := Aside0.mk (Below.refl w.heap.size w)
  have H : ((glacislaw19_awake.f k).bind fun t191 => ((glacislaw19_short.f a2_0 a2_1 a2_2 a2_3 a2_4 a2_5 a2_6 a4_0 a4_1 a4_2 a4_3 a4_4 a4_5 a4_6).bind fun t192 => (if t192 = true then ((swap_Reports.f a0 a1_0 a1_1 a1_2 a1_3 a2_0 a2_1 a2_2 a2_3 a2_4 a2_5 a2_6 a3_0 a3_1 a3_2 a3_3 a4_0 a4_1 a4_2 a4_3 a4_4 a4_5 a4_6).bind fun bt193 => ((glacisref19_Reports.f k a0 a1_0 a1_1 a1_2 a1_3 a2_0 a2_1 a2_2 a2_3 a2_4 a2_5 a2_6 a3_0 a3_1 a3_2 a3_3 a4_0 a4_1 a4_2 a4_3 a4_4 a4_5 a4_6).bind fun bt195 => ((swap_Match.f a1_0 a2_0 a2_1 a2_2 a2_3 a2_4 a2_5 a2_6 a3_0 a4_0 a4_1 a4_2 a4_3 a4_4 a4_5 a4_6).bind fun t197 => ((glacisref19_Match.f k a1_0 a2_0 a2_1 a2_2 a2_3 a2_4 a2_5 a2_6 a3_0 a4_0 a4_1 a4_2 a4_3 a4_4 a4_5 a4_6).bind fun t198 => ((swap_Swap.f a0 a1_0 a2_0 a2_1 a2_2 a2_3 a2_4 a2_5 a2_6 a3_0 a4_0 a4_1 a4_2 a4_3 a4_4 a4_5 a4_6).bind fun t199 => ((glacisref19_Swap.f k a0 a1_0 a2_0 a2_1 a2_2 a2_3 a2_4 a2_5 a2_6 a3_0 a4_0 a4_1 a4_2 a4_3 a4_4 a4_5 a4_6).bind fun t200 => (if t191 = true then (if (bt193.1 == bt195.1) = true then (if (bt193.2 == bt195.2) = true then (if (t197 == t198) = true then (some (t199 == t200)) else (none)) else (none)) else (none)) else (none)))))))) else (some t191)))) = some r := h
  clear h
  replace H := Option.bind_eq_some_iff.mp H
  obtain ⟨t191, A60, H⟩ := H
  replace H : ((glacislaw19_short.f a2_0 a2_1 a2_2 a2_3 a2_4 a2_5 a2_6 a4_0 a4_1 a4_2 a4_3 a4_4 a4_5 a4_6).bind fun t192 => (if t192 = true then ((swap_Reports.f a0 a1_0 a1_1 a1_2 a1_3 a2_0 a2_1 a2_2 a2_3 a2_4 a2_5 a2_6 a3_0 a3_1 a3_2 a3_3 a4_0 a4_1 a4_2 a4_3 a4_4 a4_5 a4_6).bind fun bt193 => ((glacisref19_Reports.f k a0 a1_0 a1_1 a1_2 a1_3 a2_0 a2_1 a2_2 a2_3 a2_4 a2_5 a2_6 a3_0 a3_1 a3_2 a3_3 a4_0 a4_1 a4_2 a4_3 a4_4 a4_5 a4_6).bind fun bt195 => ((swap_Match.f a1_0 a2_0 a2_1 a2_2 a2_3 a2_4 a2_5 a2_6 a3_0 a4_0 a4_1 a4_2 a4_3 a4_4 a4_5 a4_6).bind fun t197 => ((glacisref19_Match.f k a1_0 a2_0 a2_1 a2_2 a2_3 a2_4 a2_5 a2_6 a3_0 a4_0 a4_1 a4_2 a4_3 a4_4 a4_5 a4_6).bind fun t198 => ((swap_Swap.f a0 a1_0 a2_0 a2_1 a2_2 a2_3 a2_4 a2_5 a2_6 a3_0 a4_0 a4_1 a4_2 a4_3 a4_4 a4_5 a4_6).bind fun t199 => ((glacisref19_Swap.f k a0 a1_0 a2_0 a2_1 a2_2 a2_3 a2_4 a2_5 a2_6 a3_0 a4_0 a4_1 a4_2 a4_3 a4_4 a4_5 a4_6).bind fun t200 => (if t191 = true then (if (bt193.1 == bt195.1) = true then (if (bt193.2 == bt195.2) = true then (if (t197 == t198) = true then (some (t199 == t200)) else (none)) else (none)) else (none)) else (none)))))))) else (some t191))) = some r := H
  have A6 := Aside0.mk A60
  clear A60
  replace H := Option.bind_eq_some_iff.mp H
  obtain ⟨t192, A70, H⟩ := H
  replace H : (if t192 = true then ((swap_Reports.f a0 a1_0 a1_1 a1_2 a1_3 a2_0 a2_1 a2_2 a2_3 a2_4 a2_5 a2_6 a3_0 a3_1 a3_2 a3_3 a4_0 a4_1 a4_2 a4_3 a4_4 a4_5 a4_6).bind fun bt193 => ((glacisref19_Reports.f k a0 a1_0 a1_1 a1_2 a1_3 a2_0 a2_1 a2_2 a2_3 a2_4 a2_5 a2_6 a3_0 a3_1 a3_2 a3_3 a4_0 a4_1 a4_2 a4_3 a4_4 a4_5 a4_6).bind fun bt195 => ((swap_Match.f a1_0 a2_0 a2_1 a2_2 a2_3 a2_4 a2_5 a2_6 a3_0 a4_0 a4_1 a4_2 a4_3 a4_4 a4_5 a4_6).bind fun t197 => ((glacisref19_Match.f k a1_0 a2_0 a2_1 a2_2 a2_3 a2_4 a2_5 a2_6 a3_0 a4_0 a4_1 a4_2 a4_3 a4_4 a4_5 a4_6).bind fun t198 => ((swap_Swap.f a0 a1_0 a2_0 a2_1 a2_2 a2_3 a2_4 a2_5 a2_6 a3_0 a4_0 a4_1 a4_2 a4_3 a4_4 a4_5 a4_6).bind fun t199 => ((glacisref19_Swap.f k a0 a1_0 a2_0 a2_1 a2_2 a2_3 a2_4 a2_5 a2_6 a3_0 a4_0 a4_1 a4_2 a4_3 a4_4 a4_5 a4_6).bind fun t200 => (if t191 = true then (if (bt193.1 == bt195.1) = true then (if (bt193.2 == bt195.2) = true then (if (t197 == t198) = true then (some (t199 == t200)) else (none)) else (none)) else (none)) else (none)))))))) else (some t191)) = some r := H
  have A7 := Aside0.mk A70
  clear A70
  by_cases c8 : t192 = true
  · subst c8
    have H1 : ((swap_Reports.f a0 a1_0 a1_1 a1_2 a1_3 a2_0 a2_1 a2_2 a2_3 a2_4 a2_5 a2_6 a3_0 a3_1 a3_2 a3_3 a4_0 a4_1 a4_2 a4_3 a4_4 a4_5 a4_6).bind fun bt193 => ((glacisref19_Reports.f k a0 a1_0 a1_1 a1_2 a1_3 a2_0 a2_1 a2_2 a2_3 a2_4 a2_5 a2_6 a3_0 a3_1 a3_2 a3_3 a4_0 a4_1 a4_2 a4_3 a4_4 a4_5 a4_6).bind fun bt195 => ((swap_Match.f a1_0 a2_0 a2_1 a2_2 a2_3 a2_4 a2_5 a2_6 a3_0 a4_0 a4_1 a4_2 a4_3 a4_4 a4_5 a4_6).bind fun t197 => ((glacisref19_Match.f k a1_0 a2_0 a2_1 a2_2 a2_3 a2_4 a2_5 a2_6 a3_0 a4_0 a4_1 a4_2 a4_3 a4_4 a4_5 a4_6).bind fun t198 => ((swap_Swap.f a0 a1_0 a2_0 a2_1 a2_2 a2_3 a2_4 a2_5 a2_6 a3_0 a4_0 a4_1 a4_2 a4_3 a4_4 a4_5 a4_6).bind fun t199 => ((glacisref19_Swap.f k a0 a1_0 a2_0 a2_1 a2_2 a2_3 a2_4 a2_5 a2_6 a3_0 a4_0 a4_1 a4_2 a4_3 a4_4 a4_5 a4_6).bind fun t200 => (if t191 = true then (if (bt193.1 == bt195.1) = true then (if (bt193.2 == bt195.2) = true then (if (t197 == t198) = true then (some (t199 == t200)) else (none)) else (none)) else (none)) else (none)))))))) = some r := by rw [if_pos rfl] at H; exact H
    clear H
    have H := H1
    clear H1
    replace H := Option.bind_eq_some_iff.mp H
    obtain ⟨⟨t193, t194⟩, A90, H⟩ := H
    replace H : ((glacisref19_Reports.f k a0 a1_0 a1_1 a1_2 a1_3 a2_0 a2_1 a2_2 a2_3 a2_4 a2_5 a2_6 a3_0 a3_1 a3_2 a3_3 a4_0 a4_1 a4_2 a4_3 a4_4 a4_5 a4_6).bind fun bt195 => ((swap_Match.f a1_0 a2_0 a2_1 a2_2 a2_3 a2_4 a2_5 a2_6 a3_0 a4_0 a4_1 a4_2 a4_3 a4_4 a4_5 a4_6).bind fun t197 => ((glacisref19_Match.f k a1_0 a2_0 a2_1 a2_2 a2_3 a2_4 a2_5 a2_6 a3_0 a4_0 a4_1 a4_2 a4_3 a4_4 a4_5 a4_6).bind fun t198 => ((swap_Swap.f a0 a1_0 a2_0 a2_1 a2_2 a2_3 a2_4 a2_5 a2_6 a3_0 a4_0 a4_1 a4_2 a4_3 a4_4 a4_5 a4_6).bind fun t199 => ((glacisref19_Swap.f k a0 a1_0 a2_0 a2_1 a2_2 a2_3 a2_4 a2_5 a2_6 a3_0 a4_0 a4_1 a4_2 a4_3 a4_4 a4_5 a4_6).bind fun t200 => (if t191 = true then (if (t193 == bt195.1) = true then (if (t194 == bt195.2) = true then (if (t197 == t198) = true then (some (t199 == t200)) else (none)) else (none)) else (none)) else (none))))))) = some r := H
    have A9 := Aside0.mk A90
    clear A90
    replace H := Option.bind_eq_some_iff.mp H
    obtain ⟨⟨t195, t196⟩, A100, H⟩ := H
    replace H : ((swap_Match.f a1_0 a2_0 a2_1 a2_2 a2_3 a2_4 a2_5 a2_6 a3_0 a4_0 a4_1 a4_2 a4_3 a4_4 a4_5 a4_6).bind fun t197 => ((glacisref19_Match.f k a1_0 a2_0 a2_1 a2_2 a2_3 a2_4 a2_5 a2_6 a3_0 a4_0 a4_1 a4_2 a4_3 a4_4 a4_5 a4_6).bind fun t198 => ((swap_Swap.f a0 a1_0 a2_0 a2_1 a2_2 a2_3 a2_4 a2_5 a2_6 a3_0 a4_0 a4_1 a4_2 a4_3 a4_4 a4_5 a4_6).bind fun t199 => ((glacisref19_Swap.f k a0 a1_0 a2_0 a2_1 a2_2 a2_3 a2_4 a2_5 a2_6 a3_0 a4_0 a4_1 a4_2 a4_3 a4_4 a4_5 a4_6).bind fun t200 => (if t191 = true then (if (t193 == t195) = true then (if (t194 == t196) = true then (if (t197 == t198) = true then (some (t199 == t200)) else (none)) else (none)) else (none)) else (none)))))) = some r := H
    have A10 := Aside0.mk A100
    clear A100
    replace H := Option.bind_eq_some_iff.mp H
    obtain ⟨t197, A110, H⟩ := H
    replace H : ((glacisref19_Match.f k a1_0 a2_0 a2_1 a2_2 a2_3 a2_4 a2_5 a2_6 a3_0 a4_0 a4_1 a4_2 a4_3 a4_4 a4_5 a4_6).bind fun t198 => ((swap_Swap.f a0 a1_0 a2_0 a2_1 a2_2 a2_3 a2_4 a2_5 a2_6 a3_0 a4_0 a4_1 a4_2 a4_3 a4_4 a4_5 a4_6).bind fun t199 => ((glacisref19_Swap.f k a0 a1_0 a2_0 a2_1 a2_2 a2_3 a2_4 a2_5 a2_6 a3_0 a4_0 a4_1 a4_2 a4_3 a4_4 a4_5 a4_6).bind fun t200 => (if t191 = true then (if (t193 == t195) = true then (if (t194 == t196) = true then (if (t197 == t198) = true then (some (t199 == t200)) else (none)) else (none)) else (none)) else (none))))) = some r := H
    have A11 := Aside0.mk A110
    clear A110
    replace H := Option.bind_eq_some_iff.mp H
    obtain ⟨t198, A120, H⟩ := H
    replace H : ((swap_Swap.f a0 a1_0 a2_0 a2_1 a2_2 a2_3 a2_4 a2_5 a2_6 a3_0 a4_0 a4_1 a4_2 a4_3 a4_4 a4_5 a4_6).bind fun t199 => ((glacisref19_Swap.f k a0 a1_0 a2_0 a2_1 a2_2 a2_3 a2_4 a2_5 a2_6 a3_0 a4_0 a4_1 a4_2 a4_3 a4_4 a4_5 a4_6).bind fun t200 => (if t191 = true then (if (t193 == t195) = true then (if (t194 == t196) = true then (if (t197 == t198) = true then (some (t199 == t200)) else (none)) else (none)) else (none)) else (none)))) = some r := H
    have A12 := Aside0.mk A120
    clear A120
    replace H := Option.bind_eq_some_iff.mp H
    obtain ⟨t199, A130, H⟩ := H
    replace H : ((glacisref19_Swap.f k a0 a1_0 a2_0 a2_1 a2_2 a2_3 a2_4 a2_5 a2_6 a3_0 a4_0 a4_1 a4_2 a4_3 a4_4 a4_5 a4_6).bind fun t200 => (if t191 = true then (if (t193 == t195) = true then (if (t194 == t196) = true then (if (t197 == t198) = true then (some (t199 == t200)) else (none)) else (none)) else (none)) else (none))) = some r := H
    have A13 := Aside0.mk A130
    clear A130
    replace H := Option.bind_eq_some_iff.mp H
    obtain ⟨t200, A140, H⟩ := H
    replace H : (if t191 = true then (if (t193 == t195) = true then (if (t194 == t196) = true then (if (t197 == t198) = true then (some (t199 == t200)) else (none)) else (none)) else (none)) else (none)) = some r := H
    have A14 := Aside0.mk A140
    clear A140
    by_cases c15 : t191 = true
    · subst c15
      have H1 : (if (t193 == t195) = true then (if (t194 == t196) = true then (if (t197 == t198) = true then (some (t199 == t200)) else (none)) else (none)) else (none)) = some r := by rw [if_pos rfl] at H; exact H
      clear H
      have H := H1
      clear H1
      by_cases c16 : (t193 == t195) = true
      · rw [if_pos c16] at H
        have c16b0 : (t193 == t195) = true := c16
        (try (have c16b1 : decide (t193 = t195) = true := by simpa using c16))
        (try (have c16b2 : (t193 == t195) = true := by simpa using c16))
        clear c16
        by_cases c17 : (t194 == t196) = true
        · rw [if_pos c17] at H
          have c17b0 : (t194 == t196) = true := c17
          (try (have c17b1 : decide (t194 = t196) = true := by simpa using c17))
          (try (have c17b2 : (t194 == t196) = true := by simpa using c17))
          clear c17
          by_cases c18 : (t197 == t198) = true
          · rw [if_pos c18] at H
            have c18b0 : (t197 == t198) = true := c18
            (try (have c18b1 : decide (t197 = t198) = true := by simpa using c18))
            (try (have c18b2 : (t197 == t198) = true := by simpa using c18))
            clear c18
            obtain rfl := Option.some.inj H
            go_enter Tryd.func3, Tryd.ntmps3
            try go_wp2_with (first | ((with_reducible refine gate_dst (N := 6) rfl ?_); refine box_event ?hg (N := 6) ?hd (cs := #[.int .i64 a1_0, .string a1_1, .int .i64 a1_2, .string a1_3]) (t := 23) ?hr ?_; (case hd => rfl); (case hg => rfl); (case hr => first | (go_simp; done) | (go_simp; rfl)); intro gb187 hg w19 hbox hb; have n0_ := Aside0.mk (below_step (by repeat (first | (with_reducible first | exact HB.out | apply below_alloc | apply pw_below_drewN | apply below_drew1) | exact HB.out)) hb); have n1_ := Aside0.mk (hbox); have n2_ := Aside0.mk ((by rw [hg]; exact (below_size (by repeat (first | (with_reducible first | exact HB.out | apply below_alloc | apply pw_below_drewN | apply below_drew1) | exact HB.out))) : w.heap.size ≤ gb187)); have n3_ := Aside0.mk ((by rw [hg]; exact (below_size (by repeat (first | (with_reducible first | exact HB.out | apply below_alloc | apply pw_below_drewN | apply below_drew1) | exact HB.out))) : w.heap.size ≤ gb187)); clear HB; have HB := n0_; have BK187 := n1_; have GW187 := n2_; have GE187 := n3_; clear n0_ n1_ n2_ n3_; clear hb hbox hg) | ((with_reducible refine gate_dst (N := 7) rfl ?_); refine box_event ?hg (N := 7) ?hd (cs := #[.bool a2_0, .int .i64 a2_1, .string a2_2, .string a2_3, .bool a2_4, .int .u32 a2_5, .int .i64 a2_6]) (t := 28) ?hr ?_; (case hd => rfl); (case hg => rfl); (case hr => first | (go_simp; done) | (go_simp; rfl)); intro gb188 hg w20 hbox hb; have n0_ := Aside0.mk (blk_below (g := gb187) (o := .cells #[.int .i64 a1_0, .string a1_1, .int .i64 a1_2, .string a1_3] 23 (0, 0)) (by (with_reducible repeat (first | refine blk_drewN ?_ _ | refine blk_drew ?_ | refine blk_alloc ?_ _)); exact BK187.out) hb); have n1_ := Aside0.mk (below_step (by repeat (first | (with_reducible first | exact HB.out | apply below_alloc | apply pw_below_drewN | apply below_drew1 | refine below_set ?_ GE187.out) | exact HB.out)) hb); have n2_ := Aside0.mk (hbox); have n3_ := Aside0.mk ((by rw [hg]; exact (below_size (by repeat (first | (with_reducible first | exact HB.out | apply below_alloc | apply pw_below_drewN | apply below_drew1 | refine below_set ?_ GE187.out) | exact HB.out))) : w.heap.size ≤ gb188)); have n4_ := Aside0.mk ((by rw [hg]; exact (below_size (by repeat (first | (with_reducible first | exact HB.out | apply below_alloc | apply pw_below_drewN | apply below_drew1 | refine below_set ?_ GE187.out) | exact HB.out))) : w.heap.size ≤ gb188)); have n5_ := Aside0.mk ((by rw [hg]; exact Nat.ne_of_lt (blk_lt (g := gb187) (o := .cells #[.int .i64 a1_0, .string a1_1, .int .i64 a1_2, .string a1_3] 23 (0, 0)) (by (with_reducible repeat (first | refine blk_drewN ?_ _ | refine blk_drew ?_ | refine blk_alloc ?_ _)); exact BK187.out)) : gb187 ≠ gb188)); have n6_ := Aside0.mk ((by rw [hg]; exact Nat.ne_of_gt (blk_lt (g := gb187) (o := .cells #[.int .i64 a1_0, .string a1_1, .int .i64 a1_2, .string a1_3] 23 (0, 0)) (by (with_reducible repeat (first | refine blk_drewN ?_ _ | refine blk_drew ?_ | refine blk_alloc ?_ _)); exact BK187.out)) : gb188 ≠ gb187)); clear BK187; clear HB; have BK187 := n0_; have HB := n1_; have BK188 := n2_; have GW188 := n3_; have GE188 := n4_; have NB187_188 := n5_; have NB188_187 := n6_; clear n0_ n1_ n2_ n3_ n4_ n5_ n6_; clear hb hbox hg) | ((with_reducible refine gate_dst (N := 8) rfl ?_); refine box_event ?hg (N := 8) ?hd (cs := #[.int .i64 a3_0, .string a3_1, .int .i64 a3_2, .string a3_3]) (t := 23) ?hr ?_; (case hd => rfl); (case hg => rfl); (case hr => first | (go_simp; done) | (go_simp; rfl)); intro gb189 hg w21 hbox hb; have n0_ := Aside0.mk (blk_below (g := gb187) (o := .cells #[.int .i64 a1_0, .string a1_1, .int .i64 a1_2, .string a1_3] 23 (0, 0)) (by (with_reducible repeat (first | refine blk_drewN ?_ _ | refine blk_drew ?_ | refine blk_alloc ?_ _)); exact BK187.out) hb); have n1_ := Aside0.mk (blk_below (g := gb188) (o := .cells #[.bool a2_0, .int .i64 a2_1, .string a2_2, .string a2_3, .bool a2_4, .int .u32 a2_5, .int .i64 a2_6] 28 (0, 0)) (by (with_reducible repeat (first | refine blk_drewN ?_ _ | refine blk_drew ?_ | refine blk_alloc ?_ _)); exact BK188.out) hb); have n2_ := Aside0.mk (below_step (by repeat (first | (with_reducible first | exact HB.out | apply below_alloc | apply pw_below_drewN | apply below_drew1 | refine below_set ?_ GE187.out | refine below_set ?_ GE188.out) | exact HB.out)) hb); have n3_ := Aside0.mk (hbox); have n4_ := Aside0.mk ((by rw [hg]; exact (below_size (by repeat (first | (with_reducible first | exact HB.out | apply below_alloc | apply pw_below_drewN | apply below_drew1 | refine below_set ?_ GE187.out | refine below_set ?_ GE188.out) | exact HB.out))) : w.heap.size ≤ gb189)); have n5_ := Aside0.mk ((by rw [hg]; exact (below_size (by repeat (first | (with_reducible first | exact HB.out | apply below_alloc | apply pw_below_drewN | apply below_drew1 | refine below_set ?_ GE187.out | refine below_set ?_ GE188.out) | exact HB.out))) : w.heap.size ≤ gb189)); have n6_ := Aside0.mk ((by rw [hg]; exact Nat.ne_of_lt (blk_lt (g := gb187) (o := .cells #[.int .i64 a1_0, .string a1_1, .int .i64 a1_2, .string a1_3] 23 (0, 0)) (by (with_reducible repeat (first | refine blk_drewN ?_ _ | refine blk_drew ?_ | refine blk_alloc ?_ _)); exact BK187.out)) : gb187 ≠ gb189)); have n7_ := Aside0.mk ((by rw [hg]; exact Nat.ne_of_gt (blk_lt (g := gb187) (o := .cells #[.int .i64 a1_0, .string a1_1, .int .i64 a1_2, .string a1_3] 23 (0, 0)) (by (with_reducible repeat (first | refine blk_drewN ?_ _ | refine blk_drew ?_ | refine blk_alloc ?_ _)); exact BK187.out)) : gb189 ≠ gb187)); have n8_ := Aside0.mk ((by rw [hg]; exact Nat.ne_of_lt (blk_lt (g := gb188) (o := .cells #[.bool a2_0, .int .i64 a2_1, .string a2_2, .string a2_3, .bool a2_4, .int .u32 a2_5, .int .i64 a2_6] 28 (0, 0)) (by (with_reducible repeat (first | refine blk_drewN ?_ _ | refine blk_drew ?_ | refine blk_alloc ?_ _)); exact BK188.out)) : gb188 ≠ gb189)); have n9_ := Aside0.mk ((by rw [hg]; exact Nat.ne_of_gt (blk_lt (g := gb188) (o := .cells #[.bool a2_0, .int .i64 a2_1, .string a2_2, .string a2_3, .bool a2_4, .int .u32 a2_5, .int .i64 a2_6] 28 (0, 0)) (by (with_reducible repeat (first | refine blk_drewN ?_ _ | refine blk_drew ?_ | refine blk_alloc ?_ _)); exact BK188.out)) : gb189 ≠ gb188)); clear BK187; clear BK188; clear HB; have BK187 := n0_; have BK188 := n1_; have HB := n2_; have BK189 := n3_; have GW189 := n4_; have GE189 := n5_; have NB187_189 := n6_; have NB189_187 := n7_; have NB188_189 := n8_; have NB189_188 := n9_; clear n0_ n1_ n2_ n3_ n4_ n5_ n6_ n7_ n8_ n9_; clear hb hbox hg) | ((with_reducible refine gate_dst (N := 9) rfl ?_); refine box_event ?hg (N := 9) ?hd (cs := #[.bool a4_0, .int .i64 a4_1, .string a4_2, .string a4_3, .bool a4_4, .int .u32 a4_5, .int .i64 a4_6]) (t := 28) ?hr ?_; (case hd => rfl); (case hg => rfl); (case hr => first | (go_simp; done) | (go_simp; rfl)); intro gb190 hg w22 hbox hb; have n0_ := Aside0.mk (blk_below (g := gb187) (o := .cells #[.int .i64 a1_0, .string a1_1, .int .i64 a1_2, .string a1_3] 23 (0, 0)) (by (with_reducible repeat (first | refine blk_drewN ?_ _ | refine blk_drew ?_ | refine blk_alloc ?_ _)); exact BK187.out) hb); have n1_ := Aside0.mk (blk_below (g := gb188) (o := .cells #[.bool a2_0, .int .i64 a2_1, .string a2_2, .string a2_3, .bool a2_4, .int .u32 a2_5, .int .i64 a2_6] 28 (0, 0)) (by (with_reducible repeat (first | refine blk_drewN ?_ _ | refine blk_drew ?_ | refine blk_alloc ?_ _)); exact BK188.out) hb); have n2_ := Aside0.mk (blk_below (g := gb189) (o := .cells #[.int .i64 a3_0, .string a3_1, .int .i64 a3_2, .string a3_3] 23 (0, 0)) (by (with_reducible repeat (first | refine blk_drewN ?_ _ | refine blk_drew ?_ | refine blk_alloc ?_ _)); exact BK189.out) hb); have n3_ := Aside0.mk (below_step (by repeat (first | (with_reducible first | exact HB.out | apply below_alloc | apply pw_below_drewN | apply below_drew1 | refine below_set ?_ GE187.out | refine below_set ?_ GE188.out | refine below_set ?_ GE189.out) | exact HB.out)) hb); have n4_ := Aside0.mk (hbox); have n5_ := Aside0.mk ((by rw [hg]; exact (below_size (by repeat (first | (with_reducible first | exact HB.out | apply below_alloc | apply pw_below_drewN | apply below_drew1 | refine below_set ?_ GE187.out | refine below_set ?_ GE188.out | refine below_set ?_ GE189.out) | exact HB.out))) : w.heap.size ≤ gb190)); have n6_ := Aside0.mk ((by rw [hg]; exact (below_size (by repeat (first | (with_reducible first | exact HB.out | apply below_alloc | apply pw_below_drewN | apply below_drew1 | refine below_set ?_ GE187.out | refine below_set ?_ GE188.out | refine below_set ?_ GE189.out) | exact HB.out))) : w.heap.size ≤ gb190)); have n7_ := Aside0.mk ((by rw [hg]; exact Nat.ne_of_lt (blk_lt (g := gb187) (o := .cells #[.int .i64 a1_0, .string a1_1, .int .i64 a1_2, .string a1_3] 23 (0, 0)) (by (with_reducible repeat (first | refine blk_drewN ?_ _ | refine blk_drew ?_ | refine blk_alloc ?_ _)); exact BK187.out)) : gb187 ≠ gb190)); have n8_ := Aside0.mk ((by rw [hg]; exact Nat.ne_of_gt (blk_lt (g := gb187) (o := .cells #[.int .i64 a1_0, .string a1_1, .int .i64 a1_2, .string a1_3] 23 (0, 0)) (by (with_reducible repeat (first | refine blk_drewN ?_ _ | refine blk_drew ?_ | refine blk_alloc ?_ _)); exact BK187.out)) : gb190 ≠ gb187)); have n9_ := Aside0.mk ((by rw [hg]; exact Nat.ne_of_lt (blk_lt (g := gb188) (o := .cells #[.bool a2_0, .int .i64 a2_1, .string a2_2, .string a2_3, .bool a2_4, .int .u32 a2_5, .int .i64 a2_6] 28 (0, 0)) (by (with_reducible repeat (first | refine blk_drewN ?_ _ | refine blk_drew ?_ | refine blk_alloc ?_ _)); exact BK188.out)) : gb188 ≠ gb190)); have n10_ := Aside0.mk ((by rw [hg]; exact Nat.ne_of_gt (blk_lt (g := gb188) (o := .cells #[.bool a2_0, .int .i64 a2_1, .string a2_2, .string a2_3, .bool a2_4, .int .u32 a2_5, .int .i64 a2_6] 28 (0, 0)) (by (with_reducible repeat (first | refine blk_drewN ?_ _ | refine blk_drew ?_ | refine blk_alloc ?_ _)); exact BK188.out)) : gb190 ≠ gb188)); have n11_ := Aside0.mk ((by rw [hg]; exact Nat.ne_of_lt (blk_lt (g := gb189) (o := .cells #[.int .i64 a3_0, .string a3_1, .int .i64 a3_2, .string a3_3] 23 (0, 0)) (by (with_reducible repeat (first | refine blk_drewN ?_ _ | refine blk_drew ?_ | refine blk_alloc ?_ _)); exact BK189.out)) : gb189 ≠ gb190)); have n12_ := Aside0.mk ((by rw [hg]; exact Nat.ne_of_gt (blk_lt (g := gb189) (o := .cells #[.int .i64 a3_0, .string a3_1, .int .i64 a3_2, .string a3_3] 23 (0, 0)) (by (with_reducible repeat (first | refine blk_drewN ?_ _ | refine blk_drew ?_ | refine blk_alloc ?_ _)); exact BK189.out)) : gb190 ≠ gb189)); clear BK187; clear BK188; clear BK189; clear HB; have BK187 := n0_; have BK188 := n1_; have BK189 := n2_; have HB := n3_; have BK190 := n4_; have GW190 := n5_; have GE190 := n6_; have NB187_190 := n7_; have NB190_187 := n8_; have NB188_190 := n9_; have NB190_188 := n10_; have NB189_190 := n11_; have NB190_189 := n12_; clear n0_ n1_ n2_ n3_ n4_ n5_ n6_ n7_ n8_ n9_ n10_ n11_ n12_; clear hb hbox hg) | ((with_reducible refine gate_callee (f := 8) rfl ?_); refine goesL_ (some 18) rfl rfl Tryd.func8 (by kernel_rfl) rfl #[] rfl (by (try simp only [List.map_toArray, List.map_cons, List.map_nil]); first | done | rfl | (simp only [List.length_drop, List.length_take]; rfl)) ?_; (with_reducible refine (glacislaw19_awake.calls k  true _ A6.out).mono ?_); rintro e w23 ⟨rfl, hb⟩; refine ⟨_, rfl, ?_⟩; have n0_ := Aside0.mk (blk_below (g := gb187) (o := .cells #[.int .i64 a1_0, .string a1_1, .int .i64 a1_2, .string a1_3] 23 (0, 0)) (by (with_reducible repeat (first | refine blk_drewN ?_ _ | refine blk_drew ?_ | refine blk_alloc ?_ _)); exact BK187.out) hb); have n1_ := Aside0.mk (blk_below (g := gb188) (o := .cells #[.bool a2_0, .int .i64 a2_1, .string a2_2, .string a2_3, .bool a2_4, .int .u32 a2_5, .int .i64 a2_6] 28 (0, 0)) (by (with_reducible repeat (first | refine blk_drewN ?_ _ | refine blk_drew ?_ | refine blk_alloc ?_ _)); exact BK188.out) hb); have n2_ := Aside0.mk (blk_below (g := gb189) (o := .cells #[.int .i64 a3_0, .string a3_1, .int .i64 a3_2, .string a3_3] 23 (0, 0)) (by (with_reducible repeat (first | refine blk_drewN ?_ _ | refine blk_drew ?_ | refine blk_alloc ?_ _)); exact BK189.out) hb); have n3_ := Aside0.mk (blk_below (g := gb190) (o := .cells #[.bool a4_0, .int .i64 a4_1, .string a4_2, .string a4_3, .bool a4_4, .int .u32 a4_5, .int .i64 a4_6] 28 (0, 0)) (by (with_reducible repeat (first | refine blk_drewN ?_ _ | refine blk_drew ?_ | refine blk_alloc ?_ _)); exact BK190.out) hb); have n4_ := Aside0.mk (below_step (by repeat (first | (with_reducible first | exact HB.out | apply below_alloc | apply pw_below_drewN | apply below_drew1 | refine below_set ?_ GE187.out | refine below_set ?_ GE188.out | refine below_set ?_ GE189.out | refine below_set ?_ GE190.out) | exact HB.out)) hb); clear BK187; clear BK188; clear BK189; clear BK190; clear HB; have BK187 := n0_; have BK188 := n1_; have BK189 := n2_; have BK190 := n3_; have HB := n4_; clear n0_ n1_ n2_ n3_ n4_; (try clear hb); (try clear hb2); (try clear hk); (try clear hi); have hnb24 := NB188_187.out; have hnc24 := NB187_188.out; have hnb25 := NB188_189.out; have hnc25 := NB189_188.out; have hnb26 := NB188_190.out; have hnc26 := NB190_188.out; have hcz27_0 : w23.cell? ⟨gb188, 0, none⟩ = some (.bool a2_0) := (blk_cell BK188.out 0).trans rfl; have hcz27_1 : w23.cell? ⟨gb188, 1, none⟩ = some (.int .i64 a2_1) := (blk_cell BK188.out 1).trans rfl; have hcz27_2 : w23.cell? ⟨gb188, 2, none⟩ = some (.string a2_2) := (blk_cell BK188.out 2).trans rfl; have hcz27_3 : w23.cell? ⟨gb188, 3, none⟩ = some (.string a2_3) := (blk_cell BK188.out 3).trans rfl; have hcz27_4 : w23.cell? ⟨gb188, 4, none⟩ = some (.bool a2_4) := (blk_cell BK188.out 4).trans rfl; have hcz27_5 : w23.cell? ⟨gb188, 5, none⟩ = some (.int .u32 a2_5) := (blk_cell BK188.out 5).trans rfl; have hcz27_6 : w23.cell? ⟨gb188, 6, none⟩ = some (.int .i64 a2_6) := (blk_cell BK188.out 6).trans rfl; have hfz27_0 := blk_frozen BK188.out 0; have hfz27_1 := blk_frozen BK188.out 1; have hfz27_2 := blk_frozen BK188.out 2; have hfz27_3 := blk_frozen BK188.out 3; have hfz27_4 := blk_frozen BK188.out 4; have hfz27_5 := blk_frozen BK188.out 5; have hfz27_6 := blk_frozen BK188.out 6; have hnb28 := NB190_187.out; have hnc28 := NB187_190.out; have hnb29 := NB190_189.out; have hnc29 := NB189_190.out; have hcz30_0 : w23.cell? ⟨gb190, 0, none⟩ = some (.bool a4_0) := (blk_cell BK190.out 0).trans rfl; have hcz30_1 : w23.cell? ⟨gb190, 1, none⟩ = some (.int .i64 a4_1) := (blk_cell BK190.out 1).trans rfl; have hcz30_2 : w23.cell? ⟨gb190, 2, none⟩ = some (.string a4_2) := (blk_cell BK190.out 2).trans rfl; have hcz30_3 : w23.cell? ⟨gb190, 3, none⟩ = some (.string a4_3) := (blk_cell BK190.out 3).trans rfl; have hcz30_4 : w23.cell? ⟨gb190, 4, none⟩ = some (.bool a4_4) := (blk_cell BK190.out 4).trans rfl; have hcz30_5 : w23.cell? ⟨gb190, 5, none⟩ = some (.int .u32 a4_5) := (blk_cell BK190.out 5).trans rfl; have hcz30_6 : w23.cell? ⟨gb190, 6, none⟩ = some (.int .i64 a4_6) := (blk_cell BK190.out 6).trans rfl; have hfz30_0 := blk_frozen BK190.out 0; have hfz30_1 := blk_frozen BK190.out 1; have hfz30_2 := blk_frozen BK190.out 2; have hfz30_3 := blk_frozen BK190.out 3; have hfz30_4 := blk_frozen BK190.out 4; have hfz30_5 := blk_frozen BK190.out 5; have hfz30_6 := blk_frozen BK190.out 6) | ((with_reducible refine gate_callee (f := 9) rfl ?_); refine goesL_ (some 21) rfl rfl Tryd.func9 (by kernel_rfl) rfl #[.agg #[.bool a2_0, .int .i64 a2_1, .string a2_2, .string a2_3, .bool a2_4, .int .u32 a2_5, .int .i64 a2_6], .agg #[.bool a4_0, .int .i64 a4_1, .string a4_2, .string a4_3, .bool a4_4, .int .u32 a4_5, .int .i64 a4_6]] rfl (by (try simp only [List.map_toArray, List.map_cons, List.map_nil]); first | done | rfl | (simp only [List.length_drop, List.length_take]; rfl)) ?_; (with_reducible refine (glacislaw19_short.calls a2_0 a2_1 a2_2 a2_3 a2_4 a2_5 a2_6 a4_0 a4_1 a4_2 a4_3 a4_4 a4_5 a4_6 true _ A7.out).mono ?_); rintro e w31 ⟨rfl, hb⟩; refine ⟨_, rfl, ?_⟩; have n0_ := Aside0.mk (blk_below (g := gb187) (o := .cells #[.int .i64 a1_0, .string a1_1, .int .i64 a1_2, .string a1_3] 23 (0, 0)) (by (with_reducible repeat (first | refine blk_drewN ?_ _ | refine blk_drew ?_ | refine blk_alloc ?_ _)); exact BK187.out) hb); have n1_ := Aside0.mk (blk_below (g := gb188) (o := .cells #[.bool a2_0, .int .i64 a2_1, .string a2_2, .string a2_3, .bool a2_4, .int .u32 a2_5, .int .i64 a2_6] 28 (0, 0)) (by (with_reducible repeat (first | refine blk_drewN ?_ _ | refine blk_drew ?_ | refine blk_alloc ?_ _)); exact BK188.out) hb); have n2_ := Aside0.mk (blk_below (g := gb189) (o := .cells #[.int .i64 a3_0, .string a3_1, .int .i64 a3_2, .string a3_3] 23 (0, 0)) (by (with_reducible repeat (first | refine blk_drewN ?_ _ | refine blk_drew ?_ | refine blk_alloc ?_ _)); exact BK189.out) hb); have n3_ := Aside0.mk (blk_below (g := gb190) (o := .cells #[.bool a4_0, .int .i64 a4_1, .string a4_2, .string a4_3, .bool a4_4, .int .u32 a4_5, .int .i64 a4_6] 28 (0, 0)) (by (with_reducible repeat (first | refine blk_drewN ?_ _ | refine blk_drew ?_ | refine blk_alloc ?_ _)); exact BK190.out) hb); have n4_ := Aside0.mk (below_step (by repeat (first | (with_reducible first | exact HB.out | apply below_alloc | apply pw_below_drewN | apply below_drew1 | refine below_set ?_ GE187.out | refine below_set ?_ GE188.out | refine below_set ?_ GE189.out | refine below_set ?_ GE190.out) | exact HB.out)) hb); clear BK187; clear BK188; clear BK189; clear BK190; clear HB; have BK187 := n0_; have BK188 := n1_; have BK189 := n2_; have BK190 := n3_; have HB := n4_; clear n0_ n1_ n2_ n3_ n4_; (try clear hb); (try clear hb2); (try clear hk); (try clear hi); have hnb32 := NB187_189.out; have hnc32 := NB189_187.out; have hcz33_0 : w31.cell? ⟨gb187, 0, none⟩ = some (.int .i64 a1_0) := (blk_cell BK187.out 0).trans rfl; have hcz33_1 : w31.cell? ⟨gb187, 1, none⟩ = some (.string a1_1) := (blk_cell BK187.out 1).trans rfl; have hcz33_2 : w31.cell? ⟨gb187, 2, none⟩ = some (.int .i64 a1_2) := (blk_cell BK187.out 2).trans rfl; have hcz33_3 : w31.cell? ⟨gb187, 3, none⟩ = some (.string a1_3) := (blk_cell BK187.out 3).trans rfl; have hfz33_0 := blk_frozen BK187.out 0; have hfz33_1 := blk_frozen BK187.out 1; have hfz33_2 := blk_frozen BK187.out 2; have hfz33_3 := blk_frozen BK187.out 3; have hcz34_0 : w31.cell? ⟨gb188, 0, none⟩ = some (.bool a2_0) := (blk_cell BK188.out 0).trans rfl; have hcz34_1 : w31.cell? ⟨gb188, 1, none⟩ = some (.int .i64 a2_1) := (blk_cell BK188.out 1).trans rfl; have hcz34_2 : w31.cell? ⟨gb188, 2, none⟩ = some (.string a2_2) := (blk_cell BK188.out 2).trans rfl; have hcz34_3 : w31.cell? ⟨gb188, 3, none⟩ = some (.string a2_3) := (blk_cell BK188.out 3).trans rfl; have hcz34_4 : w31.cell? ⟨gb188, 4, none⟩ = some (.bool a2_4) := (blk_cell BK188.out 4).trans rfl; have hcz34_5 : w31.cell? ⟨gb188, 5, none⟩ = some (.int .u32 a2_5) := (blk_cell BK188.out 5).trans rfl; have hcz34_6 : w31.cell? ⟨gb188, 6, none⟩ = some (.int .i64 a2_6) := (blk_cell BK188.out 6).trans rfl; have hfz34_0 := blk_frozen BK188.out 0; have hfz34_1 := blk_frozen BK188.out 1; have hfz34_2 := blk_frozen BK188.out 2; have hfz34_3 := blk_frozen BK188.out 3; have hfz34_4 := blk_frozen BK188.out 4; have hfz34_5 := blk_frozen BK188.out 5; have hfz34_6 := blk_frozen BK188.out 6; have hcz35_0 : w31.cell? ⟨gb189, 0, none⟩ = some (.int .i64 a3_0) := (blk_cell BK189.out 0).trans rfl; have hcz35_1 : w31.cell? ⟨gb189, 1, none⟩ = some (.string a3_1) := (blk_cell BK189.out 1).trans rfl; have hcz35_2 : w31.cell? ⟨gb189, 2, none⟩ = some (.int .i64 a3_2) := (blk_cell BK189.out 2).trans rfl; have hcz35_3 : w31.cell? ⟨gb189, 3, none⟩ = some (.string a3_3) := (blk_cell BK189.out 3).trans rfl; have hfz35_0 := blk_frozen BK189.out 0; have hfz35_1 := blk_frozen BK189.out 1; have hfz35_2 := blk_frozen BK189.out 2; have hfz35_3 := blk_frozen BK189.out 3; have hcz36_0 : w31.cell? ⟨gb190, 0, none⟩ = some (.bool a4_0) := (blk_cell BK190.out 0).trans rfl; have hcz36_1 : w31.cell? ⟨gb190, 1, none⟩ = some (.int .i64 a4_1) := (blk_cell BK190.out 1).trans rfl; have hcz36_2 : w31.cell? ⟨gb190, 2, none⟩ = some (.string a4_2) := (blk_cell BK190.out 2).trans rfl; have hcz36_3 : w31.cell? ⟨gb190, 3, none⟩ = some (.string a4_3) := (blk_cell BK190.out 3).trans rfl; have hcz36_4 : w31.cell? ⟨gb190, 4, none⟩ = some (.bool a4_4) := (blk_cell BK190.out 4).trans rfl; have hcz36_5 : w31.cell? ⟨gb190, 5, none⟩ = some (.int .u32 a4_5) := (blk_cell BK190.out 5).trans rfl; have hcz36_6 : w31.cell? ⟨gb190, 6, none⟩ = some (.int .i64 a4_6) := (blk_cell BK190.out 6).trans rfl; have hfz36_0 := blk_frozen BK190.out 0; have hfz36_1 := blk_frozen BK190.out 1; have hfz36_2 := blk_frozen BK190.out 2; have hfz36_3 := blk_frozen BK190.out 3; have hfz36_4 := blk_frozen BK190.out 4; have hfz36_5 := blk_frozen BK190.out 5; have hfz36_6 := blk_frozen BK190.out 6) | ((with_reducible refine gate_callee (f := 10) rfl ?_); refine goesL_ (some 30) rfl rfl Tryd.func10 (by kernel_rfl) rfl #[.bool a0, .agg #[.int .i64 a1_0, .string a1_1, .int .i64 a1_2, .string a1_3], .agg #[.bool a2_0, .int .i64 a2_1, .string a2_2, .string a2_3, .bool a2_4, .int .u32 a2_5, .int .i64 a2_6], .agg #[.int .i64 a3_0, .string a3_1, .int .i64 a3_2, .string a3_3], .agg #[.bool a4_0, .int .i64 a4_1, .string a4_2, .string a4_3, .bool a4_4, .int .u32 a4_5, .int .i64 a4_6]] rfl (by (try simp only [List.map_toArray, List.map_cons, List.map_nil]); first | done | rfl | (simp only [List.length_drop, List.length_take]; rfl)) ?_; (with_reducible refine (swap_Reports.calls a0 a1_0 a1_1 a1_2 a1_3 a2_0 a2_1 a2_2 a2_3 a2_4 a2_5 a2_6 a3_0 a3_1 a3_2 a3_3 a4_0 a4_1 a4_2 a4_3 a4_4 a4_5 a4_6 t193 t194 _ A9.out).mono ?_); rintro e w37 ⟨rfl, hb⟩; refine ⟨_, rfl, ?_⟩; have n0_ := Aside0.mk (blk_below (g := gb187) (o := .cells #[.int .i64 a1_0, .string a1_1, .int .i64 a1_2, .string a1_3] 23 (0, 0)) (by (with_reducible repeat (first | refine blk_drewN ?_ _ | refine blk_drew ?_ | refine blk_alloc ?_ _)); exact BK187.out) hb); have n1_ := Aside0.mk (blk_below (g := gb188) (o := .cells #[.bool a2_0, .int .i64 a2_1, .string a2_2, .string a2_3, .bool a2_4, .int .u32 a2_5, .int .i64 a2_6] 28 (0, 0)) (by (with_reducible repeat (first | refine blk_drewN ?_ _ | refine blk_drew ?_ | refine blk_alloc ?_ _)); exact BK188.out) hb); have n2_ := Aside0.mk (blk_below (g := gb189) (o := .cells #[.int .i64 a3_0, .string a3_1, .int .i64 a3_2, .string a3_3] 23 (0, 0)) (by (with_reducible repeat (first | refine blk_drewN ?_ _ | refine blk_drew ?_ | refine blk_alloc ?_ _)); exact BK189.out) hb); have n3_ := Aside0.mk (blk_below (g := gb190) (o := .cells #[.bool a4_0, .int .i64 a4_1, .string a4_2, .string a4_3, .bool a4_4, .int .u32 a4_5, .int .i64 a4_6] 28 (0, 0)) (by (with_reducible repeat (first | refine blk_drewN ?_ _ | refine blk_drew ?_ | refine blk_alloc ?_ _)); exact BK190.out) hb); have n4_ := Aside0.mk (below_step (by repeat (first | (with_reducible first | exact HB.out | apply below_alloc | apply pw_below_drewN | apply below_drew1 | refine below_set ?_ GE187.out | refine below_set ?_ GE188.out | refine below_set ?_ GE189.out | refine below_set ?_ GE190.out) | exact HB.out)) hb); clear BK187; clear BK188; clear BK189; clear BK190; clear HB; have BK187 := n0_; have BK188 := n1_; have BK189 := n2_; have BK190 := n3_; have HB := n4_; clear n0_ n1_ n2_ n3_ n4_; (try clear hb); (try clear hb2); (try clear hk); (try clear hi); have hcz38_0 : w37.cell? ⟨gb187, 0, none⟩ = some (.int .i64 a1_0) := (blk_cell BK187.out 0).trans rfl; have hcz38_1 : w37.cell? ⟨gb187, 1, none⟩ = some (.string a1_1) := (blk_cell BK187.out 1).trans rfl; have hcz38_2 : w37.cell? ⟨gb187, 2, none⟩ = some (.int .i64 a1_2) := (blk_cell BK187.out 2).trans rfl; have hcz38_3 : w37.cell? ⟨gb187, 3, none⟩ = some (.string a1_3) := (blk_cell BK187.out 3).trans rfl; have hfz38_0 := blk_frozen BK187.out 0; have hfz38_1 := blk_frozen BK187.out 1; have hfz38_2 := blk_frozen BK187.out 2; have hfz38_3 := blk_frozen BK187.out 3; have hcz39_0 : w37.cell? ⟨gb188, 0, none⟩ = some (.bool a2_0) := (blk_cell BK188.out 0).trans rfl; have hcz39_1 : w37.cell? ⟨gb188, 1, none⟩ = some (.int .i64 a2_1) := (blk_cell BK188.out 1).trans rfl; have hcz39_2 : w37.cell? ⟨gb188, 2, none⟩ = some (.string a2_2) := (blk_cell BK188.out 2).trans rfl; have hcz39_3 : w37.cell? ⟨gb188, 3, none⟩ = some (.string a2_3) := (blk_cell BK188.out 3).trans rfl; have hcz39_4 : w37.cell? ⟨gb188, 4, none⟩ = some (.bool a2_4) := (blk_cell BK188.out 4).trans rfl; have hcz39_5 : w37.cell? ⟨gb188, 5, none⟩ = some (.int .u32 a2_5) := (blk_cell BK188.out 5).trans rfl; have hcz39_6 : w37.cell? ⟨gb188, 6, none⟩ = some (.int .i64 a2_6) := (blk_cell BK188.out 6).trans rfl; have hfz39_0 := blk_frozen BK188.out 0; have hfz39_1 := blk_frozen BK188.out 1; have hfz39_2 := blk_frozen BK188.out 2; have hfz39_3 := blk_frozen BK188.out 3; have hfz39_4 := blk_frozen BK188.out 4; have hfz39_5 := blk_frozen BK188.out 5; have hfz39_6 := blk_frozen BK188.out 6; have hcz40_0 : w37.cell? ⟨gb189, 0, none⟩ = some (.int .i64 a3_0) := (blk_cell BK189.out 0).trans rfl; have hcz40_1 : w37.cell? ⟨gb189, 1, none⟩ = some (.string a3_1) := (blk_cell BK189.out 1).trans rfl; have hcz40_2 : w37.cell? ⟨gb189, 2, none⟩ = some (.int .i64 a3_2) := (blk_cell BK189.out 2).trans rfl; have hcz40_3 : w37.cell? ⟨gb189, 3, none⟩ = some (.string a3_3) := (blk_cell BK189.out 3).trans rfl; have hfz40_0 := blk_frozen BK189.out 0; have hfz40_1 := blk_frozen BK189.out 1; have hfz40_2 := blk_frozen BK189.out 2; have hfz40_3 := blk_frozen BK189.out 3; have hcz41_0 : w37.cell? ⟨gb190, 0, none⟩ = some (.bool a4_0) := (blk_cell BK190.out 0).trans rfl; have hcz41_1 : w37.cell? ⟨gb190, 1, none⟩ = some (.int .i64 a4_1) := (blk_cell BK190.out 1).trans rfl; have hcz41_2 : w37.cell? ⟨gb190, 2, none⟩ = some (.string a4_2) := (blk_cell BK190.out 2).trans rfl; have hcz41_3 : w37.cell? ⟨gb190, 3, none⟩ = some (.string a4_3) := (blk_cell BK190.out 3).trans rfl; have hcz41_4 : w37.cell? ⟨gb190, 4, none⟩ = some (.bool a4_4) := (blk_cell BK190.out 4).trans rfl; have hcz41_5 : w37.cell? ⟨gb190, 5, none⟩ = some (.int .u32 a4_5) := (blk_cell BK190.out 5).trans rfl; have hcz41_6 : w37.cell? ⟨gb190, 6, none⟩ = some (.int .i64 a4_6) := (blk_cell BK190.out 6).trans rfl; have hfz41_0 := blk_frozen BK190.out 0; have hfz41_1 := blk_frozen BK190.out 1; have hfz41_2 := blk_frozen BK190.out 2; have hfz41_3 := blk_frozen BK190.out 3; have hfz41_4 := blk_frozen BK190.out 4; have hfz41_5 := blk_frozen BK190.out 5; have hfz41_6 := blk_frozen BK190.out 6) | ((with_reducible refine gate_callee (f := 11) rfl ?_); refine goesL_ (some 39) rfl rfl Tryd.func11 (by kernel_rfl) rfl #[.bool a0, .agg #[.int .i64 a1_0, .string a1_1, .int .i64 a1_2, .string a1_3], .agg #[.bool a2_0, .int .i64 a2_1, .string a2_2, .string a2_3, .bool a2_4, .int .u32 a2_5, .int .i64 a2_6], .agg #[.int .i64 a3_0, .string a3_1, .int .i64 a3_2, .string a3_3], .agg #[.bool a4_0, .int .i64 a4_1, .string a4_2, .string a4_3, .bool a4_4, .int .u32 a4_5, .int .i64 a4_6]] rfl (by (try simp only [List.map_toArray, List.map_cons, List.map_nil]); first | done | rfl | (simp only [List.length_drop, List.length_take]; rfl)) ?_; (with_reducible refine (glacisref19_Reports.calls k a0 a1_0 a1_1 a1_2 a1_3 a2_0 a2_1 a2_2 a2_3 a2_4 a2_5 a2_6 a3_0 a3_1 a3_2 a3_3 a4_0 a4_1 a4_2 a4_3 a4_4 a4_5 a4_6 t195 t196 _ A10.out).mono ?_); rintro e w42 ⟨rfl, hb⟩; refine ⟨_, rfl, ?_⟩; have n0_ := Aside0.mk (blk_below (g := gb187) (o := .cells #[.int .i64 a1_0, .string a1_1, .int .i64 a1_2, .string a1_3] 23 (0, 0)) (by (with_reducible repeat (first | refine blk_drewN ?_ _ | refine blk_drew ?_ | refine blk_alloc ?_ _)); exact BK187.out) hb); have n1_ := Aside0.mk (blk_below (g := gb188) (o := .cells #[.bool a2_0, .int .i64 a2_1, .string a2_2, .string a2_3, .bool a2_4, .int .u32 a2_5, .int .i64 a2_6] 28 (0, 0)) (by (with_reducible repeat (first | refine blk_drewN ?_ _ | refine blk_drew ?_ | refine blk_alloc ?_ _)); exact BK188.out) hb); have n2_ := Aside0.mk (blk_below (g := gb189) (o := .cells #[.int .i64 a3_0, .string a3_1, .int .i64 a3_2, .string a3_3] 23 (0, 0)) (by (with_reducible repeat (first | refine blk_drewN ?_ _ | refine blk_drew ?_ | refine blk_alloc ?_ _)); exact BK189.out) hb); have n3_ := Aside0.mk (blk_below (g := gb190) (o := .cells #[.bool a4_0, .int .i64 a4_1, .string a4_2, .string a4_3, .bool a4_4, .int .u32 a4_5, .int .i64 a4_6] 28 (0, 0)) (by (with_reducible repeat (first | refine blk_drewN ?_ _ | refine blk_drew ?_ | refine blk_alloc ?_ _)); exact BK190.out) hb); have n4_ := Aside0.mk (below_step (by repeat (first | (with_reducible first | exact HB.out | apply below_alloc | apply pw_below_drewN | apply below_drew1 | refine below_set ?_ GE187.out | refine below_set ?_ GE188.out | refine below_set ?_ GE189.out | refine below_set ?_ GE190.out) | exact HB.out)) hb); clear BK187; clear BK188; clear BK189; clear BK190; clear HB; have BK187 := n0_; have BK188 := n1_; have BK189 := n2_; have BK190 := n3_; have HB := n4_; clear n0_ n1_ n2_ n3_ n4_; (try clear hb); (try clear hb2); (try clear hk); (try clear hi)))
            have n0_ := Aside0.mk (blk_drew BK187.out)
            have n1_ := Aside0.mk (blk_drew BK188.out)
            have n2_ := Aside0.mk (blk_drew BK189.out)
            have n3_ := Aside0.mk (blk_drew BK190.out)
            have n4_ := Aside0.mk (below_drew1 HB.out)
            clear BK187
            clear BK188
            clear BK189
            clear BK190
            clear HB
            have BK187 := n0_
            have BK188 := n1_
            have BK189 := n2_
            have BK190 := n3_
            have HB := n4_
            clear n0_ n1_ n2_ n3_ n4_
            refine start_ (n := 16) (S := fun w' => w'.cell? ⟨gb187, 0, none⟩ = some (.int .i64 a1_0) ∧ w'.cell? ⟨gb187, 1, none⟩ = some (.string a1_1) ∧ w'.cell? ⟨gb187, 2, none⟩ = some (.int .i64 a1_2) ∧ w'.cell? ⟨gb187, 3, none⟩ = some (.string a1_3) ∧ w'.cell? ⟨gb188, 0, none⟩ = some (.bool a2_0) ∧ w'.cell? ⟨gb188, 1, none⟩ = some (.int .i64 a2_1) ∧ w'.cell? ⟨gb188, 2, none⟩ = some (.string a2_2) ∧ w'.cell? ⟨gb188, 3, none⟩ = some (.string a2_3) ∧ w'.cell? ⟨gb188, 4, none⟩ = some (.bool a2_4) ∧ w'.cell? ⟨gb188, 5, none⟩ = some (.int .u32 a2_5) ∧ w'.cell? ⟨gb188, 6, none⟩ = some (.int .i64 a2_6) ∧ w'.cell? ⟨gb189, 0, none⟩ = some (.int .i64 a3_0) ∧ w'.cell? ⟨gb189, 1, none⟩ = some (.string a3_1) ∧ w'.cell? ⟨gb189, 2, none⟩ = some (.int .i64 a3_2) ∧ w'.cell? ⟨gb189, 3, none⟩ = some (.string a3_3) ∧ w'.cell? ⟨gb190, 0, none⟩ = some (.bool a4_0) ∧ w'.cell? ⟨gb190, 1, none⟩ = some (.int .i64 a4_1) ∧ w'.cell? ⟨gb190, 2, none⟩ = some (.string a4_2) ∧ w'.cell? ⟨gb190, 3, none⟩ = some (.string a4_3) ∧ w'.cell? ⟨gb190, 4, none⟩ = some (.bool a4_4) ∧ w'.cell? ⟨gb190, 5, none⟩ = some (.int .u32 a4_5) ∧ w'.cell? ⟨gb190, 6, none⟩ = some (.int .i64 a4_6)) (ds := []) #[false, false, false, false, false, false, false, false, false, false, false, false, false, false, false, false] (by kernel_rfl) rfl rfl ⟨(blk_cell BK187.out 0).trans rfl, (blk_cell BK187.out 1).trans rfl, (blk_cell BK187.out 2).trans rfl, (blk_cell BK187.out 3).trans rfl, (blk_cell BK188.out 0).trans rfl, (blk_cell BK188.out 1).trans rfl, (blk_cell BK188.out 2).trans rfl, (blk_cell BK188.out 3).trans rfl, (blk_cell BK188.out 4).trans rfl, (blk_cell BK188.out 5).trans rfl, (blk_cell BK188.out 6).trans rfl, (blk_cell BK189.out 0).trans rfl, (blk_cell BK189.out 1).trans rfl, (blk_cell BK189.out 2).trans rfl, (blk_cell BK189.out 3).trans rfl, (blk_cell BK190.out 0).trans rfl, (blk_cell BK190.out 1).trans rfl, (blk_cell BK190.out 2).trans rfl, (blk_cell BK190.out 3).trans rfl, (blk_cell BK190.out 4).trans rfl, (blk_cell BK190.out 5).trans rfl, (blk_cell BK190.out 6).trans rfl⟩ (fun hHeld => ?_); refine with_tabW glacislaw19_SwapTells.tab6 glacislaw19_SwapTells.bits6 (fun HT_ HW_ => ?_)
            generalize w42.drew = w43 at BK187 BK188 BK189 BK190 HB hHeld ⊢
            refine pure_ (i := 0) (N := some 42) (v := ?_) (a' := ?_) #[true, false, false, false, false, false, false, false, false, false, false, false, false, false, false, false] rfl rfl (any_of HT_.out (by kernel_rfl)) (fun _ _ _ h => h) (Or.inl ⟨by rfl, ?_⟩) ?_ ?_
            rotate_left
            · intro w'
              go_simp
              with_reducible rfl
            rotate_left
            · simp only [Act.put, List.setIfInBounds_toArray, List.set_cons_zero, List.set_cons_succ, i64_w, i32_w]
              rfl
            refine pure_ (i := 3) (N := some 45) (v := ?_) (a' := ?_) #[true, false, false, true, false, false, false, false, false, false, false, false, false, false, false, false] rfl rfl (any_of HT_.out (by kernel_rfl)) (fun _ _ _ h => h) (Or.inl ⟨by rfl, ?_⟩) ?_ ?_
            rotate_left
            · intro w'
              go_simp
              with_reducible rfl
            rotate_left
            · simp only [Act.put, List.setIfInBounds_toArray, List.set_cons_zero, List.set_cons_succ, i64_w, i32_w]
              rfl
            refine pure_ (i := 7) (N := some 49) (v := ?_) (a' := ?_) #[true, false, false, true, false, false, false, true, false, false, false, false, false, false, false, false] rfl rfl (any_of HT_.out (by kernel_rfl)) (fun _ _ _ h => h) (Or.inl ⟨by rfl, ?_⟩) ?_ ?_
            rotate_left
            · intro w'
              go_simp
              with_reducible rfl
            rotate_left
            · simp only [Act.put, List.setIfInBounds_toArray, List.set_cons_zero, List.set_cons_succ, i64_w, i32_w]
              rfl
            refine pure_ (i := 10) (N := some 52) (v := ?_) (a' := ?_) #[true, false, false, true, false, false, false, true, false, false, true, false, false, false, false, false] rfl rfl (any_of HT_.out (by kernel_rfl)) (fun _ _ _ h => h) (Or.inl ⟨by rfl, ?_⟩) ?_ ?_
            rotate_left
            · intro w'
              go_simp
              with_reducible rfl
            rotate_left
            · simp only [Act.put, List.setIfInBounds_toArray, List.set_cons_zero, List.set_cons_succ, i64_w, i32_w]
              rfl
            refine take_ (i := 1) (N := some 43) (v := ?_) (a' := ?_) #[true, true, false, true, false, false, false, true, false, false, true, false, false, false, false, false] rfl rfl (take_ofW HT_.out HW_.out (by kernel_rfl)) (fun _ _ _ h => h) (Or.inl ⟨by rfl, ?_⟩) hHeld ?_ ?_
            rotate_left
            · rintro w' ⟨s0, s1, s2, s3, s4, s5, s6, s7, s8, s9, s10, s11, s12, s13, s14, s15, s16, s17, s18, s19, s20, s21⟩
              go_simp
              with_reducible rfl
            rotate_left
            · simp only [Act.put, List.setIfInBounds_toArray, List.set_cons_zero, List.set_cons_succ, i64_w, i32_w]
              rfl
            refine take_ (i := 2) (N := some 44) (v := ?_) (a' := ?_) #[true, true, true, true, false, false, false, true, false, false, true, false, false, false, false, false] rfl rfl (take_ofW HT_.out HW_.out (by kernel_rfl)) (fun _ _ _ h => h) (Or.inl ⟨by rfl, ?_⟩) hHeld ?_ ?_
            rotate_left
            · rintro w' ⟨s0, s1, s2, s3, s4, s5, s6, s7, s8, s9, s10, s11, s12, s13, s14, s15, s16, s17, s18, s19, s20, s21⟩
              go_simp
              with_reducible rfl
            rotate_left
            · simp only [Act.put, List.setIfInBounds_toArray, List.set_cons_zero, List.set_cons_succ, i64_w, i32_w]
              rfl
            refine take_ (i := 4) (N := some 46) (v := ?_) (a' := ?_) #[true, true, true, true, true, false, false, true, false, false, true, false, false, false, false, false] rfl rfl (take_ofW HT_.out HW_.out (by kernel_rfl)) (fun _ _ _ h => h) (Or.inl ⟨by rfl, ?_⟩) hHeld ?_ ?_
            rotate_left
            · rintro w' ⟨s0, s1, s2, s3, s4, s5, s6, s7, s8, s9, s10, s11, s12, s13, s14, s15, s16, s17, s18, s19, s20, s21⟩
              go_simp
              with_reducible rfl
            rotate_left
            · simp only [Act.put, List.setIfInBounds_toArray, List.set_cons_zero, List.set_cons_succ, i64_w, i32_w]
              rfl
            refine take_ (i := 5) (N := some 47) (v := ?_) (a' := ?_) #[true, true, true, true, true, true, false, true, false, false, true, false, false, false, false, false] rfl rfl (take_ofW HT_.out HW_.out (by kernel_rfl)) (fun _ _ _ h => h) (Or.inl ⟨by rfl, ?_⟩) hHeld ?_ ?_
            rotate_left
            · rintro w' ⟨s0, s1, s2, s3, s4, s5, s6, s7, s8, s9, s10, s11, s12, s13, s14, s15, s16, s17, s18, s19, s20, s21⟩
              go_simp
              with_reducible rfl
            rotate_left
            · simp only [Act.put, List.setIfInBounds_toArray, List.set_cons_zero, List.set_cons_succ, i64_w, i32_w]
              rfl
            refine take_ (i := 8) (N := some 50) (v := ?_) (a' := ?_) #[true, true, true, true, true, true, false, true, true, false, true, false, false, false, false, false] rfl rfl (take_ofW HT_.out HW_.out (by kernel_rfl)) (fun _ _ _ h => h) (Or.inl ⟨by rfl, ?_⟩) hHeld ?_ ?_
            rotate_left
            · rintro w' ⟨s0, s1, s2, s3, s4, s5, s6, s7, s8, s9, s10, s11, s12, s13, s14, s15, s16, s17, s18, s19, s20, s21⟩
              go_simp
              with_reducible rfl
            rotate_left
            · simp only [Act.put, List.setIfInBounds_toArray, List.set_cons_zero, List.set_cons_succ, i64_w, i32_w]
              rfl
            refine take_ (i := 9) (N := some 51) (v := ?_) (a' := ?_) #[true, true, true, true, true, true, false, true, true, true, true, false, false, false, false, false] rfl rfl (take_ofW HT_.out HW_.out (by kernel_rfl)) (fun _ _ _ h => h) (Or.inl ⟨by rfl, ?_⟩) hHeld ?_ ?_
            rotate_left
            · rintro w' ⟨s0, s1, s2, s3, s4, s5, s6, s7, s8, s9, s10, s11, s12, s13, s14, s15, s16, s17, s18, s19, s20, s21⟩
              go_simp
              with_reducible rfl
            rotate_left
            · simp only [Act.put, List.setIfInBounds_toArray, List.set_cons_zero, List.set_cons_succ, i64_w, i32_w]
              rfl
            refine take_ (i := 11) (N := some 53) (v := ?_) (a' := ?_) #[true, true, true, true, true, true, false, true, true, true, true, true, false, false, false, false] rfl rfl (take_ofW HT_.out HW_.out (by kernel_rfl)) (fun _ _ _ h => h) (Or.inl ⟨by rfl, ?_⟩) hHeld ?_ ?_
            rotate_left
            · rintro w' ⟨s0, s1, s2, s3, s4, s5, s6, s7, s8, s9, s10, s11, s12, s13, s14, s15, s16, s17, s18, s19, s20, s21⟩
              go_simp
              with_reducible rfl
            rotate_left
            · simp only [Act.put, List.setIfInBounds_toArray, List.set_cons_zero, List.set_cons_succ, i64_w, i32_w]
              rfl
            refine take_ (i := 12) (N := some 54) (v := ?_) (a' := ?_) #[true, true, true, true, true, true, false, true, true, true, true, true, true, false, false, false] rfl rfl (take_ofW HT_.out HW_.out (by kernel_rfl)) (fun _ _ _ h => h) (Or.inl ⟨by rfl, ?_⟩) hHeld ?_ ?_
            rotate_left
            · rintro w' ⟨s0, s1, s2, s3, s4, s5, s6, s7, s8, s9, s10, s11, s12, s13, s14, s15, s16, s17, s18, s19, s20, s21⟩
              go_simp
              with_reducible rfl
            rotate_left
            · simp only [Act.put, List.setIfInBounds_toArray, List.set_cons_zero, List.set_cons_succ, i64_w, i32_w]
              rfl
            refine one_ (i := 6) (N := some 48) #[true, true, true, true, true, true, true, true, true, true, true, true, true, false, false, false] rfl rfl (one_of HT_.out (by kernel_rfl)) (by decide) (fun K hK => ?_)
            refine goes_ Tryd.func12 (by kernel_rfl) rfl #[.int .i64 a1_0, .agg #[.bool a2_0, .int .i64 a2_1, .string a2_2, .string a2_3, .bool a2_4, .int .u32 a2_5, .int .i64 a2_6], .int .i64 a3_0, .agg #[.bool a4_0, .int .i64 a4_1, .string a4_2, .string a4_3, .bool a4_4, .int .u32 a4_5, .int .i64 a4_6]] (by rfl) rfl rfl (by (try simp only [List.map_toArray, List.map_cons, List.map_nil]); first | done | rfl | (simp only [List.length_drop, List.length_take]; rfl)) ?_
            with_reducible refine (swap_Match.calls a1_0 a2_0 a2_1 a2_2 a2_3 a2_4 a2_5 a2_6 a3_0 a4_0 a4_1 a4_2 a4_3 a4_4 a4_5 a4_6 t197 _ A11.out).mono ?_
            rintro e w44 ⟨rfl, hb⟩
            refine ⟨_, rfl, ?_⟩
            have n0_ := Aside0.mk (blk_below (g := gb187) (o := .cells #[.int .i64 a1_0, .string a1_1, .int .i64 a1_2, .string a1_3] 23 (0, 0)) (by (with_reducible repeat (first | refine blk_drewN ?_ _ | refine blk_drew ?_ | refine blk_alloc ?_ _)); exact BK187.out) hb)
            have n1_ := Aside0.mk (blk_below (g := gb188) (o := .cells #[.bool a2_0, .int .i64 a2_1, .string a2_2, .string a2_3, .bool a2_4, .int .u32 a2_5, .int .i64 a2_6] 28 (0, 0)) (by (with_reducible repeat (first | refine blk_drewN ?_ _ | refine blk_drew ?_ | refine blk_alloc ?_ _)); exact BK188.out) hb)
            have n2_ := Aside0.mk (blk_below (g := gb189) (o := .cells #[.int .i64 a3_0, .string a3_1, .int .i64 a3_2, .string a3_3] 23 (0, 0)) (by (with_reducible repeat (first | refine blk_drewN ?_ _ | refine blk_drew ?_ | refine blk_alloc ?_ _)); exact BK189.out) hb)
            have n3_ := Aside0.mk (blk_below (g := gb190) (o := .cells #[.bool a4_0, .int .i64 a4_1, .string a4_2, .string a4_3, .bool a4_4, .int .u32 a4_5, .int .i64 a4_6] 28 (0, 0)) (by (with_reducible repeat (first | refine blk_drewN ?_ _ | refine blk_drew ?_ | refine blk_alloc ?_ _)); exact BK190.out) hb)
            have n4_ := Aside0.mk (below_step (by repeat (first | (with_reducible first | exact HB.out | apply below_alloc | apply pw_below_drewN | apply below_drew1 | refine below_set ?_ GE187.out | refine below_set ?_ GE188.out | refine below_set ?_ GE189.out | refine below_set ?_ GE190.out) | exact HB.out)) hb)
            clear BK187
            clear BK188
            clear BK189
            clear BK190
            clear HB
            have BK187 := n0_
            have BK188 := n1_
            have BK189 := n2_
            have BK190 := n3_
            have HB := n4_
            clear n0_ n1_ n2_ n3_ n4_
            (try clear hb)
            (try clear hb2)
            (try clear hk)
            (try clear hi)
            refine hK.out _ _ ⟨(blk_cell BK187.out 0).trans rfl, (blk_cell BK187.out 1).trans rfl, (blk_cell BK187.out 2).trans rfl, (blk_cell BK187.out 3).trans rfl, (blk_cell BK188.out 0).trans rfl, (blk_cell BK188.out 1).trans rfl, (blk_cell BK188.out 2).trans rfl, (blk_cell BK188.out 3).trans rfl, (blk_cell BK188.out 4).trans rfl, (blk_cell BK188.out 5).trans rfl, (blk_cell BK188.out 6).trans rfl, (blk_cell BK189.out 0).trans rfl, (blk_cell BK189.out 1).trans rfl, (blk_cell BK189.out 2).trans rfl, (blk_cell BK189.out 3).trans rfl, (blk_cell BK190.out 0).trans rfl, (blk_cell BK190.out 1).trans rfl, (blk_cell BK190.out 2).trans rfl, (blk_cell BK190.out 3).trans rfl, (blk_cell BK190.out 4).trans rfl, (blk_cell BK190.out 5).trans rfl, (blk_cell BK190.out 6).trans rfl⟩ (fun hHeld => ?_)
            clear hK K
            refine norm_ (a' := ?_) ?_ ?_
            rotate_left
            · show Act.put _ (some 48) _ = _
              simp only [Act.put, List.setIfInBounds_toArray, List.set_cons_zero, List.set_cons_succ, i64_w, i32_w]
              rfl
            refine one_ (i := 13) (N := some 55) #[true, true, true, true, true, true, true, true, true, true, true, true, true, true, false, false] rfl rfl (one_of HT_.out (by kernel_rfl)) (by decide) (fun K hK => ?_)
            refine goes_ Tryd.func13 (by kernel_rfl) rfl #[.int .i64 a1_0, .agg #[.bool a2_0, .int .i64 a2_1, .string a2_2, .string a2_3, .bool a2_4, .int .u32 a2_5, .int .i64 a2_6], .int .i64 a3_0, .agg #[.bool a4_0, .int .i64 a4_1, .string a4_2, .string a4_3, .bool a4_4, .int .u32 a4_5, .int .i64 a4_6]] (by rfl) rfl rfl (by (try simp only [List.map_toArray, List.map_cons, List.map_nil]); first | done | rfl | (simp only [List.length_drop, List.length_take]; rfl)) ?_
            with_reducible refine (glacisref19_Match.calls k a1_0 a2_0 a2_1 a2_2 a2_3 a2_4 a2_5 a2_6 a3_0 a4_0 a4_1 a4_2 a4_3 a4_4 a4_5 a4_6 t198 _ A12.out).mono ?_
            rintro e w45 ⟨rfl, hb⟩
            refine ⟨_, rfl, ?_⟩
            have n0_ := Aside0.mk (blk_below (g := gb187) (o := .cells #[.int .i64 a1_0, .string a1_1, .int .i64 a1_2, .string a1_3] 23 (0, 0)) (by (with_reducible repeat (first | refine blk_drewN ?_ _ | refine blk_drew ?_ | refine blk_alloc ?_ _)); exact BK187.out) hb)
            have n1_ := Aside0.mk (blk_below (g := gb188) (o := .cells #[.bool a2_0, .int .i64 a2_1, .string a2_2, .string a2_3, .bool a2_4, .int .u32 a2_5, .int .i64 a2_6] 28 (0, 0)) (by (with_reducible repeat (first | refine blk_drewN ?_ _ | refine blk_drew ?_ | refine blk_alloc ?_ _)); exact BK188.out) hb)
            have n2_ := Aside0.mk (blk_below (g := gb189) (o := .cells #[.int .i64 a3_0, .string a3_1, .int .i64 a3_2, .string a3_3] 23 (0, 0)) (by (with_reducible repeat (first | refine blk_drewN ?_ _ | refine blk_drew ?_ | refine blk_alloc ?_ _)); exact BK189.out) hb)
            have n3_ := Aside0.mk (blk_below (g := gb190) (o := .cells #[.bool a4_0, .int .i64 a4_1, .string a4_2, .string a4_3, .bool a4_4, .int .u32 a4_5, .int .i64 a4_6] 28 (0, 0)) (by (with_reducible repeat (first | refine blk_drewN ?_ _ | refine blk_drew ?_ | refine blk_alloc ?_ _)); exact BK190.out) hb)
            have n4_ := Aside0.mk (below_step (by repeat (first | (with_reducible first | exact HB.out | apply below_alloc | apply pw_below_drewN | apply below_drew1 | refine below_set ?_ GE187.out | refine below_set ?_ GE188.out | refine below_set ?_ GE189.out | refine below_set ?_ GE190.out) | exact HB.out)) hb)
            clear BK187
            clear BK188
            clear BK189
            clear BK190
            clear HB
            have BK187 := n0_
            have BK188 := n1_
            have BK189 := n2_
            have BK190 := n3_
            have HB := n4_
            clear n0_ n1_ n2_ n3_ n4_
            (try clear hb)
            (try clear hb2)
            (try clear hk)
            (try clear hi)
            refine hK.out _ _ ⟨(blk_cell BK187.out 0).trans rfl, (blk_cell BK187.out 1).trans rfl, (blk_cell BK187.out 2).trans rfl, (blk_cell BK187.out 3).trans rfl, (blk_cell BK188.out 0).trans rfl, (blk_cell BK188.out 1).trans rfl, (blk_cell BK188.out 2).trans rfl, (blk_cell BK188.out 3).trans rfl, (blk_cell BK188.out 4).trans rfl, (blk_cell BK188.out 5).trans rfl, (blk_cell BK188.out 6).trans rfl, (blk_cell BK189.out 0).trans rfl, (blk_cell BK189.out 1).trans rfl, (blk_cell BK189.out 2).trans rfl, (blk_cell BK189.out 3).trans rfl, (blk_cell BK190.out 0).trans rfl, (blk_cell BK190.out 1).trans rfl, (blk_cell BK190.out 2).trans rfl, (blk_cell BK190.out 3).trans rfl, (blk_cell BK190.out 4).trans rfl, (blk_cell BK190.out 5).trans rfl, (blk_cell BK190.out 6).trans rfl⟩ (fun hHeld => ?_)
            clear hK K
            refine norm_ (a' := ?_) ?_ ?_
            rotate_left
            · show Act.put _ (some 55) _ = _
              simp only [Act.put, List.setIfInBounds_toArray, List.set_cons_zero, List.set_cons_succ, i64_w, i32_w]
              rfl
            refine pure_ (i := 14) (N := some 56) (v := ?_) (a' := ?_) #[true, true, true, true, true, true, true, true, true, true, true, true, true, true, true, false] rfl rfl (any_of HT_.out (by kernel_rfl)) (fun _ _ _ h => h) (Or.inl ⟨by rfl, ?_⟩) ?_ ?_
            rotate_left
            · intro w'
              go_simp
              with_reducible rfl
            rotate_left
            · simp only [Act.put, List.setIfInBounds_toArray, List.set_cons_zero, List.set_cons_succ, i64_w, i32_w]
              rfl
            refine pure_ (i := 15) (N := some 16) (v := ?_) (a' := ?_) #[true, true, true, true, true, true, true, true, true, true, true, true, true, true, true, true] rfl rfl (any_of HT_.out (by kernel_rfl)) (fun _ _ _ h => h) (Or.inl ⟨by rfl, ?_⟩) ?_ ?_
            rotate_left
            · intro w'
              go_simp
              with_reducible rfl
            rotate_left
            · simp only [Act.put, List.setIfInBounds_toArray, List.set_cons_zero, List.set_cons_succ, i64_w, i32_w]
              rfl
            refine done_ (done_of HT_.out (by kernel_rfl)) ?_
            try go_wp2
            have n0_ := Aside0.mk (blk_drew BK187.out)
            have n1_ := Aside0.mk (blk_drew BK188.out)
            have n2_ := Aside0.mk (blk_drew BK189.out)
            have n3_ := Aside0.mk (blk_drew BK190.out)
            have n4_ := Aside0.mk (below_drew1 HB.out)
            clear BK187
            clear BK188
            clear BK189
            clear BK190
            clear HB
            have BK187 := n0_
            have BK188 := n1_
            have BK189 := n2_
            have BK190 := n3_
            have HB := n4_
            clear n0_ n1_ n2_ n3_ n4_
            refine start_ (n := 18) (S := fun w' => w'.cell? ⟨gb187, 0, none⟩ = some (.int .i64 a1_0) ∧ w'.cell? ⟨gb187, 1, none⟩ = some (.string a1_1) ∧ w'.cell? ⟨gb187, 2, none⟩ = some (.int .i64 a1_2) ∧ w'.cell? ⟨gb187, 3, none⟩ = some (.string a1_3) ∧ w'.cell? ⟨gb188, 0, none⟩ = some (.bool a2_0) ∧ w'.cell? ⟨gb188, 1, none⟩ = some (.int .i64 a2_1) ∧ w'.cell? ⟨gb188, 2, none⟩ = some (.string a2_2) ∧ w'.cell? ⟨gb188, 3, none⟩ = some (.string a2_3) ∧ w'.cell? ⟨gb188, 4, none⟩ = some (.bool a2_4) ∧ w'.cell? ⟨gb188, 5, none⟩ = some (.int .u32 a2_5) ∧ w'.cell? ⟨gb188, 6, none⟩ = some (.int .i64 a2_6) ∧ w'.cell? ⟨gb189, 0, none⟩ = some (.int .i64 a3_0) ∧ w'.cell? ⟨gb189, 1, none⟩ = some (.string a3_1) ∧ w'.cell? ⟨gb189, 2, none⟩ = some (.int .i64 a3_2) ∧ w'.cell? ⟨gb189, 3, none⟩ = some (.string a3_3) ∧ w'.cell? ⟨gb190, 0, none⟩ = some (.bool a4_0) ∧ w'.cell? ⟨gb190, 1, none⟩ = some (.int .i64 a4_1) ∧ w'.cell? ⟨gb190, 2, none⟩ = some (.string a4_2) ∧ w'.cell? ⟨gb190, 3, none⟩ = some (.string a4_3) ∧ w'.cell? ⟨gb190, 4, none⟩ = some (.bool a4_4) ∧ w'.cell? ⟨gb190, 5, none⟩ = some (.int .u32 a4_5) ∧ w'.cell? ⟨gb190, 6, none⟩ = some (.int .i64 a4_6)) (ds := []) #[false, false, false, false, false, false, false, false, false, false, false, false, false, false, false, false, false, false] (by kernel_rfl) rfl rfl ⟨(blk_cell BK187.out 0).trans rfl, (blk_cell BK187.out 1).trans rfl, (blk_cell BK187.out 2).trans rfl, (blk_cell BK187.out 3).trans rfl, (blk_cell BK188.out 0).trans rfl, (blk_cell BK188.out 1).trans rfl, (blk_cell BK188.out 2).trans rfl, (blk_cell BK188.out 3).trans rfl, (blk_cell BK188.out 4).trans rfl, (blk_cell BK188.out 5).trans rfl, (blk_cell BK188.out 6).trans rfl, (blk_cell BK189.out 0).trans rfl, (blk_cell BK189.out 1).trans rfl, (blk_cell BK189.out 2).trans rfl, (blk_cell BK189.out 3).trans rfl, (blk_cell BK190.out 0).trans rfl, (blk_cell BK190.out 1).trans rfl, (blk_cell BK190.out 2).trans rfl, (blk_cell BK190.out 3).trans rfl, (blk_cell BK190.out 4).trans rfl, (blk_cell BK190.out 5).trans rfl, (blk_cell BK190.out 6).trans rfl⟩ (fun hHeld => ?_); refine with_tabW glacislaw19_SwapTells.tab7 glacislaw19_SwapTells.bits7 (fun HT_ HW_ => ?_)
            generalize w45.drew = w46 at BK187 BK188 BK189 BK190 HB hHeld ⊢
            refine pure_ (i := 0) (N := some 57) (v := ?_) (a' := ?_) #[true, false, false, false, false, false, false, false, false, false, false, false, false, false, false, false, false, false] rfl rfl (any_of HT_.out (by kernel_rfl)) (fun _ _ _ h => h) (Or.inl ⟨by rfl, ?_⟩) ?_ ?_
            rotate_left
            · intro w'
              go_simp
              with_reducible rfl
            rotate_left
            · simp only [Act.put, List.setIfInBounds_toArray, List.set_cons_zero, List.set_cons_succ, i64_w, i32_w]
              rfl
            refine pure_ (i := 1) (N := some 58) (v := ?_) (a' := ?_) #[true, true, false, false, false, false, false, false, false, false, false, false, false, false, false, false, false, false] rfl rfl (any_of HT_.out (by kernel_rfl)) (fun _ _ _ h => h) (Or.inl ⟨by rfl, ?_⟩) ?_ ?_
            rotate_left
            · intro w'
              go_simp
              with_reducible rfl
            rotate_left
            · simp only [Act.put, List.setIfInBounds_toArray, List.set_cons_zero, List.set_cons_succ, i64_w, i32_w]
              rfl
            refine pure_ (i := 4) (N := some 61) (v := ?_) (a' := ?_) #[true, true, false, false, true, false, false, false, false, false, false, false, false, false, false, false, false, false] rfl rfl (any_of HT_.out (by kernel_rfl)) (fun _ _ _ h => h) (Or.inl ⟨by rfl, ?_⟩) ?_ ?_
            rotate_left
            · intro w'
              go_simp
              with_reducible rfl
            rotate_left
            · simp only [Act.put, List.setIfInBounds_toArray, List.set_cons_zero, List.set_cons_succ, i64_w, i32_w]
              rfl
            refine pure_ (i := 8) (N := some 65) (v := ?_) (a' := ?_) #[true, true, false, false, true, false, false, false, true, false, false, false, false, false, false, false, false, false] rfl rfl (any_of HT_.out (by kernel_rfl)) (fun _ _ _ h => h) (Or.inl ⟨by rfl, ?_⟩) ?_ ?_
            rotate_left
            · intro w'
              go_simp
              with_reducible rfl
            rotate_left
            · simp only [Act.put, List.setIfInBounds_toArray, List.set_cons_zero, List.set_cons_succ, i64_w, i32_w]
              rfl
            refine pure_ (i := 9) (N := some 66) (v := ?_) (a' := ?_) #[true, true, false, false, true, false, false, false, true, true, false, false, false, false, false, false, false, false] rfl rfl (any_of HT_.out (by kernel_rfl)) (fun _ _ _ h => h) (Or.inl ⟨by rfl, ?_⟩) ?_ ?_
            rotate_left
            · intro w'
              go_simp
              with_reducible rfl
            rotate_left
            · simp only [Act.put, List.setIfInBounds_toArray, List.set_cons_zero, List.set_cons_succ, i64_w, i32_w]
              rfl
            refine pure_ (i := 12) (N := some 69) (v := ?_) (a' := ?_) #[true, true, false, false, true, false, false, false, true, true, false, false, true, false, false, false, false, false] rfl rfl (any_of HT_.out (by kernel_rfl)) (fun _ _ _ h => h) (Or.inl ⟨by rfl, ?_⟩) ?_ ?_
            rotate_left
            · intro w'
              go_simp
              with_reducible rfl
            rotate_left
            · simp only [Act.put, List.setIfInBounds_toArray, List.set_cons_zero, List.set_cons_succ, i64_w, i32_w]
              rfl
            refine take_ (i := 2) (N := some 59) (v := ?_) (a' := ?_) #[true, true, true, false, true, false, false, false, true, true, false, false, true, false, false, false, false, false] rfl rfl (take_ofW HT_.out HW_.out (by kernel_rfl)) (fun _ _ _ h => h) (Or.inl ⟨by rfl, ?_⟩) hHeld ?_ ?_
            rotate_left
            · rintro w' ⟨s0, s1, s2, s3, s4, s5, s6, s7, s8, s9, s10, s11, s12, s13, s14, s15, s16, s17, s18, s19, s20, s21⟩
              go_simp
              with_reducible rfl
            rotate_left
            · simp only [Act.put, List.setIfInBounds_toArray, List.set_cons_zero, List.set_cons_succ, i64_w, i32_w]
              rfl
            refine take_ (i := 3) (N := some 60) (v := ?_) (a' := ?_) #[true, true, true, true, true, false, false, false, true, true, false, false, true, false, false, false, false, false] rfl rfl (take_ofW HT_.out HW_.out (by kernel_rfl)) (fun _ _ _ h => h) (Or.inl ⟨by rfl, ?_⟩) hHeld ?_ ?_
            rotate_left
            · rintro w' ⟨s0, s1, s2, s3, s4, s5, s6, s7, s8, s9, s10, s11, s12, s13, s14, s15, s16, s17, s18, s19, s20, s21⟩
              go_simp
              with_reducible rfl
            rotate_left
            · simp only [Act.put, List.setIfInBounds_toArray, List.set_cons_zero, List.set_cons_succ, i64_w, i32_w]
              rfl
            refine take_ (i := 5) (N := some 62) (v := ?_) (a' := ?_) #[true, true, true, true, true, true, false, false, true, true, false, false, true, false, false, false, false, false] rfl rfl (take_ofW HT_.out HW_.out (by kernel_rfl)) (fun _ _ _ h => h) (Or.inl ⟨by rfl, ?_⟩) hHeld ?_ ?_
            rotate_left
            · rintro w' ⟨s0, s1, s2, s3, s4, s5, s6, s7, s8, s9, s10, s11, s12, s13, s14, s15, s16, s17, s18, s19, s20, s21⟩
              go_simp
              with_reducible rfl
            rotate_left
            · simp only [Act.put, List.setIfInBounds_toArray, List.set_cons_zero, List.set_cons_succ, i64_w, i32_w]
              rfl
            refine take_ (i := 6) (N := some 63) (v := ?_) (a' := ?_) #[true, true, true, true, true, true, true, false, true, true, false, false, true, false, false, false, false, false] rfl rfl (take_ofW HT_.out HW_.out (by kernel_rfl)) (fun _ _ _ h => h) (Or.inl ⟨by rfl, ?_⟩) hHeld ?_ ?_
            rotate_left
            · rintro w' ⟨s0, s1, s2, s3, s4, s5, s6, s7, s8, s9, s10, s11, s12, s13, s14, s15, s16, s17, s18, s19, s20, s21⟩
              go_simp
              with_reducible rfl
            rotate_left
            · simp only [Act.put, List.setIfInBounds_toArray, List.set_cons_zero, List.set_cons_succ, i64_w, i32_w]
              rfl
            refine take_ (i := 10) (N := some 67) (v := ?_) (a' := ?_) #[true, true, true, true, true, true, true, false, true, true, true, false, true, false, false, false, false, false] rfl rfl (take_ofW HT_.out HW_.out (by kernel_rfl)) (fun _ _ _ h => h) (Or.inl ⟨by rfl, ?_⟩) hHeld ?_ ?_
            rotate_left
            · rintro w' ⟨s0, s1, s2, s3, s4, s5, s6, s7, s8, s9, s10, s11, s12, s13, s14, s15, s16, s17, s18, s19, s20, s21⟩
              go_simp
              with_reducible rfl
            rotate_left
            · simp only [Act.put, List.setIfInBounds_toArray, List.set_cons_zero, List.set_cons_succ, i64_w, i32_w]
              rfl
            refine take_ (i := 11) (N := some 68) (v := ?_) (a' := ?_) #[true, true, true, true, true, true, true, false, true, true, true, true, true, false, false, false, false, false] rfl rfl (take_ofW HT_.out HW_.out (by kernel_rfl)) (fun _ _ _ h => h) (Or.inl ⟨by rfl, ?_⟩) hHeld ?_ ?_
            rotate_left
            · rintro w' ⟨s0, s1, s2, s3, s4, s5, s6, s7, s8, s9, s10, s11, s12, s13, s14, s15, s16, s17, s18, s19, s20, s21⟩
              go_simp
              with_reducible rfl
            rotate_left
            · simp only [Act.put, List.setIfInBounds_toArray, List.set_cons_zero, List.set_cons_succ, i64_w, i32_w]
              rfl
            refine take_ (i := 13) (N := some 70) (v := ?_) (a' := ?_) #[true, true, true, true, true, true, true, false, true, true, true, true, true, true, false, false, false, false] rfl rfl (take_ofW HT_.out HW_.out (by kernel_rfl)) (fun _ _ _ h => h) (Or.inl ⟨by rfl, ?_⟩) hHeld ?_ ?_
            rotate_left
            · rintro w' ⟨s0, s1, s2, s3, s4, s5, s6, s7, s8, s9, s10, s11, s12, s13, s14, s15, s16, s17, s18, s19, s20, s21⟩
              go_simp
              with_reducible rfl
            rotate_left
            · simp only [Act.put, List.setIfInBounds_toArray, List.set_cons_zero, List.set_cons_succ, i64_w, i32_w]
              rfl
            refine take_ (i := 14) (N := some 71) (v := ?_) (a' := ?_) #[true, true, true, true, true, true, true, false, true, true, true, true, true, true, true, false, false, false] rfl rfl (take_ofW HT_.out HW_.out (by kernel_rfl)) (fun _ _ _ h => h) (Or.inl ⟨by rfl, ?_⟩) hHeld ?_ ?_
            rotate_left
            · rintro w' ⟨s0, s1, s2, s3, s4, s5, s6, s7, s8, s9, s10, s11, s12, s13, s14, s15, s16, s17, s18, s19, s20, s21⟩
              go_simp
              with_reducible rfl
            rotate_left
            · simp only [Act.put, List.setIfInBounds_toArray, List.set_cons_zero, List.set_cons_succ, i64_w, i32_w]
              rfl
            refine one_ (i := 7) (N := some 64) #[true, true, true, true, true, true, true, true, true, true, true, true, true, true, true, false, false, false] rfl rfl (one_of HT_.out (by kernel_rfl)) (by decide) (fun K hK => ?_)
            refine goes_ Tryd.func14 (by kernel_rfl) rfl #[.bool a0, .int .i64 a1_0, .agg #[.bool a2_0, .int .i64 a2_1, .string a2_2, .string a2_3, .bool a2_4, .int .u32 a2_5, .int .i64 a2_6], .int .i64 a3_0, .agg #[.bool a4_0, .int .i64 a4_1, .string a4_2, .string a4_3, .bool a4_4, .int .u32 a4_5, .int .i64 a4_6]] (by rfl) rfl rfl (by (try simp only [List.map_toArray, List.map_cons, List.map_nil]); first | done | rfl | (simp only [List.length_drop, List.length_take]; rfl)) ?_
            with_reducible refine (swap_Swap.calls a0 a1_0 a2_0 a2_1 a2_2 a2_3 a2_4 a2_5 a2_6 a3_0 a4_0 a4_1 a4_2 a4_3 a4_4 a4_5 a4_6 t199 _ A13.out).mono ?_
            rintro e w47 ⟨rfl, hb⟩
            refine ⟨_, rfl, ?_⟩
            have n0_ := Aside0.mk (blk_below (g := gb187) (o := .cells #[.int .i64 a1_0, .string a1_1, .int .i64 a1_2, .string a1_3] 23 (0, 0)) (by (with_reducible repeat (first | refine blk_drewN ?_ _ | refine blk_drew ?_ | refine blk_alloc ?_ _)); exact BK187.out) hb)
            have n1_ := Aside0.mk (blk_below (g := gb188) (o := .cells #[.bool a2_0, .int .i64 a2_1, .string a2_2, .string a2_3, .bool a2_4, .int .u32 a2_5, .int .i64 a2_6] 28 (0, 0)) (by (with_reducible repeat (first | refine blk_drewN ?_ _ | refine blk_drew ?_ | refine blk_alloc ?_ _)); exact BK188.out) hb)
            have n2_ := Aside0.mk (blk_below (g := gb189) (o := .cells #[.int .i64 a3_0, .string a3_1, .int .i64 a3_2, .string a3_3] 23 (0, 0)) (by (with_reducible repeat (first | refine blk_drewN ?_ _ | refine blk_drew ?_ | refine blk_alloc ?_ _)); exact BK189.out) hb)
            have n3_ := Aside0.mk (blk_below (g := gb190) (o := .cells #[.bool a4_0, .int .i64 a4_1, .string a4_2, .string a4_3, .bool a4_4, .int .u32 a4_5, .int .i64 a4_6] 28 (0, 0)) (by (with_reducible repeat (first | refine blk_drewN ?_ _ | refine blk_drew ?_ | refine blk_alloc ?_ _)); exact BK190.out) hb)
            have n4_ := Aside0.mk (below_step (by repeat (first | (with_reducible first | exact HB.out | apply below_alloc | apply pw_below_drewN | apply below_drew1 | refine below_set ?_ GE187.out | refine below_set ?_ GE188.out | refine below_set ?_ GE189.out | refine below_set ?_ GE190.out) | exact HB.out)) hb)
            clear BK187
            clear BK188
            clear BK189
            clear BK190
            clear HB
            have BK187 := n0_
            have BK188 := n1_
            have BK189 := n2_
            have BK190 := n3_
            have HB := n4_
            clear n0_ n1_ n2_ n3_ n4_
            (try clear hb)
            (try clear hb2)
            (try clear hk)
            (try clear hi)
            refine hK.out _ _ ⟨(blk_cell BK187.out 0).trans rfl, (blk_cell BK187.out 1).trans rfl, (blk_cell BK187.out 2).trans rfl, (blk_cell BK187.out 3).trans rfl, (blk_cell BK188.out 0).trans rfl, (blk_cell BK188.out 1).trans rfl, (blk_cell BK188.out 2).trans rfl, (blk_cell BK188.out 3).trans rfl, (blk_cell BK188.out 4).trans rfl, (blk_cell BK188.out 5).trans rfl, (blk_cell BK188.out 6).trans rfl, (blk_cell BK189.out 0).trans rfl, (blk_cell BK189.out 1).trans rfl, (blk_cell BK189.out 2).trans rfl, (blk_cell BK189.out 3).trans rfl, (blk_cell BK190.out 0).trans rfl, (blk_cell BK190.out 1).trans rfl, (blk_cell BK190.out 2).trans rfl, (blk_cell BK190.out 3).trans rfl, (blk_cell BK190.out 4).trans rfl, (blk_cell BK190.out 5).trans rfl, (blk_cell BK190.out 6).trans rfl⟩ (fun hHeld => ?_)
            clear hK K
            refine norm_ (a' := ?_) ?_ ?_
            rotate_left
            · show Act.put _ (some 64) _ = _
              simp only [Act.put, List.setIfInBounds_toArray, List.set_cons_zero, List.set_cons_succ, i64_w, i32_w]
              rfl
            refine one_ (i := 15) (N := some 72) #[true, true, true, true, true, true, true, true, true, true, true, true, true, true, true, true, false, false] rfl rfl (one_of HT_.out (by kernel_rfl)) (by decide) (fun K hK => ?_)
            refine goes_ Tryd.func15 (by kernel_rfl) rfl #[.bool a0, .int .i64 a1_0, .agg #[.bool a2_0, .int .i64 a2_1, .string a2_2, .string a2_3, .bool a2_4, .int .u32 a2_5, .int .i64 a2_6], .int .i64 a3_0, .agg #[.bool a4_0, .int .i64 a4_1, .string a4_2, .string a4_3, .bool a4_4, .int .u32 a4_5, .int .i64 a4_6]] (by rfl) rfl rfl (by (try simp only [List.map_toArray, List.map_cons, List.map_nil]); first | done | rfl | (simp only [List.length_drop, List.length_take]; rfl)) ?_
            with_reducible refine (glacisref19_Swap.calls k a0 a1_0 a2_0 a2_1 a2_2 a2_3 a2_4 a2_5 a2_6 a3_0 a4_0 a4_1 a4_2 a4_3 a4_4 a4_5 a4_6 t200 _ A14.out).mono ?_
            rintro e w48 ⟨rfl, hb⟩
            refine ⟨_, rfl, ?_⟩
            have n0_ := Aside0.mk (blk_below (g := gb187) (o := .cells #[.int .i64 a1_0, .string a1_1, .int .i64 a1_2, .string a1_3] 23 (0, 0)) (by (with_reducible repeat (first | refine blk_drewN ?_ _ | refine blk_drew ?_ | refine blk_alloc ?_ _)); exact BK187.out) hb)
            have n1_ := Aside0.mk (blk_below (g := gb188) (o := .cells #[.bool a2_0, .int .i64 a2_1, .string a2_2, .string a2_3, .bool a2_4, .int .u32 a2_5, .int .i64 a2_6] 28 (0, 0)) (by (with_reducible repeat (first | refine blk_drewN ?_ _ | refine blk_drew ?_ | refine blk_alloc ?_ _)); exact BK188.out) hb)
            have n2_ := Aside0.mk (blk_below (g := gb189) (o := .cells #[.int .i64 a3_0, .string a3_1, .int .i64 a3_2, .string a3_3] 23 (0, 0)) (by (with_reducible repeat (first | refine blk_drewN ?_ _ | refine blk_drew ?_ | refine blk_alloc ?_ _)); exact BK189.out) hb)
            have n3_ := Aside0.mk (blk_below (g := gb190) (o := .cells #[.bool a4_0, .int .i64 a4_1, .string a4_2, .string a4_3, .bool a4_4, .int .u32 a4_5, .int .i64 a4_6] 28 (0, 0)) (by (with_reducible repeat (first | refine blk_drewN ?_ _ | refine blk_drew ?_ | refine blk_alloc ?_ _)); exact BK190.out) hb)
            have n4_ := Aside0.mk (below_step (by repeat (first | (with_reducible first | exact HB.out | apply below_alloc | apply pw_below_drewN | apply below_drew1 | refine below_set ?_ GE187.out | refine below_set ?_ GE188.out | refine below_set ?_ GE189.out | refine below_set ?_ GE190.out) | exact HB.out)) hb)
            clear BK187
            clear BK188
            clear BK189
            clear BK190
            clear HB
            have BK187 := n0_
            have BK188 := n1_
            have BK189 := n2_
            have BK190 := n3_
            have HB := n4_
            clear n0_ n1_ n2_ n3_ n4_
            (try clear hb)
            (try clear hb2)
            (try clear hk)
            (try clear hi)
            refine hK.out _ _ ⟨(blk_cell BK187.out 0).trans rfl, (blk_cell BK187.out 1).trans rfl, (blk_cell BK187.out 2).trans rfl, (blk_cell BK187.out 3).trans rfl, (blk_cell BK188.out 0).trans rfl, (blk_cell BK188.out 1).trans rfl, (blk_cell BK188.out 2).trans rfl, (blk_cell BK188.out 3).trans rfl, (blk_cell BK188.out 4).trans rfl, (blk_cell BK188.out 5).trans rfl, (blk_cell BK188.out 6).trans rfl, (blk_cell BK189.out 0).trans rfl, (blk_cell BK189.out 1).trans rfl, (blk_cell BK189.out 2).trans rfl, (blk_cell BK189.out 3).trans rfl, (blk_cell BK190.out 0).trans rfl, (blk_cell BK190.out 1).trans rfl, (blk_cell BK190.out 2).trans rfl, (blk_cell BK190.out 3).trans rfl, (blk_cell BK190.out 4).trans rfl, (blk_cell BK190.out 5).trans rfl, (blk_cell BK190.out 6).trans rfl⟩ (fun hHeld => ?_)
            clear hK K
            refine norm_ (a' := ?_) ?_ ?_
            rotate_left
            · show Act.put _ (some 72) _ = _
              simp only [Act.put, List.setIfInBounds_toArray, List.set_cons_zero, List.set_cons_succ, i64_w, i32_w]
              rfl
            refine pure_ (i := 16) (N := some 73) (v := ?_) (a' := ?_) #[true, true, true, true, true, true, true, true, true, true, true, true, true, true, true, true, true, false] rfl rfl (any_of HT_.out (by kernel_rfl)) (fun _ _ _ h => h) (Or.inl ⟨by rfl, ?_⟩) ?_ ?_
            rotate_left
            · intro w'
              go_simp
              with_reducible rfl
            rotate_left
            · simp only [Act.put, List.setIfInBounds_toArray, List.set_cons_zero, List.set_cons_succ, i64_w, i32_w]
              rfl
            refine pure_ (i := 17) (N := some 17) (v := ?_) (a' := ?_) #[true, true, true, true, true, true, true, true, true, true, true, true, true, true, true, true, true, true] rfl rfl (any_of HT_.out (by kernel_rfl)) (fun _ _ _ h => h) (Or.inl ⟨by rfl, ?_⟩) ?_ ?_
            rotate_left
            · intro w'
              go_simp
              with_reducible rfl
            rotate_left
            · simp only [Act.put, List.setIfInBounds_toArray, List.set_cons_zero, List.set_cons_succ, i64_w, i32_w]
              rfl
            refine done_ (done_of HT_.out (by kernel_rfl)) ?_
            try go_wp2
            go_ret
            exact ⟨by first | rfl | (simp [errW_none, errW_some] <;> rfl) | (simp [*, errW_none, errW_some] <;> rfl) | (simp [q_ne_nil]; done), by repeat (first | (with_reducible first | exact HB.out | apply below_alloc | apply pw_below_drewN | apply below_drew1 | refine below_set ?_ GE187.out | refine below_set ?_ GE188.out | refine below_set ?_ GE189.out | refine below_set ?_ GE190.out) | exact HB.out)⟩
          · exact absurd H (by rw [if_neg c18]; simp)
        · exact absurd H (by rw [if_neg c17]; simp)
      · exact absurd H (by rw [if_neg c16]; simp)
    · exact absurd H (by rw [if_neg c15]; simp)
  · replace c8 := Bool.eq_false_iff.mpr c8
    subst c8
    have H1 : (some t191) = some r := by rw [if_neg (show ¬ (false = true) by decide)] at H; exact H
    clear H
    have H := H1
    clear H1
    obtain rfl := Option.some.inj H
    go_enter Tryd.func3, Tryd.ntmps3
    go_wp2_with (first | ((with_reducible refine gate_dst (N := 6) rfl ?_); refine box_event ?hg (N := 6) ?hd (cs := #[.int .i64 a1_0, .string a1_1, .int .i64 a1_2, .string a1_3]) (t := 23) ?hr ?_; (case hd => rfl); (case hg => rfl); (case hr => first | (go_simp; done) | (go_simp; rfl)); intro gb187 hg w169 hbox hb; have n0_ := Aside0.mk (below_step (by repeat (first | (with_reducible first | exact HB.out | apply below_alloc | apply pw_below_drewN | apply below_drew1) | exact HB.out)) hb); have n1_ := Aside0.mk (hbox); have n2_ := Aside0.mk ((by rw [hg]; exact (below_size (by repeat (first | (with_reducible first | exact HB.out | apply below_alloc | apply pw_below_drewN | apply below_drew1) | exact HB.out))) : w.heap.size ≤ gb187)); have n3_ := Aside0.mk ((by rw [hg]; exact (below_size (by repeat (first | (with_reducible first | exact HB.out | apply below_alloc | apply pw_below_drewN | apply below_drew1) | exact HB.out))) : w.heap.size ≤ gb187)); clear HB; have HB := n0_; have BK187 := n1_; have GW187 := n2_; have GE187 := n3_; clear n0_ n1_ n2_ n3_; clear hb hbox hg) | ((with_reducible refine gate_dst (N := 7) rfl ?_); refine box_event ?hg (N := 7) ?hd (cs := #[.bool a2_0, .int .i64 a2_1, .string a2_2, .string a2_3, .bool a2_4, .int .u32 a2_5, .int .i64 a2_6]) (t := 28) ?hr ?_; (case hd => rfl); (case hg => rfl); (case hr => first | (go_simp; done) | (go_simp; rfl)); intro gb188 hg w170 hbox hb; have n0_ := Aside0.mk (blk_below (g := gb187) (o := .cells #[.int .i64 a1_0, .string a1_1, .int .i64 a1_2, .string a1_3] 23 (0, 0)) (by (with_reducible repeat (first | refine blk_drewN ?_ _ | refine blk_drew ?_ | refine blk_alloc ?_ _)); exact BK187.out) hb); have n1_ := Aside0.mk (below_step (by repeat (first | (with_reducible first | exact HB.out | apply below_alloc | apply pw_below_drewN | apply below_drew1 | refine below_set ?_ GE187.out) | exact HB.out)) hb); have n2_ := Aside0.mk (hbox); have n3_ := Aside0.mk ((by rw [hg]; exact (below_size (by repeat (first | (with_reducible first | exact HB.out | apply below_alloc | apply pw_below_drewN | apply below_drew1 | refine below_set ?_ GE187.out) | exact HB.out))) : w.heap.size ≤ gb188)); have n4_ := Aside0.mk ((by rw [hg]; exact (below_size (by repeat (first | (with_reducible first | exact HB.out | apply below_alloc | apply pw_below_drewN | apply below_drew1 | refine below_set ?_ GE187.out) | exact HB.out))) : w.heap.size ≤ gb188)); have n5_ := Aside0.mk ((by rw [hg]; exact Nat.ne_of_lt (blk_lt (g := gb187) (o := .cells #[.int .i64 a1_0, .string a1_1, .int .i64 a1_2, .string a1_3] 23 (0, 0)) (by (with_reducible repeat (first | refine blk_drewN ?_ _ | refine blk_drew ?_ | refine blk_alloc ?_ _)); exact BK187.out)) : gb187 ≠ gb188)); have n6_ := Aside0.mk ((by rw [hg]; exact Nat.ne_of_gt (blk_lt (g := gb187) (o := .cells #[.int .i64 a1_0, .string a1_1, .int .i64 a1_2, .string a1_3] 23 (0, 0)) (by (with_reducible repeat (first | refine blk_drewN ?_ _ | refine blk_drew ?_ | refine blk_alloc ?_ _)); exact BK187.out)) : gb188 ≠ gb187)); clear BK187; clear HB; have BK187 := n0_; have HB := n1_; have BK188 := n2_; have GW188 := n3_; have GE188 := n4_; have NB187_188 := n5_; have NB188_187 := n6_; clear n0_ n1_ n2_ n3_ n4_ n5_ n6_; clear hb hbox hg) | ((with_reducible refine gate_dst (N := 8) rfl ?_); refine box_event ?hg (N := 8) ?hd (cs := #[.int .i64 a3_0, .string a3_1, .int .i64 a3_2, .string a3_3]) (t := 23) ?hr ?_; (case hd => rfl); (case hg => rfl); (case hr => first | (go_simp; done) | (go_simp; rfl)); intro gb189 hg w171 hbox hb; have n0_ := Aside0.mk (blk_below (g := gb187) (o := .cells #[.int .i64 a1_0, .string a1_1, .int .i64 a1_2, .string a1_3] 23 (0, 0)) (by (with_reducible repeat (first | refine blk_drewN ?_ _ | refine blk_drew ?_ | refine blk_alloc ?_ _)); exact BK187.out) hb); have n1_ := Aside0.mk (blk_below (g := gb188) (o := .cells #[.bool a2_0, .int .i64 a2_1, .string a2_2, .string a2_3, .bool a2_4, .int .u32 a2_5, .int .i64 a2_6] 28 (0, 0)) (by (with_reducible repeat (first | refine blk_drewN ?_ _ | refine blk_drew ?_ | refine blk_alloc ?_ _)); exact BK188.out) hb); have n2_ := Aside0.mk (below_step (by repeat (first | (with_reducible first | exact HB.out | apply below_alloc | apply pw_below_drewN | apply below_drew1 | refine below_set ?_ GE187.out | refine below_set ?_ GE188.out) | exact HB.out)) hb); have n3_ := Aside0.mk (hbox); have n4_ := Aside0.mk ((by rw [hg]; exact (below_size (by repeat (first | (with_reducible first | exact HB.out | apply below_alloc | apply pw_below_drewN | apply below_drew1 | refine below_set ?_ GE187.out | refine below_set ?_ GE188.out) | exact HB.out))) : w.heap.size ≤ gb189)); have n5_ := Aside0.mk ((by rw [hg]; exact (below_size (by repeat (first | (with_reducible first | exact HB.out | apply below_alloc | apply pw_below_drewN | apply below_drew1 | refine below_set ?_ GE187.out | refine below_set ?_ GE188.out) | exact HB.out))) : w.heap.size ≤ gb189)); have n6_ := Aside0.mk ((by rw [hg]; exact Nat.ne_of_lt (blk_lt (g := gb187) (o := .cells #[.int .i64 a1_0, .string a1_1, .int .i64 a1_2, .string a1_3] 23 (0, 0)) (by (with_reducible repeat (first | refine blk_drewN ?_ _ | refine blk_drew ?_ | refine blk_alloc ?_ _)); exact BK187.out)) : gb187 ≠ gb189)); have n7_ := Aside0.mk ((by rw [hg]; exact Nat.ne_of_gt (blk_lt (g := gb187) (o := .cells #[.int .i64 a1_0, .string a1_1, .int .i64 a1_2, .string a1_3] 23 (0, 0)) (by (with_reducible repeat (first | refine blk_drewN ?_ _ | refine blk_drew ?_ | refine blk_alloc ?_ _)); exact BK187.out)) : gb189 ≠ gb187)); have n8_ := Aside0.mk ((by rw [hg]; exact Nat.ne_of_lt (blk_lt (g := gb188) (o := .cells #[.bool a2_0, .int .i64 a2_1, .string a2_2, .string a2_3, .bool a2_4, .int .u32 a2_5, .int .i64 a2_6] 28 (0, 0)) (by (with_reducible repeat (first | refine blk_drewN ?_ _ | refine blk_drew ?_ | refine blk_alloc ?_ _)); exact BK188.out)) : gb188 ≠ gb189)); have n9_ := Aside0.mk ((by rw [hg]; exact Nat.ne_of_gt (blk_lt (g := gb188) (o := .cells #[.bool a2_0, .int .i64 a2_1, .string a2_2, .string a2_3, .bool a2_4, .int .u32 a2_5, .int .i64 a2_6] 28 (0, 0)) (by (with_reducible repeat (first | refine blk_drewN ?_ _ | refine blk_drew ?_ | refine blk_alloc ?_ _)); exact BK188.out)) : gb189 ≠ gb188)); clear BK187; clear BK188; clear HB; have BK187 := n0_; have BK188 := n1_; have HB := n2_; have BK189 := n3_; have GW189 := n4_; have GE189 := n5_; have NB187_189 := n6_; have NB189_187 := n7_; have NB188_189 := n8_; have NB189_188 := n9_; clear n0_ n1_ n2_ n3_ n4_ n5_ n6_ n7_ n8_ n9_; clear hb hbox hg) | ((with_reducible refine gate_dst (N := 9) rfl ?_); refine box_event ?hg (N := 9) ?hd (cs := #[.bool a4_0, .int .i64 a4_1, .string a4_2, .string a4_3, .bool a4_4, .int .u32 a4_5, .int .i64 a4_6]) (t := 28) ?hr ?_; (case hd => rfl); (case hg => rfl); (case hr => first | (go_simp; done) | (go_simp; rfl)); intro gb190 hg w172 hbox hb; have n0_ := Aside0.mk (blk_below (g := gb187) (o := .cells #[.int .i64 a1_0, .string a1_1, .int .i64 a1_2, .string a1_3] 23 (0, 0)) (by (with_reducible repeat (first | refine blk_drewN ?_ _ | refine blk_drew ?_ | refine blk_alloc ?_ _)); exact BK187.out) hb); have n1_ := Aside0.mk (blk_below (g := gb188) (o := .cells #[.bool a2_0, .int .i64 a2_1, .string a2_2, .string a2_3, .bool a2_4, .int .u32 a2_5, .int .i64 a2_6] 28 (0, 0)) (by (with_reducible repeat (first | refine blk_drewN ?_ _ | refine blk_drew ?_ | refine blk_alloc ?_ _)); exact BK188.out) hb); have n2_ := Aside0.mk (blk_below (g := gb189) (o := .cells #[.int .i64 a3_0, .string a3_1, .int .i64 a3_2, .string a3_3] 23 (0, 0)) (by (with_reducible repeat (first | refine blk_drewN ?_ _ | refine blk_drew ?_ | refine blk_alloc ?_ _)); exact BK189.out) hb); have n3_ := Aside0.mk (below_step (by repeat (first | (with_reducible first | exact HB.out | apply below_alloc | apply pw_below_drewN | apply below_drew1 | refine below_set ?_ GE187.out | refine below_set ?_ GE188.out | refine below_set ?_ GE189.out) | exact HB.out)) hb); have n4_ := Aside0.mk (hbox); have n5_ := Aside0.mk ((by rw [hg]; exact (below_size (by repeat (first | (with_reducible first | exact HB.out | apply below_alloc | apply pw_below_drewN | apply below_drew1 | refine below_set ?_ GE187.out | refine below_set ?_ GE188.out | refine below_set ?_ GE189.out) | exact HB.out))) : w.heap.size ≤ gb190)); have n6_ := Aside0.mk ((by rw [hg]; exact (below_size (by repeat (first | (with_reducible first | exact HB.out | apply below_alloc | apply pw_below_drewN | apply below_drew1 | refine below_set ?_ GE187.out | refine below_set ?_ GE188.out | refine below_set ?_ GE189.out) | exact HB.out))) : w.heap.size ≤ gb190)); have n7_ := Aside0.mk ((by rw [hg]; exact Nat.ne_of_lt (blk_lt (g := gb187) (o := .cells #[.int .i64 a1_0, .string a1_1, .int .i64 a1_2, .string a1_3] 23 (0, 0)) (by (with_reducible repeat (first | refine blk_drewN ?_ _ | refine blk_drew ?_ | refine blk_alloc ?_ _)); exact BK187.out)) : gb187 ≠ gb190)); have n8_ := Aside0.mk ((by rw [hg]; exact Nat.ne_of_gt (blk_lt (g := gb187) (o := .cells #[.int .i64 a1_0, .string a1_1, .int .i64 a1_2, .string a1_3] 23 (0, 0)) (by (with_reducible repeat (first | refine blk_drewN ?_ _ | refine blk_drew ?_ | refine blk_alloc ?_ _)); exact BK187.out)) : gb190 ≠ gb187)); have n9_ := Aside0.mk ((by rw [hg]; exact Nat.ne_of_lt (blk_lt (g := gb188) (o := .cells #[.bool a2_0, .int .i64 a2_1, .string a2_2, .string a2_3, .bool a2_4, .int .u32 a2_5, .int .i64 a2_6] 28 (0, 0)) (by (with_reducible repeat (first | refine blk_drewN ?_ _ | refine blk_drew ?_ | refine blk_alloc ?_ _)); exact BK188.out)) : gb188 ≠ gb190)); have n10_ := Aside0.mk ((by rw [hg]; exact Nat.ne_of_gt (blk_lt (g := gb188) (o := .cells #[.bool a2_0, .int .i64 a2_1, .string a2_2, .string a2_3, .bool a2_4, .int .u32 a2_5, .int .i64 a2_6] 28 (0, 0)) (by (with_reducible repeat (first | refine blk_drewN ?_ _ | refine blk_drew ?_ | refine blk_alloc ?_ _)); exact BK188.out)) : gb190 ≠ gb188)); have n11_ := Aside0.mk ((by rw [hg]; exact Nat.ne_of_lt (blk_lt (g := gb189) (o := .cells #[.int .i64 a3_0, .string a3_1, .int .i64 a3_2, .string a3_3] 23 (0, 0)) (by (with_reducible repeat (first | refine blk_drewN ?_ _ | refine blk_drew ?_ | refine blk_alloc ?_ _)); exact BK189.out)) : gb189 ≠ gb190)); have n12_ := Aside0.mk ((by rw [hg]; exact Nat.ne_of_gt (blk_lt (g := gb189) (o := .cells #[.int .i64 a3_0, .string a3_1, .int .i64 a3_2, .string a3_3] 23 (0, 0)) (by (with_reducible repeat (first | refine blk_drewN ?_ _ | refine blk_drew ?_ | refine blk_alloc ?_ _)); exact BK189.out)) : gb190 ≠ gb189)); clear BK187; clear BK188; clear BK189; clear HB; have BK187 := n0_; have BK188 := n1_; have BK189 := n2_; have HB := n3_; have BK190 := n4_; have GW190 := n5_; have GE190 := n6_; have NB187_190 := n7_; have NB190_187 := n8_; have NB188_190 := n9_; have NB190_188 := n10_; have NB189_190 := n11_; have NB190_189 := n12_; clear n0_ n1_ n2_ n3_ n4_ n5_ n6_ n7_ n8_ n9_ n10_ n11_ n12_; clear hb hbox hg) | ((with_reducible refine gate_callee (f := 8) rfl ?_); refine goesL_ (some 18) rfl rfl Tryd.func8 (by kernel_rfl) rfl #[] rfl (by (try simp only [List.map_toArray, List.map_cons, List.map_nil]); first | done | rfl | (simp only [List.length_drop, List.length_take]; rfl)) ?_; (with_reducible refine (glacislaw19_awake.calls k  t191 _ A6.out).mono ?_); rintro e w173 ⟨rfl, hb⟩; refine ⟨_, rfl, ?_⟩; have n0_ := Aside0.mk (blk_below (g := gb187) (o := .cells #[.int .i64 a1_0, .string a1_1, .int .i64 a1_2, .string a1_3] 23 (0, 0)) (by (with_reducible repeat (first | refine blk_drewN ?_ _ | refine blk_drew ?_ | refine blk_alloc ?_ _)); exact BK187.out) hb); have n1_ := Aside0.mk (blk_below (g := gb188) (o := .cells #[.bool a2_0, .int .i64 a2_1, .string a2_2, .string a2_3, .bool a2_4, .int .u32 a2_5, .int .i64 a2_6] 28 (0, 0)) (by (with_reducible repeat (first | refine blk_drewN ?_ _ | refine blk_drew ?_ | refine blk_alloc ?_ _)); exact BK188.out) hb); have n2_ := Aside0.mk (blk_below (g := gb189) (o := .cells #[.int .i64 a3_0, .string a3_1, .int .i64 a3_2, .string a3_3] 23 (0, 0)) (by (with_reducible repeat (first | refine blk_drewN ?_ _ | refine blk_drew ?_ | refine blk_alloc ?_ _)); exact BK189.out) hb); have n3_ := Aside0.mk (blk_below (g := gb190) (o := .cells #[.bool a4_0, .int .i64 a4_1, .string a4_2, .string a4_3, .bool a4_4, .int .u32 a4_5, .int .i64 a4_6] 28 (0, 0)) (by (with_reducible repeat (first | refine blk_drewN ?_ _ | refine blk_drew ?_ | refine blk_alloc ?_ _)); exact BK190.out) hb); have n4_ := Aside0.mk (below_step (by repeat (first | (with_reducible first | exact HB.out | apply below_alloc | apply pw_below_drewN | apply below_drew1 | refine below_set ?_ GE187.out | refine below_set ?_ GE188.out | refine below_set ?_ GE189.out | refine below_set ?_ GE190.out) | exact HB.out)) hb); clear BK187; clear BK188; clear BK189; clear BK190; clear HB; have BK187 := n0_; have BK188 := n1_; have BK189 := n2_; have BK190 := n3_; have HB := n4_; clear n0_ n1_ n2_ n3_ n4_; (try clear hb); (try clear hb2); (try clear hk); (try clear hi); have hnb174 := NB188_187.out; have hnc174 := NB187_188.out; have hnb175 := NB188_189.out; have hnc175 := NB189_188.out; have hnb176 := NB188_190.out; have hnc176 := NB190_188.out; have hcz177_0 : w173.cell? ⟨gb188, 0, none⟩ = some (.bool a2_0) := (blk_cell BK188.out 0).trans rfl; have hcz177_1 : w173.cell? ⟨gb188, 1, none⟩ = some (.int .i64 a2_1) := (blk_cell BK188.out 1).trans rfl; have hcz177_2 : w173.cell? ⟨gb188, 2, none⟩ = some (.string a2_2) := (blk_cell BK188.out 2).trans rfl; have hcz177_3 : w173.cell? ⟨gb188, 3, none⟩ = some (.string a2_3) := (blk_cell BK188.out 3).trans rfl; have hcz177_4 : w173.cell? ⟨gb188, 4, none⟩ = some (.bool a2_4) := (blk_cell BK188.out 4).trans rfl; have hcz177_5 : w173.cell? ⟨gb188, 5, none⟩ = some (.int .u32 a2_5) := (blk_cell BK188.out 5).trans rfl; have hcz177_6 : w173.cell? ⟨gb188, 6, none⟩ = some (.int .i64 a2_6) := (blk_cell BK188.out 6).trans rfl; have hfz177_0 := blk_frozen BK188.out 0; have hfz177_1 := blk_frozen BK188.out 1; have hfz177_2 := blk_frozen BK188.out 2; have hfz177_3 := blk_frozen BK188.out 3; have hfz177_4 := blk_frozen BK188.out 4; have hfz177_5 := blk_frozen BK188.out 5; have hfz177_6 := blk_frozen BK188.out 6; have hnb178 := NB190_187.out; have hnc178 := NB187_190.out; have hnb179 := NB190_189.out; have hnc179 := NB189_190.out; have hcz180_0 : w173.cell? ⟨gb190, 0, none⟩ = some (.bool a4_0) := (blk_cell BK190.out 0).trans rfl; have hcz180_1 : w173.cell? ⟨gb190, 1, none⟩ = some (.int .i64 a4_1) := (blk_cell BK190.out 1).trans rfl; have hcz180_2 : w173.cell? ⟨gb190, 2, none⟩ = some (.string a4_2) := (blk_cell BK190.out 2).trans rfl; have hcz180_3 : w173.cell? ⟨gb190, 3, none⟩ = some (.string a4_3) := (blk_cell BK190.out 3).trans rfl; have hcz180_4 : w173.cell? ⟨gb190, 4, none⟩ = some (.bool a4_4) := (blk_cell BK190.out 4).trans rfl; have hcz180_5 : w173.cell? ⟨gb190, 5, none⟩ = some (.int .u32 a4_5) := (blk_cell BK190.out 5).trans rfl; have hcz180_6 : w173.cell? ⟨gb190, 6, none⟩ = some (.int .i64 a4_6) := (blk_cell BK190.out 6).trans rfl; have hfz180_0 := blk_frozen BK190.out 0; have hfz180_1 := blk_frozen BK190.out 1; have hfz180_2 := blk_frozen BK190.out 2; have hfz180_3 := blk_frozen BK190.out 3; have hfz180_4 := blk_frozen BK190.out 4; have hfz180_5 := blk_frozen BK190.out 5; have hfz180_6 := blk_frozen BK190.out 6) | ((with_reducible refine gate_callee (f := 9) rfl ?_); refine goesL_ (some 21) rfl rfl Tryd.func9 (by kernel_rfl) rfl #[.agg #[.bool a2_0, .int .i64 a2_1, .string a2_2, .string a2_3, .bool a2_4, .int .u32 a2_5, .int .i64 a2_6], .agg #[.bool a4_0, .int .i64 a4_1, .string a4_2, .string a4_3, .bool a4_4, .int .u32 a4_5, .int .i64 a4_6]] rfl (by (try simp only [List.map_toArray, List.map_cons, List.map_nil]); first | done | rfl | (simp only [List.length_drop, List.length_take]; rfl)) ?_; (with_reducible refine (glacislaw19_short.calls a2_0 a2_1 a2_2 a2_3 a2_4 a2_5 a2_6 a4_0 a4_1 a4_2 a4_3 a4_4 a4_5 a4_6 false _ A7.out).mono ?_); rintro e w181 ⟨rfl, hb⟩; refine ⟨_, rfl, ?_⟩; have n0_ := Aside0.mk (blk_below (g := gb187) (o := .cells #[.int .i64 a1_0, .string a1_1, .int .i64 a1_2, .string a1_3] 23 (0, 0)) (by (with_reducible repeat (first | refine blk_drewN ?_ _ | refine blk_drew ?_ | refine blk_alloc ?_ _)); exact BK187.out) hb); have n1_ := Aside0.mk (blk_below (g := gb188) (o := .cells #[.bool a2_0, .int .i64 a2_1, .string a2_2, .string a2_3, .bool a2_4, .int .u32 a2_5, .int .i64 a2_6] 28 (0, 0)) (by (with_reducible repeat (first | refine blk_drewN ?_ _ | refine blk_drew ?_ | refine blk_alloc ?_ _)); exact BK188.out) hb); have n2_ := Aside0.mk (blk_below (g := gb189) (o := .cells #[.int .i64 a3_0, .string a3_1, .int .i64 a3_2, .string a3_3] 23 (0, 0)) (by (with_reducible repeat (first | refine blk_drewN ?_ _ | refine blk_drew ?_ | refine blk_alloc ?_ _)); exact BK189.out) hb); have n3_ := Aside0.mk (blk_below (g := gb190) (o := .cells #[.bool a4_0, .int .i64 a4_1, .string a4_2, .string a4_3, .bool a4_4, .int .u32 a4_5, .int .i64 a4_6] 28 (0, 0)) (by (with_reducible repeat (first | refine blk_drewN ?_ _ | refine blk_drew ?_ | refine blk_alloc ?_ _)); exact BK190.out) hb); have n4_ := Aside0.mk (below_step (by repeat (first | (with_reducible first | exact HB.out | apply below_alloc | apply pw_below_drewN | apply below_drew1 | refine below_set ?_ GE187.out | refine below_set ?_ GE188.out | refine below_set ?_ GE189.out | refine below_set ?_ GE190.out) | exact HB.out)) hb); clear BK187; clear BK188; clear BK189; clear BK190; clear HB; have BK187 := n0_; have BK188 := n1_; have BK189 := n2_; have BK190 := n3_; have HB := n4_; clear n0_ n1_ n2_ n3_ n4_; (try clear hb); (try clear hb2); (try clear hk); (try clear hi)))
    go_ret
    exact ⟨by first | rfl | (simp [errW_none, errW_some] <;> rfl) | (simp [*, errW_none, errW_some] <;> rfl) | (simp [q_ne_nil]; done), by repeat (first | (with_reducible first | exact HB.out | apply below_alloc | apply pw_below_drewN | apply below_drew1 | refine below_set ?_ GE187.out | refine below_set ?_ GE188.out | refine below_set ?_ GE189.out | refine below_set ?_ GE190.out) | exact HB.out)⟩

end Go.Proofs.YtabjpoapnbkljaaDoor.Q
