/- Chapter 5: the calls whose answers the document fixes. -/
import Derived.Test.YtbbaokjkmcfceaaDoorQx4
namespace Go.Proofs.YtbbaokjkmcfceaaDoor.Pl
open Go.RowKit Go.Proofs.YtbbaokjkmcfceaaDoor.Q Go.Proofs.YtbbaokjkmcfceaaDoor.Sf Go.Proofs.YtbbaokjkmcfceaaDoorW.PrintWords Go.Proofs.YtbbaokjkmcfceaaDoorW.PrintLast
set_option linter.unusedVariables false
set_option linter.unusedSimpArgs false
set_option maxRecDepth 100000 in
theorem parse_a : sfitem_Parse.f (⟨#[115, 97, 109, 101, 45, 111, 114, 105, 103, 105, 110, 59, 32, 114, 101, 112, 111, 114, 116, 45, 116, 111, 61, 34, 101, 34]⟩ : ByteArray) = some (4, 0, ⟨#[115, 97, 109, 101, 45, 111, 114, 105, 103, 105, 110]⟩, [⟨⟨#[114, 101, 112, 111, 114, 116, 45, 116, 111]⟩, 3, 0, ⟨#[101]⟩⟩], 0) := by kernel_rfl
set_option maxRecDepth 100000 in
theorem parse_b : sfitem_Parse.f (⟨#[45, 49, 50, 46, 53, 48, 59, 97, 59, 98, 61, 63, 48]⟩ : ByteArray) = some (2, -12500, ⟨#[]⟩, [⟨⟨#[97]⟩, 6, 1, ⟨#[]⟩⟩, ⟨⟨#[98]⟩, 6, 0, ⟨#[]⟩⟩], 0) := by kernel_rfl
set_option maxRecDepth 100000 in
theorem parse_c : sfitem_Parse.f (⟨#[49, 32, 50]⟩ : ByteArray) = some (0, 0, ⟨#[]⟩, [], 50) := by kernel_rfl
theorem itoa_1500 : itoaBA 1500 = ⟨#[49, 53, 48, 48]⟩ := by
  have h : Lib.itoa 1500 = [49, 53, 48, 48] := by
    unfold Lib.itoa
    rw [if_neg (by decide)]
    rw [Lib.decDigits, Lib.decDigits, Lib.decDigits, Lib.decDigits]
    decide
  unfold itoaBA; rw [h]
theorem itoa_12 : itoaBA 12 = ⟨#[49, 50]⟩ := by
  have h : Lib.itoa 12 = [49, 50] := by
    unfold Lib.itoa
    rw [if_neg (by decide)]
    rw [Lib.decDigits, Lib.decDigits]
    decide
  unfold itoaBA; rw [h]
theorem itoa_1 : itoaBA 1 = ⟨#[49]⟩ := by
  have h : Lib.itoa 1 = [49] := by
    unfold Lib.itoa
    rw [if_neg (by decide), Lib.decDigits]
    decide
  unfold itoaBA; rw [h]
theorem itoa_0 : itoaBA 0 = ⟨#[48]⟩ := by
  have h : Lib.itoa 0 = [48] := by
    unfold Lib.itoa
    rw [if_neg (by decide), Lib.decDigits]
    decide
  unfold itoaBA; rw [h]
set_option maxRecDepth 100000 in
theorem dec_b : decB (-12500) = ⟨#[45, 49, 50, 46, 53]⟩ := by
  have e1 : magn (-12500) = 12500 := by decide
  have e2 : signB (-12500) = ⟨#[45]⟩ := by decide
  have e3 : 1000 + Int.tmod 12500 1000 = 1500 := by decide
  have e4 : Int.tdiv 12500 1000 = 12 := by decide
  unfold decB fracB tailZ
  rw [e1, e2, e3, e4, itoa_1500, itoa_12]
  decide +kernel
set_option maxRecDepth 100000 in
theorem text_b : sfitem_Text.f 2 (-12500) ⟨#[]⟩ [⟨⟨#[97]⟩, 6, 1, ⟨#[]⟩⟩, ⟨⟨#[98]⟩, 6, 0, ⟨#[]⟩⟩] = some (⟨#[45, 49, 50, 46, 53, 59, 97, 59, 98, 61, 63, 48]⟩, 0) := by
  have v1 : sfitem_value.f ⟨#[]⟩ 2 (-12500) ⟨#[]⟩ = some (⟨#[45, 49, 50, 46, 53]⟩, true) := by
    unfold sfitem_value.f
    rw [if_neg (by decide), if_neg (by decide), if_neg (by decide), if_pos rfl, dec_b]
    kernel_rfl
  have v2 : sfitem_value.f ⟨#[97]⟩ 6 1 ⟨#[]⟩ = some (⟨#[63, 49]⟩, true) := by
    unfold sfitem_value.f
    rw [if_neg (by decide), if_neg (by decide), if_neg (by decide), if_neg (by decide), if_pos rfl, if_pos (by decide +kernel), itoa_1]
    decide +kernel
  have v3 : sfitem_value.f ⟨#[98]⟩ 6 0 ⟨#[]⟩ = some (⟨#[63, 48]⟩, true) := by
    unfold sfitem_value.f
    rw [if_neg (by decide), if_neg (by decide), if_neg (by decide), if_neg (by decide), if_pos rfl, if_pos (by decide +kernel), itoa_0]
    decide +kernel
  have t : sfitem_Tail.f [⟨⟨#[97]⟩, 6, 1, ⟨#[]⟩⟩, ⟨⟨#[98]⟩, 6, 0, ⟨#[]⟩⟩] = some (⟨#[59, 97, 59, 98, 61, 63, 48]⟩, 0) := by
    unfold sfitem_Tail.f
    rw [if_pos (by decide), tailF]
    simp only []
    rw [v2]
    simp only [Option.bind_some]
    rw [if_neg (by decide), if_neg (by decide +kernel), tailF]
    simp only []
    rw [v3]
    simp only [Option.bind_some]
    rw [if_neg (by decide +kernel), if_neg (by decide +kernel), tailF]
    decide +kernel
  unfold sfitem_Text.f
  rw [v1]
  rw [Option.bind_some]
  rw [t]
  rw [Option.bind_some]
  first | rfl | decide +kernel | trace_state
theorem awake05 : glacislaw05_awake.f = some true := by
  unfold glacislaw05_awake.f
  rw [parse_a]
  rw [Option.bind_some]
  rw [parse_b]
  rw [Option.bind_some]
  rw [text_b]
  rw [Option.bind_some]
  rw [parse_c]
  rw [Option.bind_some]
  first | rfl | decide +kernel
end Go.Proofs.YtbbaokjkmcfceaaDoor.Pl
