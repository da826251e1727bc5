/- Chapter 8: the calls whose answers the document fixes. -/
import Derived.Test.YtciigmlibnpeeaaDoorQx3
import Derived.Test.YtciigmlibnpeeaaDoorQx4
import Derived.Test.YtciigmlibnpeeaaDoorQx5
import Derived.Test.YtciigmlibnpeeaaDoorQx6
import Derived.Test.YtciigmlibnpeeaaDoorQx11
import Derived.Test.YtciigmlibnpeeaaDoorPl08
namespace Go.Proofs.YtciigmlibnpeeaaDoor.Pl
set_option linter.unusedVariables false
set_option linter.unusedSimpArgs false
open Go.RowKit Go.Proofs.YtciigmlibnpeeaaDoor.Q Go.Proofs.YtciigmlibnpeeaaDoor.Sf Go.Proofs.YtciigmlibnpeeaaDoorW.PrintWords Go.Proofs.YtciigmlibnpeeaaDoorW.PrintLast
def la8 : List S33 := [⟨⟨#[67, 114, 111, 115, 115, 45, 79, 114, 105, 103, 105, 110, 45, 79, 112, 101, 110, 101, 114, 45, 80, 111, 108, 105, 99, 121]⟩, ⟨#[115, 97, 109, 101, 45, 111, 114, 105, 103, 105, 110, 59, 32, 114, 101, 112, 111, 114, 116, 45, 116, 111, 61, 34, 97, 34]⟩⟩, ⟨⟨#[99, 114, 111, 115, 115, 45, 111, 114, 105, 103, 105, 110, 45, 101, 109, 98, 101, 100, 100, 101, 114, 45, 112, 111, 108, 105, 99, 121]⟩, ⟨#[114, 101, 113, 117, 105, 114, 101, 45, 99, 111, 114, 112]⟩⟩]
def lb8 : List S33 := [⟨⟨#[99, 114, 111, 115, 115, 45, 111, 114, 105, 103, 105, 110, 45, 111, 112, 101, 110, 101, 114, 45, 112, 111, 108, 105, 99, 121]⟩, ⟨#[83, 97, 109, 101, 45, 79, 114, 105, 103, 105, 110]⟩⟩]
set_option maxRecDepth 100000 in
theorem aw8a : coop_Coop.f la8 true = some (3, ⟨#[97]⟩, 0, ⟨#[]⟩) := by kernel_rfl
set_option maxRecDepth 100000 in
theorem aw8b : coop_Coep.f la8 true = some (2, ⟨#[]⟩, 0, ⟨#[]⟩) := by kernel_rfl
set_option maxRecDepth 100000 in
theorem aw8c : coop_Coop.f lb8 true = some (0, ⟨#[]⟩, 0, ⟨#[]⟩) := by kernel_rfl
theorem la8_small : Small la8 1000 5000 := by
  refine ⟨by decide, fun x hx => ?_⟩
  unfold la8 at hx
  rcases List.mem_cons.1 hx with rfl | hx
  · exact ⟨by decide, by decide⟩
  · obtain rfl := List.mem_singleton.1 hx
    exact ⟨by decide, by decide⟩
theorem la8_plain : ((la8.filter plainQ).length : Int) == 2 := by decide +kernel
theorem nil_list : (⟨#[]⟩ : ByteArray).toList = ([] : List UInt8) := by rw [Lib.toList_data]
theorem a_list : (⟨#[97]⟩ : ByteArray).toList = ([97] : List UInt8) := by rw [Lib.toList_data]
theorem awake8 : Evn (fun k => glacislaw08_awake.f k) true := by
  unfold glacislaw08_awake.f
  refine Evn.bind (a := la8) (Evn.ret rfl) ?_
  refine Evn.bind (Evn.ret aw8a) ?_
  refine Evn.bind (Evn.ret aw8b) ?_
  refine Evn.bind (Evn.ret aw8c) ?_
  refine Evn.iff_pos (by rw [nil_list, a_list]; rfl) ?_
  refine Evn.iff_pos (by rw [nil_list]; rfl) ?_
  refine Evn.iff_pos (by rw [nil_list]; rfl) ?_
  refine Evn.bind (Evn.ret (coop_off la8)) ?_
  refine Evn.iff_pos (by rw [nil_list]; rfl) ?_
  refine Evn.bind (Evn.ret (show coop_Isolates.f 1 = some true from rfl)) ?_
  refine Evn.iff_pos rfl ?_
  refine Evn.bind (plain_f la8_small) ?_
  exact Evn.ret (by rw [la8_plain])
end Go.Proofs.YtciigmlibnpeeaaDoor.Pl
