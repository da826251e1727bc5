/- The law glacis/glacislaw10.CspparseTells, for every input: its call returns true and leaves its arguments as they were; the row, and its card. Its conditions: the row's own. -/
import Derived.Test.YtkjlhhhnananlaaDoorRc
import Derived.Test.YtkjlhhhnananlaaDoorQx7
import Derived.Test.YtkjlhhhnananlaaDoorPureCspparseTells
import Derived.Test.YtkjlhhhnananlaaDoorRowPol
import Derived.Test.YtkjlhhhnananlaaDoorRowHdrs
namespace Go.Proofs.YtkjlhhhnananlaaDoor.cspparseTells
open Go.ChangeShapes Go.WideShapes Go.ChangeAt Go.RowKit
open Go.Proofs.YtkjlhhhnananlaaDoor.Q Go.Proofs.YtkjlhhhnananlaaDoor.ro Go.Proofs.YtkjlhhhnananlaaDoorW.PrintWords Go.Proofs.YtkjlhhhnananlaaDoorW.PrintLast
open Go.ChangeMaps (open_string shut_string)
open Go.Proofs.YtkjlhhhnananlaaDoor.rc
set_option linter.unusedVariables false

theorem walk (W : World) (A0_1 : Option Addr) (c0_1 : Nat) (A0_3 : Option Addr) (c0_3 : Nat) (a0_0 : Bool) (a0_1 : List ByteArray) (a0_2 : Bool) (a0_3 : List ByteArray) (C0_1 : Kd.C Kd.string W A0_1 a0_1.length a0_1) (lc0_1 : a0_1.length ≤ c0_1) (C0_3 : Kd.C Kd.string W A0_3 a0_3.length a0_3) (lc0_3 : a0_3.length ≤ c0_3) (h0 : a0_1.length * 16 ≤ 140737488351232) (h1 : (∀ x ∈ a0_1, x.size ≤ 140737488351232)) (h2 : a0_3.length * 16 ≤ 140737488351232) (h3 : (∀ x ∈ a0_3, x.size ≤ 140737488351232)) :
    Calls Tryd.prog 5 #[.agg #[.bool a0_0, .slice A0_1 a0_1.length c0_1, .bool a0_2, .slice A0_3 a0_3.length c0_3]] W fun e w' => e = .returned (.bool true) ∧ Below W.heap.size W w' := by
  obtain ⟨k, h⟩ := YtkjlhhhnananlaaDoor.Pure.CspparseTells a0_0 a0_1 a0_2 a0_3 h0 h1 h2 h3
  refine (YtkjlhhhnananlaaDoor.Q.glacislaw10_CspparseTells.calls k a0_0 A0_1 c0_1 a0_1 a0_2 A0_3 c0_3 a0_3 true W C0_1 lc0_1 C0_3 lc0_3 h).mono ?_
  rintro e w' ⟨rfl, hd⟩
  first | exact ⟨rfl, hd⟩ | exact ⟨rfl, hd.below⟩

set_option maxRecDepth 100000 in
theorem contract (H : Type) (enc : TypeId × Value → H) (W : World) (base : Nat) (args : Array Value) (ds gs : List (DataW H)) (before : List MemPlace)
    (hval : ∀ (j : Nat) t v, Tryd.f5.params[j]? = some t → args[j]? = some v → Value.okWide Tryd.prog W .any base t v)
    (hW : DataW.Whole enc Tryd.prog Tryd.f5.params.toList Rows.cspparseTellsSpec.vars false W args.toList ds gs before)
    (hsz : (DataW.weightsEach Tryd.prog (Tryd.f5.params.toList ++ Rows.cspparseTellsSpec.plain.varTypes Tryd.prog) (ds ++ gs)).all (· ≤ reachBytes) = true) :
    Calls Tryd.prog 5 args W fun e W' => ∃ v, e = .returned v ∧ Rows.cspparseTellsSpec.post enc Tryd.prog Tryd.f5 false true false false W args v W' := by
  have hW' := hW
  obtain ⟨p, q, hA0, hV, rfl, hfz, hnd⟩ := hW
  have hA : DataW.TrodAll enc Tryd.prog W 0 (fun _ => true) true Tryd.f5.params.toList args.toList ds p := hA0
  rw [Tryd.params5] at hA hval hsz
  obtain ⟨v0, vs0, d0, ds0, p0, q0, hargs, rfl, rfl, h0, r0⟩ := trodAll_cons hA
  obtain ⟨rfl, rfl, rfl⟩ := trodAll_nil r0
  obtain rfl : args = #[v0] := by cases args; simp_all
  obtain ⟨rfl, rfl⟩ := trodVars_none hV
  have g0 := h0
  have hz0 : ∀ n ∈ d0.weights Tryd.prog 26, n ≤ reachBytes := fun n hn => by
    have z := List.all_eq_true.1 hsz n (DataW.weights_mem_each (j := 0) (t := 26) rfl rfl n hn)
    simpa using z
  obtain ⟨a0_0, A0_1, c0_1, a0_1, a0_2, A0_3, c0_3, a0_3, e0, ⟨lc0_1, C0_1, w0_1a, w0_1b⟩, lc0_3, C0_3, w0_3a, w0_3b⟩ := open_pol (hval 0 26 v0 rfl rfl) h0 hz0
  subst e0
  have t0 : ∀ W', Below W.heap.size W W' → DataW.Trod enc Tryd.prog W' 0 (fun b => decide (b < W.heap.size)) true 26 _ d0 p0 := fun W' hb => Below.trod laidOut (by kernel_rfl) (of_decide_eq_true (by kernel_rfl)) g0 hb (fun x hx => hW'.lt x (by simp [hx]))
  clear hA0
  refine (walk W A0_1 c0_1 A0_3 c0_3 a0_0 a0_1 a0_2 a0_3 C0_1 lc0_1 C0_3 lc0_3 w0_1a w0_1b w0_3a w0_3b).mono fun e W' ⟨he, bel⟩ => ?_
  subst he
  exact ⟨_, rfl, _, _, _, [], _, [], hW', trodAll_mk1 (shut_bool Tryd.underlying4 _), (trodAll_cons_mk (t0 _ bel) trodAll_mk0), rfl, bel.frame _, fun h => by cases h⟩

theorem laid_met (os : Os) : laidMet Tryd.prog Rows.cspparseTellsRow.laid ((laidWorld os).forCall (fun _ _ => 0) ⟨#[], #[.agg #[.bool false, .slice none 0 0, .bool false, .slice none 0 0]], []⟩).memory :=
  laidMet_of_run' 8 (by kernel_rfl) (by kernel_rfl)
theorem reads (os : Os) {H : Type} (enc : TypeId × Value → H) : ∃ places, DataW.whole enc Tryd.prog ((laidWorld os).forCall (fun _ _ => 0) ⟨#[], #[.agg #[.bool false, .slice none 0 0, .bool false, .slice none 0 0]], []⟩).memory Tryd.f5.params.toList Rows.cspparseTellsSpec.vars false (#[.agg #[.bool false, .slice none 0 0, .bool false, .slice none 0 0]] : Array Value).toList 8 = some ([.agg [.lit (.bool false), .nil, .lit (.bool false), .nil]], [], places) :=
  ⟨[], by kernel_rfl⟩

set_option maxRecDepth 100000 in
theorem lifted (os : Os) (started : os.Started) (H : Type) (enc : TypeId × Value → H) (F : Stop.Interp) :
    ReturnsInHanded {} Tryd.checked os 5 .any ((OpenSpec.ofChange Rows.cspparseTellsSpec).preRow enc Tryd.prog Tryd.f5 Rows.cspparseTellsRow.domain false Rows.cspparseTellsRow.laid) (((OpenSpec.ofChange Rows.cspparseTellsSpec).at F).post enc Tryd.prog Tryd.f5 false true false false) := by
  obtain ⟨places, hx⟩ := reads os enc
  refine returnsInHanded_of_row (C := Tryd.checked) (s := (OpenSpec.ofChange Rows.cspparseTellsSpec)) own started (by kernel_rfl) Tryd.func5
    (witness_row_at (enc := enc) (C := Tryd.checked) false (laidWorld os) #[.agg #[.bool false, .slice none 0 0, .bool false, .slice none 0 0]] rfl (by kernel_rfl) (by kernel_rfl) (by kernel_rfl)
      (OpenSpec.preRow_of_cond 8 hx (by kernel_rfl) (fun k hk => by cases hk) (by kernel_rfl) (laid_met os))) ?_
  intro W base args ds gs before hval hW _ hcond hsz hL _ _
  exact contract H enc W base args ds gs before hval hW hsz

theorem said : Rows.CspparseTellsSaid :=
  OpenClaim.holds_of_cond 5 Tryd.f5 rfl rfl rfl rfl rfl rfl rfl ⟨rfl, rfl, rfl, rfl, rfl⟩ rfl rfl rfl rfl rfl (by kernel_rfl) Tryd.func5 (by kernel_rfl)
    (of_decide_eq_true (by kernel_rfl)) (by unfold Func.isWrapper; first | (rw [if_pos (by decide +kernel)]; kernel_rfl) | (rw [if_neg (by decide +kernel)]; exact ⟨rfl, rfl⟩))
    (fun os started H enc _ F => by rw [OpenClaim.pre_eq_preRow]; exact lifted os started H enc F)

theorem plain (f : FuncId) (fn : Func) (hf : Tryd.pinned.checked.prog.funcNamed "glacis/glacislaw10.CspparseTells" = some f) (hfn : Tryd.pinned.checked.prog.funcs[f]? = some fn) :
    false = Tryd.pinned.checked.prog.looks [] ∧ ∀ (j : Nat) t, fn.params[j]? = some t → Tryd.pinned.checked.prog.wantsStandIn t = false := by
  obtain rfl : f = 5 := Option.some.inj ((show Tryd.prog.funcNamed "glacis/glacislaw10.CspparseTells" = some 5 by kernel_rfl).symm.trans hf) |>.symm
  obtain rfl : fn = Tryd.f5 := (Option.some.inj (Tryd.func5.symm.trans hfn)).symm
  refine ⟨by kernel_rfl, fun j t ht => ?_⟩
  rw [Tryd.params5] at ht
  have hm : t ∈ [26] := by simpa using Array.mem_of_getElem? ht
  have hall : ([26].all fun u => !Tryd.prog.wantsStandIn u) = true := by kernel_rfl
  exact (show Tryd.prog.wantsStandIn t = false by simpa using List.all_eq_true.1 hall t hm)

/-- THE CARD. -/
theorem card : Rows.CspparseTellsCardSaid :=
  Claim7.holds_tied_plain_at .later [] _ _ _ _ said (fun _ h => by cases h) (by kernel_rfl) (fun _ h => by cases h) cspparseTells_row_tie rfl ⟨rfl, rfl⟩ (by kernel_rfl) rfl plain (by kernel_rfl)
#print axioms card
end Go.Proofs.YtkjlhhhnananlaaDoor.cspparseTells
