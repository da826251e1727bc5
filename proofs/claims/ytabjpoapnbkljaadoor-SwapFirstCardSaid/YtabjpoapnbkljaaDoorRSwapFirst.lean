/- The law glacis/glacislaw19.SwapFirst, for every input: its call returns true and leaves its arguments as they were; the row, and its card. Its conditions: the row's own. -/
import Derived.Test.YtabjpoapnbkljaaDoorRc
import Derived.Test.YtabjpoapnbkljaaDoorQx10
import Derived.Test.YtabjpoapnbkljaaDoorPureSwapFirst
import Derived.Test.YtabjpoapnbkljaaDoorRowOpen
namespace Go.Proofs.YtabjpoapnbkljaaDoor.swapFirst
open Go.ChangeShapes Go.WideShapes Go.ChangeAt Go.RowKit
open Go.Proofs.YtabjpoapnbkljaaDoor.Q Go.Proofs.YtabjpoapnbkljaaDoor.ro Go.Proofs.YtabjpoapnbkljaaDoorW.PrintWords Go.Proofs.YtabjpoapnbkljaaDoorW.PrintLast
open Go.ChangeMaps (open_string shut_string)
open Go.Proofs.YtabjpoapnbkljaaDoor.rc
set_option linter.unusedVariables false

theorem walk (W : World) (a0 : Int) (a1_0 : Bool) (a1_1 : Int) (a1_2 : ByteArray) (a1_3 : ByteArray) (a1_4 : Bool) (a1_5 : Int) (a1_6 : Int) (a2 : Int) (a3_0 : Bool) (a3_1 : Int) (a3_2 : ByteArray) (a3_3 : ByteArray) (a3_4 : Bool) (a3_5 : Int) (a3_6 : Int) (h0 : (Lit.int .i64 a0).wf = true) (h1 : (Lit.int .i64 a1_1).wf = true) (h2 : a1_2.size ≤ 140737488351232) (h3 : a1_3.size ≤ 140737488351232) (h4 : (Lit.int .u32 a1_5).wf = true) (h5 : (Lit.int .i64 a1_6).wf = true) (h6 : (Lit.int .i64 a2).wf = true) (h7 : (Lit.int .i64 a3_1).wf = true) (h8 : a3_2.size ≤ 140737488351232) (h9 : a3_3.size ≤ 140737488351232) (h10 : (Lit.int .u32 a3_5).wf = true) (h11 : (Lit.int .i64 a3_6).wf = true) :
    Calls Tryd.prog 7 #[.int .i64 a0, .agg #[.bool a1_0, .int .i64 a1_1, .string a1_2, .string a1_3, .bool a1_4, .int .u32 a1_5, .int .i64 a1_6], .int .i64 a2, .agg #[.bool a3_0, .int .i64 a3_1, .string a3_2, .string a3_3, .bool a3_4, .int .u32 a3_5, .int .i64 a3_6]] W fun e w' => e = .returned (.bool true) ∧ Below W.heap.size W w' := by
  obtain ⟨k, h⟩ := YtabjpoapnbkljaaDoor.Pure.SwapFirst a0 a1_0 a1_1 a1_2 a1_3 a1_4 a1_5 a1_6 a2 a3_0 a3_1 a3_2 a3_3 a3_4 a3_5 a3_6 h0 h1 h2 h3 h4 h5 h6 h7 h8 h9 h10 h11
  refine (YtabjpoapnbkljaaDoor.Q.glacislaw19_SwapFirst.calls k a0 a1_0 a1_1 a1_2 a1_3 a1_4 a1_5 a1_6 a2 a3_0 a3_1 a3_2 a3_3 a3_4 a3_5 a3_6 true W h).mono ?_
  rintro e w' ⟨rfl, hd⟩
  first | exact ⟨rfl, hd⟩ | exact ⟨rfl, hd.below⟩

set_option maxRecDepth 100000 in
theorem contract (H : Type) (enc : TypeId × Value → H) (W : World) (base : Nat) (args : Array Value) (ds gs : List (DataW H)) (before : List MemPlace)
    (hval : ∀ (j : Nat) t v, Tryd.f7.params[j]? = some t → args[j]? = some v → Value.okWide Tryd.prog W .any base t v)
    (hW : DataW.Whole enc Tryd.prog Tryd.f7.params.toList Rows.swapFirstSpec.vars false W args.toList ds gs before)
    (hsz : (DataW.weightsEach Tryd.prog (Tryd.f7.params.toList ++ Rows.swapFirstSpec.plain.varTypes Tryd.prog) (ds ++ gs)).all (· ≤ reachBytes) = true) :
    Calls Tryd.prog 7 args W fun e W' => ∃ v, e = .returned v ∧ Rows.swapFirstSpec.post enc Tryd.prog Tryd.f7 false true false false W args v W' := by
  have hW' := hW
  obtain ⟨p, q, hA0, hV, rfl, hfz, hnd⟩ := hW
  have hA : DataW.TrodAll enc Tryd.prog W 0 (fun _ => true) true Tryd.f7.params.toList args.toList ds p := hA0
  rw [Tryd.params7] at hA hval hsz
  obtain ⟨v0, vs0, d0, ds0, p0, q0, hargs, rfl, rfl, h0, r0⟩ := trodAll_cons hA
  obtain ⟨v1, vs1, d1, ds1, p1, q1, rfl, rfl, rfl, h1, r1⟩ := trodAll_cons r0
  obtain ⟨v2, vs2, d2, ds2, p2, q2, rfl, rfl, rfl, h2, r2⟩ := trodAll_cons r1
  obtain ⟨v3, vs3, d3, ds3, p3, q3, rfl, rfl, rfl, h3, r3⟩ := trodAll_cons r2
  obtain ⟨rfl, rfl, rfl⟩ := trodAll_nil r3
  obtain rfl : args = #[v0, v1, v2, v3] := by cases args; simp_all
  obtain ⟨rfl, rfl⟩ := trodVars_none hV
  obtain ⟨a0, rfl, rfl, rfl, w0⟩ := open_int Tryd.underlying3 (hval 0 3 v0 rfl rfl) h0
  have g1 := h1
  have hz1 : ∀ n ∈ d1.weights Tryd.prog 28, n ≤ reachBytes := fun n hn => by
    have z := List.all_eq_true.1 hsz n (DataW.weights_mem_each (j := 1) (t := 28) rfl rfl n hn)
    simpa using z
  obtain ⟨a1_0, a1_1, a1_2, a1_3, a1_4, a1_5, a1_6, e1, w1_1, w1_2, w1_3, w1_5, w1_6⟩ := open_p28 (hval 1 28 v1 rfl rfl) h1 hz1
  subst e1
  have t1 : ∀ W', Below W.heap.size W W' → DataW.Trod enc Tryd.prog W' 0 (fun b => decide (b < W.heap.size)) true 28 _ d1 p1 := fun W' hb => Below.trod laidOut (by kernel_rfl) (of_decide_eq_true (by kernel_rfl)) g1 hb (fun x hx => hW'.lt x (by simp [hx]))
  obtain ⟨a2, rfl, rfl, rfl, w2⟩ := open_int Tryd.underlying3 (hval 2 3 v2 rfl rfl) h2
  have g3 := h3
  have hz3 : ∀ n ∈ d3.weights Tryd.prog 28, n ≤ reachBytes := fun n hn => by
    have z := List.all_eq_true.1 hsz n (DataW.weights_mem_each (j := 3) (t := 28) rfl rfl n hn)
    simpa using z
  obtain ⟨a3_0, a3_1, a3_2, a3_3, a3_4, a3_5, a3_6, e3, w3_1, w3_2, w3_3, w3_5, w3_6⟩ := open_p28 (hval 3 28 v3 rfl rfl) h3 hz3
  subst e3
  have t3 : ∀ W', Below W.heap.size W W' → DataW.Trod enc Tryd.prog W' 0 (fun b => decide (b < W.heap.size)) true 28 _ d3 p3 := fun W' hb => Below.trod laidOut (by kernel_rfl) (of_decide_eq_true (by kernel_rfl)) g3 hb (fun x hx => hW'.lt x (by simp [hx]))
  clear hA0
  refine (walk W a0 a1_0 a1_1 a1_2 a1_3 a1_4 a1_5 a1_6 a2 a3_0 a3_1 a3_2 a3_3 a3_4 a3_5 a3_6 w0 w1_1 w1_2 w1_3 w1_5 w1_6 w2 w3_1 w3_2 w3_3 w3_5 w3_6).mono fun e W' ⟨he, bel⟩ => ?_
  subst he
  exact ⟨_, rfl, _, _, _, [], _, [], hW', trodAll_mk1 (shut_bool Tryd.underlying4 _), (trodAll_cons_mk (shut_int Tryd.underlying3 w0) (trodAll_cons_mk (t1 _ bel) (trodAll_cons_mk (shut_int Tryd.underlying3 w2) (trodAll_cons_mk (t3 _ bel) trodAll_mk0)))), rfl, bel.frame _, fun h => by cases h⟩

theorem laid_met (os : Os) : laidMet Tryd.prog Rows.swapFirstRow.laid ((laidWorld os).forCall (fun _ _ => 0) ⟨#[], #[.int .i64 0, .agg #[.bool false, .int .i64 0, .string ByteArray.empty, .string ByteArray.empty, .bool false, .int .u32 0, .int .i64 0], .int .i64 0, .agg #[.bool false, .int .i64 0, .string ByteArray.empty, .string ByteArray.empty, .bool false, .int .u32 0, .int .i64 0]], []⟩).memory :=
  laidMet_of_run' 8 (by kernel_rfl) (by kernel_rfl)
theorem reads (os : Os) {H : Type} (enc : TypeId × Value → H) : ∃ places, DataW.whole enc Tryd.prog ((laidWorld os).forCall (fun _ _ => 0) ⟨#[], #[.int .i64 0, .agg #[.bool false, .int .i64 0, .string ByteArray.empty, .string ByteArray.empty, .bool false, .int .u32 0, .int .i64 0], .int .i64 0, .agg #[.bool false, .int .i64 0, .string ByteArray.empty, .string ByteArray.empty, .bool false, .int .u32 0, .int .i64 0]], []⟩).memory Tryd.f7.params.toList Rows.swapFirstSpec.vars false (#[.int .i64 0, .agg #[.bool false, .int .i64 0, .string ByteArray.empty, .string ByteArray.empty, .bool false, .int .u32 0, .int .i64 0], .int .i64 0, .agg #[.bool false, .int .i64 0, .string ByteArray.empty, .string ByteArray.empty, .bool false, .int .u32 0, .int .i64 0]] : Array Value).toList 8 = some ([.lit (.int .i64 0), .agg [.lit (.bool false), .lit (.int .i64 0), .lit (.string []), .agg [.lit (.string []), .lit (.bool false), .lit (.int .u32 0)], .lit (.int .i64 0)], .lit (.int .i64 0), .agg [.lit (.bool false), .lit (.int .i64 0), .lit (.string []), .agg [.lit (.string []), .lit (.bool false), .lit (.int .u32 0)], .lit (.int .i64 0)]], [], places) :=
  ⟨[], by kernel_rfl⟩

set_option maxRecDepth 100000 in
theorem lifted (os : Os) (started : os.Started) (H : Type) (enc : TypeId × Value → H) (F : Stop.Interp) :
    ReturnsInHanded {} Tryd.checked os 7 .any ((OpenSpec.ofChange Rows.swapFirstSpec).preRow enc Tryd.prog Tryd.f7 Rows.swapFirstRow.domain false Rows.swapFirstRow.laid) (((OpenSpec.ofChange Rows.swapFirstSpec).at F).post enc Tryd.prog Tryd.f7 false true false false) := by
  obtain ⟨places, hx⟩ := reads os enc
  refine returnsInHanded_of_row (C := Tryd.checked) (s := (OpenSpec.ofChange Rows.swapFirstSpec)) own started (by kernel_rfl) Tryd.func7
    (witness_row_at (enc := enc) (C := Tryd.checked) false (laidWorld os) #[.int .i64 0, .agg #[.bool false, .int .i64 0, .string ByteArray.empty, .string ByteArray.empty, .bool false, .int .u32 0, .int .i64 0], .int .i64 0, .agg #[.bool false, .int .i64 0, .string ByteArray.empty, .string ByteArray.empty, .bool false, .int .u32 0, .int .i64 0]] rfl (by kernel_rfl) (by kernel_rfl) (by kernel_rfl)
      (OpenSpec.preRow_of_cond 8 hx (by kernel_rfl) (fun k hk => by cases hk) (by kernel_rfl) (laid_met os))) ?_
  intro W base args ds gs before hval hW _ hcond hsz hL _ _
  exact contract H enc W base args ds gs before hval hW hsz

theorem said : Rows.SwapFirstSaid :=
  OpenClaim.holds_of_cond 7 Tryd.f7 rfl rfl rfl rfl rfl rfl rfl ⟨rfl, rfl, rfl, rfl, rfl⟩ rfl rfl rfl rfl rfl (by kernel_rfl) Tryd.func7 (by kernel_rfl)
    (of_decide_eq_true (by kernel_rfl)) (by unfold Func.isWrapper; first | (rw [if_pos (by decide +kernel)]; kernel_rfl) | (rw [if_neg (by decide +kernel)]; exact ⟨rfl, rfl⟩))
    (fun os started H enc _ F => by rw [OpenClaim.pre_eq_preRow]; exact lifted os started H enc F)

theorem plain (f : FuncId) (fn : Func) (hf : Tryd.pinned.checked.prog.funcNamed "glacis/glacislaw19.SwapFirst" = some f) (hfn : Tryd.pinned.checked.prog.funcs[f]? = some fn) :
    false = Tryd.pinned.checked.prog.looks [] ∧ ∀ (j : Nat) t, fn.params[j]? = some t → Tryd.pinned.checked.prog.wantsStandIn t = false := by
  obtain rfl : f = 7 := Option.some.inj ((show Tryd.prog.funcNamed "glacis/glacislaw19.SwapFirst" = some 7 by kernel_rfl).symm.trans hf) |>.symm
  obtain rfl : fn = Tryd.f7 := (Option.some.inj (Tryd.func7.symm.trans hfn)).symm
  refine ⟨by kernel_rfl, fun j t ht => ?_⟩
  rw [Tryd.params7] at ht
  have hm : t ∈ [3, 28, 3, 28] := by simpa using Array.mem_of_getElem? ht
  have hall : ([3, 28, 3, 28].all fun u => !Tryd.prog.wantsStandIn u) = true := by kernel_rfl
  exact (show Tryd.prog.wantsStandIn t = false by simpa using List.all_eq_true.1 hall t hm)

/-- THE CARD. -/
theorem card : Rows.SwapFirstCardSaid :=
  Claim7.holds_tied_plain_at .later [] _ _ _ _ said (fun _ h => by cases h) (by kernel_rfl) (fun _ h => by cases h) swapFirst_row_tie rfl ⟨rfl, rfl⟩ (by kernel_rfl) rfl plain (by kernel_rfl)
#print axioms card
end Go.Proofs.YtabjpoapnbkljaaDoor.swapFirst
