/- The law glacis/glacislaw19.SwapReports, for every input: its call returns true and leaves its arguments as they were; the row, and its card. Its conditions: the row's own. -/
import Derived.Test.YtabjpoapnbkljaaDoorRc
import Derived.Test.YtabjpoapnbkljaaDoorQx11
import Derived.Test.YtabjpoapnbkljaaDoorPureSwapReports
import Derived.Test.YtabjpoapnbkljaaDoorRowOpen
namespace Go.Proofs.YtabjpoapnbkljaaDoor.swapReports
open Go.ChangeShapes Go.WideShapes Go.ChangeAt Go.RowKit
open Go.Proofs.YtabjpoapnbkljaaDoor.Q Go.Proofs.YtabjpoapnbkljaaDoor.ro Go.Proofs.YtabjpoapnbkljaaDoorW.PrintWords Go.Proofs.YtabjpoapnbkljaaDoorW.PrintLast
open Go.ChangeMaps (open_string shut_string)
open Go.Proofs.YtabjpoapnbkljaaDoor.rc
set_option linter.unusedVariables false

theorem walk (W : World) (a0 : Bool) (a1_0 : Int) (a1_1 : ByteArray) (a1_2 : Int) (a1_3 : ByteArray) (a2_0 : Bool) (a2_1 : Int) (a2_2 : ByteArray) (a2_3 : ByteArray) (a2_4 : Bool) (a2_5 : Int) (a2_6 : Int) (a3_0 : Int) (a3_1 : ByteArray) (a3_2 : Int) (a3_3 : ByteArray) (a4_0 : Bool) (a4_1 : Int) (a4_2 : ByteArray) (a4_3 : ByteArray) (a4_4 : Bool) (a4_5 : Int) (a4_6 : Int) (h0 : (Lit.int .i64 a1_0).wf = true) (h1 : a1_1.size ≤ 140737488351232) (h2 : (Lit.int .i64 a1_2).wf = true) (h3 : a1_3.size ≤ 140737488351232) (h4 : (Lit.int .i64 a2_1).wf = true) (h5 : a2_2.size ≤ 140737488351232) (h6 : a2_3.size ≤ 140737488351232) (h7 : (Lit.int .u32 a2_5).wf = true) (h8 : (Lit.int .i64 a2_6).wf = true) (h9 : (Lit.int .i64 a3_0).wf = true) (h10 : a3_1.size ≤ 140737488351232) (h11 : (Lit.int .i64 a3_2).wf = true) (h12 : a3_3.size ≤ 140737488351232) (h13 : (Lit.int .i64 a4_1).wf = true) (h14 : a4_2.size ≤ 140737488351232) (h15 : a4_3.size ≤ 140737488351232) (h16 : (Lit.int .u32 a4_5).wf = true) (h17 : (Lit.int .i64 a4_6).wf = true) :
    Calls Tryd.prog 6 #[.bool a0, .agg #[.int .i64 a1_0, .string a1_1, .int .i64 a1_2, .string a1_3], .agg #[.bool a2_0, .int .i64 a2_1, .string a2_2, .string a2_3, .bool a2_4, .int .u32 a2_5, .int .i64 a2_6], .agg #[.int .i64 a3_0, .string a3_1, .int .i64 a3_2, .string a3_3], .agg #[.bool a4_0, .int .i64 a4_1, .string a4_2, .string a4_3, .bool a4_4, .int .u32 a4_5, .int .i64 a4_6]] W fun e w' => e = .returned (.bool true) ∧ Below W.heap.size W w' := by
  obtain ⟨k, h⟩ := YtabjpoapnbkljaaDoor.Pure.SwapReports a0 a1_0 a1_1 a1_2 a1_3 a2_0 a2_1 a2_2 a2_3 a2_4 a2_5 a2_6 a3_0 a3_1 a3_2 a3_3 a4_0 a4_1 a4_2 a4_3 a4_4 a4_5 a4_6 h0 h1 h2 h3 h4 h5 h6 h7 h8 h9 h10 h11 h12 h13 h14 h15 h16 h17
  refine (YtabjpoapnbkljaaDoor.Q.glacislaw19_SwapReports.calls k a0 a1_0 a1_1 a1_2 a1_3 a2_0 a2_1 a2_2 a2_3 a2_4 a2_5 a2_6 a3_0 a3_1 a3_2 a3_3 a4_0 a4_1 a4_2 a4_3 a4_4 a4_5 a4_6 true W h).mono ?_
  rintro e w' ⟨rfl, hd⟩
  first | exact ⟨rfl, hd⟩ | exact ⟨rfl, hd.below⟩

set_option maxRecDepth 100000 in
theorem contract (H : Type) (enc : TypeId × Value → H) (W : World) (base : Nat) (args : Array Value) (ds gs : List (DataW H)) (before : List MemPlace)
    (hval : ∀ (j : Nat) t v, Tryd.f6.params[j]? = some t → args[j]? = some v → Value.okWide Tryd.prog W .any base t v)
    (hW : DataW.Whole enc Tryd.prog Tryd.f6.params.toList Rows.swapReportsSpec.vars false W args.toList ds gs before)
    (hsz : (DataW.weightsEach Tryd.prog (Tryd.f6.params.toList ++ Rows.swapReportsSpec.plain.varTypes Tryd.prog) (ds ++ gs)).all (· ≤ reachBytes) = true) :
    Calls Tryd.prog 6 args W fun e W' => ∃ v, e = .returned v ∧ Rows.swapReportsSpec.post enc Tryd.prog Tryd.f6 false true false false W args v W' := by
  have hW' := hW
  obtain ⟨p, q, hA0, hV, rfl, hfz, hnd⟩ := hW
  have hA : DataW.TrodAll enc Tryd.prog W 0 (fun _ => true) true Tryd.f6.params.toList args.toList ds p := hA0
  rw [Tryd.params6] at hA hval hsz
  obtain ⟨v0, vs0, d0, ds0, p0, q0, hargs, rfl, rfl, h0, r0⟩ := trodAll_cons hA
  obtain ⟨v1, vs1, d1, ds1, p1, q1, rfl, rfl, rfl, h1, r1⟩ := trodAll_cons r0
  obtain ⟨v2, vs2, d2, ds2, p2, q2, rfl, rfl, rfl, h2, r2⟩ := trodAll_cons r1
  obtain ⟨v3, vs3, d3, ds3, p3, q3, rfl, rfl, rfl, h3, r3⟩ := trodAll_cons r2
  obtain ⟨v4, vs4, d4, ds4, p4, q4, rfl, rfl, rfl, h4, r4⟩ := trodAll_cons r3
  obtain ⟨rfl, rfl, rfl⟩ := trodAll_nil r4
  obtain rfl : args = #[v0, v1, v2, v3, v4] := by cases args; simp_all
  obtain ⟨rfl, rfl⟩ := trodVars_none hV
  obtain ⟨a0, rfl, rfl, rfl⟩ := open_bool Tryd.underlying4 (hval 0 4 v0 rfl rfl) h0
  have g1 := h1
  have hz1 : ∀ n ∈ d1.weights Tryd.prog 23, n ≤ reachBytes := fun n hn => by
    have z := List.all_eq_true.1 hsz n (DataW.weights_mem_each (j := 1) (t := 23) rfl rfl n hn)
    simpa using z
  obtain ⟨a1_0, a1_1, a1_2, a1_3, e1, w1_0, w1_1, w1_2, w1_3⟩ := open_p23 (hval 1 23 v1 rfl rfl) h1 hz1
  subst e1
  have t1 : ∀ W', Below W.heap.size W W' → DataW.Trod enc Tryd.prog W' 0 (fun b => decide (b < W.heap.size)) true 23 _ d1 p1 := fun W' hb => Below.trod laidOut (by kernel_rfl) (of_decide_eq_true (by kernel_rfl)) g1 hb (fun x hx => hW'.lt x (by simp [hx]))
  have g2 := h2
  have hz2 : ∀ n ∈ d2.weights Tryd.prog 28, n ≤ reachBytes := fun n hn => by
    have z := List.all_eq_true.1 hsz n (DataW.weights_mem_each (j := 2) (t := 28) rfl rfl n hn)
    simpa using z
  obtain ⟨a2_0, a2_1, a2_2, a2_3, a2_4, a2_5, a2_6, e2, w2_1, w2_2, w2_3, w2_5, w2_6⟩ := open_p28 (hval 2 28 v2 rfl rfl) h2 hz2
  subst e2
  have t2 : ∀ W', Below W.heap.size W W' → DataW.Trod enc Tryd.prog W' 0 (fun b => decide (b < W.heap.size)) true 28 _ d2 p2 := fun W' hb => Below.trod laidOut (by kernel_rfl) (of_decide_eq_true (by kernel_rfl)) g2 hb (fun x hx => hW'.lt x (by simp [hx]))
  have g3 := h3
  have hz3 : ∀ n ∈ d3.weights Tryd.prog 23, n ≤ reachBytes := fun n hn => by
    have z := List.all_eq_true.1 hsz n (DataW.weights_mem_each (j := 3) (t := 23) rfl rfl n hn)
    simpa using z
  obtain ⟨a3_0, a3_1, a3_2, a3_3, e3, w3_0, w3_1, w3_2, w3_3⟩ := open_p23 (hval 3 23 v3 rfl rfl) h3 hz3
  subst e3
  have t3 : ∀ W', Below W.heap.size W W' → DataW.Trod enc Tryd.prog W' 0 (fun b => decide (b < W.heap.size)) true 23 _ d3 p3 := fun W' hb => Below.trod laidOut (by kernel_rfl) (of_decide_eq_true (by kernel_rfl)) g3 hb (fun x hx => hW'.lt x (by simp [hx]))
  have g4 := h4
  have hz4 : ∀ n ∈ d4.weights Tryd.prog 28, n ≤ reachBytes := fun n hn => by
    have z := List.all_eq_true.1 hsz n (DataW.weights_mem_each (j := 4) (t := 28) rfl rfl n hn)
    simpa using z
  obtain ⟨a4_0, a4_1, a4_2, a4_3, a4_4, a4_5, a4_6, e4, w4_1, w4_2, w4_3, w4_5, w4_6⟩ := open_p28 (hval 4 28 v4 rfl rfl) h4 hz4
  subst e4
  have t4 : ∀ W', Below W.heap.size W W' → DataW.Trod enc Tryd.prog W' 0 (fun b => decide (b < W.heap.size)) true 28 _ d4 p4 := fun W' hb => Below.trod laidOut (by kernel_rfl) (of_decide_eq_true (by kernel_rfl)) g4 hb (fun x hx => hW'.lt x (by simp [hx]))
  clear hA0
  refine (walk W a0 a1_0 a1_1 a1_2 a1_3 a2_0 a2_1 a2_2 a2_3 a2_4 a2_5 a2_6 a3_0 a3_1 a3_2 a3_3 a4_0 a4_1 a4_2 a4_3 a4_4 a4_5 a4_6 w1_0 w1_1 w1_2 w1_3 w2_1 w2_2 w2_3 w2_5 w2_6 w3_0 w3_1 w3_2 w3_3 w4_1 w4_2 w4_3 w4_5 w4_6).mono fun e W' ⟨he, bel⟩ => ?_
  subst he
  exact ⟨_, rfl, _, _, _, [], _, [], hW', trodAll_mk1 (shut_bool Tryd.underlying4 _), (trodAll_cons_mk (shut_bool Tryd.underlying4 _) (trodAll_cons_mk (t1 _ bel) (trodAll_cons_mk (t2 _ bel) (trodAll_cons_mk (t3 _ bel) (trodAll_cons_mk (t4 _ bel) trodAll_mk0))))), rfl, bel.frame _, fun h => by cases h⟩

theorem laid_met (os : Os) : laidMet Tryd.prog Rows.swapReportsRow.laid ((laidWorld os).forCall (fun _ _ => 0) ⟨#[], #[.bool false, .agg #[.int .i64 0, .string ByteArray.empty, .int .i64 0, .string ByteArray.empty], .agg #[.bool false, .int .i64 0, .string ByteArray.empty, .string ByteArray.empty, .bool false, .int .u32 0, .int .i64 0], .agg #[.int .i64 0, .string ByteArray.empty, .int .i64 0, .string ByteArray.empty], .agg #[.bool false, .int .i64 0, .string ByteArray.empty, .string ByteArray.empty, .bool false, .int .u32 0, .int .i64 0]], []⟩).memory :=
  laidMet_of_run' 8 (by kernel_rfl) (by kernel_rfl)
theorem reads (os : Os) {H : Type} (enc : TypeId × Value → H) : ∃ places, DataW.whole enc Tryd.prog ((laidWorld os).forCall (fun _ _ => 0) ⟨#[], #[.bool false, .agg #[.int .i64 0, .string ByteArray.empty, .int .i64 0, .string ByteArray.empty], .agg #[.bool false, .int .i64 0, .string ByteArray.empty, .string ByteArray.empty, .bool false, .int .u32 0, .int .i64 0], .agg #[.int .i64 0, .string ByteArray.empty, .int .i64 0, .string ByteArray.empty], .agg #[.bool false, .int .i64 0, .string ByteArray.empty, .string ByteArray.empty, .bool false, .int .u32 0, .int .i64 0]], []⟩).memory Tryd.f6.params.toList Rows.swapReportsSpec.vars false (#[.bool false, .agg #[.int .i64 0, .string ByteArray.empty, .int .i64 0, .string ByteArray.empty], .agg #[.bool false, .int .i64 0, .string ByteArray.empty, .string ByteArray.empty, .bool false, .int .u32 0, .int .i64 0], .agg #[.int .i64 0, .string ByteArray.empty, .int .i64 0, .string ByteArray.empty], .agg #[.bool false, .int .i64 0, .string ByteArray.empty, .string ByteArray.empty, .bool false, .int .u32 0, .int .i64 0]] : Array Value).toList 8 = some ([.lit (.bool false), .agg [.lit (.int .i64 0), .lit (.string []), .lit (.int .i64 0), .lit (.string [])], .agg [.lit (.bool false), .lit (.int .i64 0), .lit (.string []), .agg [.lit (.string []), .lit (.bool false), .lit (.int .u32 0)], .lit (.int .i64 0)], .agg [.lit (.int .i64 0), .lit (.string []), .lit (.int .i64 0), .lit (.string [])], .agg [.lit (.bool false), .lit (.int .i64 0), .lit (.string []), .agg [.lit (.string []), .lit (.bool false), .lit (.int .u32 0)], .lit (.int .i64 0)]], [], places) :=
  ⟨[], by kernel_rfl⟩

set_option maxRecDepth 100000 in
theorem lifted (os : Os) (started : os.Started) (H : Type) (enc : TypeId × Value → H) (F : Stop.Interp) :
    ReturnsInHanded {} Tryd.checked os 6 .any ((OpenSpec.ofChange Rows.swapReportsSpec).preRow enc Tryd.prog Tryd.f6 Rows.swapReportsRow.domain false Rows.swapReportsRow.laid) (((OpenSpec.ofChange Rows.swapReportsSpec).at F).post enc Tryd.prog Tryd.f6 false true false false) := by
  obtain ⟨places, hx⟩ := reads os enc
  refine returnsInHanded_of_row (C := Tryd.checked) (s := (OpenSpec.ofChange Rows.swapReportsSpec)) own started (by kernel_rfl) Tryd.func6
    (witness_row_at (enc := enc) (C := Tryd.checked) false (laidWorld os) #[.bool false, .agg #[.int .i64 0, .string ByteArray.empty, .int .i64 0, .string ByteArray.empty], .agg #[.bool false, .int .i64 0, .string ByteArray.empty, .string ByteArray.empty, .bool false, .int .u32 0, .int .i64 0], .agg #[.int .i64 0, .string ByteArray.empty, .int .i64 0, .string ByteArray.empty], .agg #[.bool false, .int .i64 0, .string ByteArray.empty, .string ByteArray.empty, .bool false, .int .u32 0, .int .i64 0]] rfl (by kernel_rfl) (by kernel_rfl) (by kernel_rfl)
      (OpenSpec.preRow_of_cond 8 hx (by kernel_rfl) (fun k hk => by cases hk) (by kernel_rfl) (laid_met os))) ?_
  intro W base args ds gs before hval hW _ hcond hsz hL _ _
  exact contract H enc W base args ds gs before hval hW hsz

theorem said : Rows.SwapReportsSaid :=
  OpenClaim.holds_of_cond 6 Tryd.f6 rfl rfl rfl rfl rfl rfl rfl ⟨rfl, rfl, rfl, rfl, rfl⟩ rfl rfl rfl rfl rfl (by kernel_rfl) Tryd.func6 (by kernel_rfl)
    (of_decide_eq_true (by kernel_rfl)) (by unfold Func.isWrapper; first | (rw [if_pos (by decide +kernel)]; kernel_rfl) | (rw [if_neg (by decide +kernel)]; exact ⟨rfl, rfl⟩))
    (fun os started H enc _ F => by rw [OpenClaim.pre_eq_preRow]; exact lifted os started H enc F)

theorem plain (f : FuncId) (fn : Func) (hf : Tryd.pinned.checked.prog.funcNamed "glacis/glacislaw19.SwapReports" = some f) (hfn : Tryd.pinned.checked.prog.funcs[f]? = some fn) :
    false = Tryd.pinned.checked.prog.looks [] ∧ ∀ (j : Nat) t, fn.params[j]? = some t → Tryd.pinned.checked.prog.wantsStandIn t = false := by
  obtain rfl : f = 6 := Option.some.inj ((show Tryd.prog.funcNamed "glacis/glacislaw19.SwapReports" = some 6 by kernel_rfl).symm.trans hf) |>.symm
  obtain rfl : fn = Tryd.f6 := (Option.some.inj (Tryd.func6.symm.trans hfn)).symm
  refine ⟨by kernel_rfl, fun j t ht => ?_⟩
  rw [Tryd.params6] at ht
  have hm : t ∈ [4, 23, 28, 23, 28] := by simpa using Array.mem_of_getElem? ht
  have hall : ([4, 23, 28, 23, 28].all fun u => !Tryd.prog.wantsStandIn u) = true := by kernel_rfl
  exact (show Tryd.prog.wantsStandIn t = false by simpa using List.all_eq_true.1 hall t hm)

/-- THE CARD. -/
theorem card : Rows.SwapReportsCardSaid :=
  Claim7.holds_tied_plain_at .later [] _ _ _ _ said (fun _ h => by cases h) (by kernel_rfl) (fun _ h => by cases h) swapReports_row_tie rfl ⟨rfl, rfl⟩ (by kernel_rfl) rfl plain (by kernel_rfl)
#print axioms card
end Go.Proofs.YtabjpoapnbkljaaDoor.swapReports
