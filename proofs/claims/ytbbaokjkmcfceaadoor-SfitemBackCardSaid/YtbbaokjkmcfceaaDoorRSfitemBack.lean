/- The law glacis/glacislaw05.SfitemBack, for every input: its call returns true and leaves its arguments as they were; the row, and its card. Its conditions: the row's own. -/
import Derived.Test.YtbbaokjkmcfceaaDoorRc
import Derived.Test.YtbbaokjkmcfceaaDoorQx10
import Derived.Test.YtbbaokjkmcfceaaDoorPureSfitemBack
import Derived.Lib.LaidTab
import Derived.Stop.LaidErr
import Derived.Test.YtbbaokjkmcfceaaDoorRowGen
namespace Go.Proofs.YtbbaokjkmcfceaaDoor.sfitemBack
open Go.ChangeShapes Go.WideShapes Go.ChangeAt Go.RowKit
open Go.Proofs.YtbbaokjkmcfceaaDoor.Q Go.Proofs.YtbbaokjkmcfceaaDoor Go.Proofs.YtbbaokjkmcfceaaDoorW.PrintWords Go.Proofs.YtbbaokjkmcfceaaDoorW.PrintLast
open Go.ChangeMaps (open_string shut_string)
open Go.Proofs.YtbbaokjkmcfceaaDoor.rc
set_option linter.unusedVariables false

theorem walk (W : World) (hT : Aside0 (Q.TabW W)) (A0_3 : Option Addr) (c0_3 : Nat) (a0_0 : Int) (a0_1 : Int) (a0_2 : ByteArray) (a0_3 : List S38) (a1 : ByteArray) (C0_3 : Kd.C k38 W A0_3 a0_3.length a0_3) (lc0_3 : a0_3.length ≤ c0_3) (h0 : (Lit.int .i64 a0_0).wf = true) (h1 : (Lit.int .i64 a0_1).wf = true) (h2 : a0_2.size ≤ 140737488351232) (h3 : a0_3.length * 48 ≤ 140737488351232) (h4 : (∀ u0 : S38, u0 ∈ a0_3 → u0.f0.size ≤ 140737488351232 ∧ (Lit.int .i64 u0.f1).wf = true ∧ (Lit.int .i64 u0.f2).wf = true ∧ u0.f3.size ≤ 140737488351232)) (h5 : a1.size ≤ 140737488351232) :
    Calls Tryd.prog 4 #[.agg #[.int .i64 a0_0, .int .i64 a0_1, .string a0_2, .slice A0_3 a0_3.length c0_3], .string a1] W fun e w' => e = .returned (.bool true) ∧ Below W.heap.size W w' := by
  obtain ⟨k, h⟩ := YtbbaokjkmcfceaaDoor.Pure.SfitemBack a0_0 a0_1 a0_2 a0_3 a1 h0 h1 h2 h3 h4 h5
  refine (YtbbaokjkmcfceaaDoor.Q.glacislaw05_SfitemBack.calls k a0_0 a0_1 a0_2 A0_3 c0_3 a0_3 a1 true W hT C0_3 lc0_3 h).mono ?_
  rintro e w' ⟨rfl, hd⟩
  first | exact ⟨rfl, hd⟩ | exact ⟨rfl, hd.below⟩

set_option maxRecDepth 100000 in
theorem contract (H : Type) (enc : TypeId × Value → H) (W : World) (hT : Aside0 (Q.TabW W)) (base : Nat) (args : Array Value) (ds gs : List (DataW H)) (before : List MemPlace)
    (hval : ∀ (j : Nat) t v, Tryd.f4.params[j]? = some t → args[j]? = some v → Value.okWide Tryd.prog W .any base t v)
    (hW : DataW.Whole enc Tryd.prog Tryd.f4.params.toList Rows.sfitemBackSpec.vars false W args.toList ds gs before)
    (hsz : (DataW.weightsEach Tryd.prog (Tryd.f4.params.toList ++ Rows.sfitemBackSpec.plain.varTypes Tryd.prog) (ds ++ gs)).all (· ≤ reachBytes) = true) :
    Calls Tryd.prog 4 args W fun e W' => ∃ v, e = .returned v ∧ Rows.sfitemBackSpec.post enc Tryd.prog Tryd.f4 false true false false W args v W' := by
  have hW' := hW
  obtain ⟨p, q, hA0, hV, rfl, hfz, hnd⟩ := hW
  have hA : DataW.TrodAll enc Tryd.prog W 0 (fun _ => true) true Tryd.f4.params.toList args.toList ds p := hA0
  rw [Tryd.params4] at hA hval hsz
  obtain ⟨v0, vs0, d0, ds0, p0, q0, hargs, rfl, rfl, h0, r0⟩ := trodAll_cons hA
  obtain ⟨v1, vs1, d1, ds1, p1, q1, rfl, rfl, rfl, h1, r1⟩ := trodAll_cons r0
  obtain ⟨rfl, rfl, rfl⟩ := trodAll_nil r1
  obtain rfl : args = #[v0, v1] := by cases args; simp_all
  obtain ⟨rfl, rfl⟩ := trodVars_none hV
  have g0 := h0
  have hz0 : ∀ n ∈ d0.weights Tryd.prog 25, n ≤ reachBytes := fun n hn => by
    have z := List.all_eq_true.1 hsz n (DataW.weights_mem_each (j := 0) (t := 25) rfl rfl n hn)
    simpa using z
  obtain ⟨a0_0, a0_1, a0_2, A0_3, c0_3, a0_3, e0, w0_0, w0_1, w0_2, ⟨lc0_3, C0_3, w0_3a, w0_3b⟩⟩ := rg.open_p25 (hval 0 25 v0 rfl rfl) h0 hz0
  subst e0
  have t0 : ∀ W', Below W.heap.size W W' → DataW.Trod enc Tryd.prog W' 0 (fun b => decide (b < W.heap.size)) true 25 _ d0 p0 := fun W' hb => Below.trod laidOut (by kernel_rfl) (of_decide_eq_true (by kernel_rfl)) g0 hb (fun x hx => hW'.lt x (by simp [hx]))
  obtain ⟨a1, rfl, rfl, rfl, y1⟩ := open_string Tryd.underlying9 (hval 1 9 v1 rfl rfl) h1
  have w1 : a1.size ≤ 140737488351232 := by
    have z := sized_string hsz (j := 1) (t := 9) rfl rfl
    rw [Array.length_toList] at z
    exact z
  clear hA0
  refine (walk W hT A0_3 c0_3 a0_0 a0_1 a0_2 a0_3 a1 C0_3 lc0_3 w0_0 w0_1 w0_2 w0_3a w0_3b w1).mono fun e W' ⟨he, bel⟩ => ?_
  subst he
  exact ⟨_, rfl, _, _, _, [], _, [], hW', trodAll_mk1 (shut_bool Tryd.underlying4 _), (trodAll_cons_mk (t0 _ bel) (trodAll_cons_mk (shut_string Tryd.underlying9 y1) trodAll_mk0)), rfl, bel.frame _, fun h => by cases h⟩

theorem laid_met (os : Os) : laidMet Tryd.prog Rows.sfitemBackRow.laid ((laidWorld os).forCall (fun _ _ => 0) ⟨#[], #[.agg #[.int .i64 0, .int .i64 0, .string ByteArray.empty, .slice none 0 0], .string ByteArray.empty], []⟩).memory :=
  laidMet_of_run' 8 (by kernel_rfl) (by kernel_rfl)
theorem reads (os : Os) {H : Type} (enc : TypeId × Value → H) : ∃ places, DataW.whole enc Tryd.prog ((laidWorld os).forCall (fun _ _ => 0) ⟨#[], #[.agg #[.int .i64 0, .int .i64 0, .string ByteArray.empty, .slice none 0 0], .string ByteArray.empty], []⟩).memory Tryd.f4.params.toList Rows.sfitemBackSpec.vars false (#[.agg #[.int .i64 0, .int .i64 0, .string ByteArray.empty, .slice none 0 0], .string ByteArray.empty] : Array Value).toList 8 = some ([.agg [.lit (.int .i64 0), .lit (.int .i64 0), .lit (.string []), .nil], .lit (.string [])], [], places) :=
  ⟨[], by kernel_rfl⟩

set_option maxRecDepth 100000 in
theorem lifted (os : Os) (started : os.Started) (H : Type) (enc : TypeId × Value → H) (F : Stop.Interp) :
    ReturnsInHanded {} Tryd.checked os 4 .any ((OpenSpec.ofChange Rows.sfitemBackSpec).preRow enc Tryd.prog Tryd.f4 Rows.sfitemBackRow.domain false Rows.sfitemBackRow.laid) (((OpenSpec.ofChange Rows.sfitemBackSpec).at F).post enc Tryd.prog Tryd.f4 false true false false) := by
  obtain ⟨places, hx⟩ := reads os enc
  refine returnsInHanded_of_row (C := Tryd.checked) (s := (OpenSpec.ofChange Rows.sfitemBackSpec)) own started (by kernel_rfl) Tryd.func4
    (witness_row_at (enc := enc) (C := Tryd.checked) false (laidWorld os) #[.agg #[.int .i64 0, .int .i64 0, .string ByteArray.empty, .slice none 0 0], .string ByteArray.empty] rfl (by kernel_rfl) (by kernel_rfl) (by kernel_rfl)
      (OpenSpec.preRow_of_cond 8 hx (by kernel_rfl) (fun k hk => by cases hk) (by kernel_rfl) (laid_met os))) ?_
  intro W base args ds gs before hval hW _ hcond hsz hL _ _
  have hL1 := laidMet.tail hL
  have hL2 := laidMet.tail hL1
  have hT : Lib.TabIs Tryd.prog W "internal/strconv.uint64pow10" .u64 Lib.pow10Tab := Lib.tabIs_of_head (g := 2) (by kernel_rfl) (by kernel_rfl) Tryd.underlying103 Tryd.underlying83 (by kernel_rfl) (by kernel_rfl) hL2
  exact contract H enc W (Aside0.mk hT) base args ds gs before hval hW hsz

theorem said : Rows.SfitemBackSaid :=
  OpenClaim.holds_of_cond 4 Tryd.f4 rfl rfl rfl rfl rfl rfl rfl ⟨rfl, rfl, rfl, rfl, rfl⟩ rfl rfl rfl rfl rfl (by kernel_rfl) Tryd.func4 (by kernel_rfl)
    (of_decide_eq_true (by kernel_rfl)) (by unfold Func.isWrapper; first | (rw [if_pos (by decide +kernel)]; kernel_rfl) | (rw [if_neg (by decide +kernel)]; exact ⟨rfl, rfl⟩))
    (fun os started H enc _ F => by rw [OpenClaim.pre_eq_preRow]; exact lifted os started H enc F)

theorem plain (f : FuncId) (fn : Func) (hf : Tryd.pinned.checked.prog.funcNamed "glacis/glacislaw05.SfitemBack" = some f) (hfn : Tryd.pinned.checked.prog.funcs[f]? = some fn) :
    true = Tryd.pinned.checked.prog.looks [] ∧ ∀ (j : Nat) t, fn.params[j]? = some t → Tryd.pinned.checked.prog.wantsStandIn t = false := by
  obtain rfl : f = 4 := Option.some.inj ((show Tryd.prog.funcNamed "glacis/glacislaw05.SfitemBack" = some 4 by kernel_rfl).symm.trans hf) |>.symm
  obtain rfl : fn = Tryd.f4 := (Option.some.inj (Tryd.func4.symm.trans hfn)).symm
  refine ⟨by kernel_rfl, fun j t ht => ?_⟩
  rw [Tryd.params4] at ht
  have hm : t ∈ [25, 9] := by simpa using Array.mem_of_getElem? ht
  have hall : ([25, 9].all fun u => !Tryd.prog.wantsStandIn u) = true := by kernel_rfl
  exact (show Tryd.prog.wantsStandIn t = false by simpa using List.all_eq_true.1 hall t hm)

/-- THE CARD. -/
theorem card : Rows.SfitemBackCardSaid :=
  Claim7.holds_tied_plain_at .later [] _ _ _ _ said (fun _ h => by cases h) (by kernel_rfl) (fun _ h => by cases h) sfitemBack_row_tie rfl ⟨rfl, rfl⟩ (by kernel_rfl) rfl plain (by kernel_rfl)
#print axioms card
end Go.Proofs.YtbbaokjkmcfceaaDoor.sfitemBack
