/- The law CoopWords: its row and card. Its conditions: the row's own. -/
import Derived.Test.YtciigmlibnpeeaaGreatDoorZw2
namespace Go.Proofs.YtciigmlibnpeeaaGreatDoor.Q
open Go.RowKit Go.Proofs.YtciigmlibnpeeaaGreatDoorW.PrintWords Go.Proofs.YtciigmlibnpeeaaGreatDoorW.PrintLast Go.Proofs.YtciigmlibnpeeaaGreatDoorW.PrintMore
set_option linter.unusedVariables false
set_option linter.unusedSimpArgs false
mutual
def glacislaw08_CoopWords.j0 : Nat → Bool → List ByteArray → Bool → Int → ByteArray → Int → ByteArray → Int → ByteArray → Int → ByteArray → Option (Bool)
  | 0, _, _, _, _, _, _, _, _, _, _, _ => none
  | k + 1, x3, x6, x29, x337000, x337001, x337002, x337003, x345000, x345001, x345002, x345003 => if x29 = true then (none) else (if 0 < (x6.length : Int) then ((octet_Trim.f (rdOf ByteArray.empty x6 0)).bind fun t349 => (if x337000 = 3 then (glacislaw08_CoopWords.j1 k x3 t349 true x337000 x337001 x337002 x337003 x345000 x345001 x345002 x345003) else (if x337000 = 2 then (if t349.toList = ([115, 97, 109, 101, 45, 111, 114, 105, 103, 105, 110] : List UInt8) then (if x337000 = 1 then (glacislaw08_CoopWords.j1 k x3 t349 (t349.toList != ([115, 97, 109, 101, 45, 111, 114, 105, 103, 105, 110, 45, 97, 108, 108, 111, 119, 45, 112, 111, 112, 117, 112, 115] : List UInt8)) x337000 x337001 x337002 x337003 x345000 x345001 x345002 x345003) else (glacislaw08_CoopWords.j1 k x3 t349 false x337000 x337001 x337002 x337003 x345000 x345001 x345002 x345003)) else (glacislaw08_CoopWords.j1 k x3 t349 true x337000 x337001 x337002 x337003 x345000 x345001 x345002 x345003)) else (if x337000 = 1 then (glacislaw08_CoopWords.j1 k x3 t349 (t349.toList != ([115, 97, 109, 101, 45, 111, 114, 105, 103, 105, 110, 45, 97, 108, 108, 111, 119, 45, 112, 111, 112, 117, 112, 115] : List UInt8)) x337000 x337001 x337002 x337003 x345000 x345001 x345002 x345003) else (glacislaw08_CoopWords.j1 k x3 t349 false x337000 x337001 x337002 x337003 x345000 x345001 x345002 x345003))))) else (none))
def glacislaw08_CoopWords.j1 : Nat → Bool → ByteArray → Bool → Int → ByteArray → Int → ByteArray → Int → ByteArray → Int → ByteArray → Option (Bool)
  | 0, _, _, _, _, _, _, _, _, _, _, _ => none
  | k + 1, x3, x7, x54, x337000, x337001, x337002, x337003, x345000, x345001, x345002, x345003 => if x54 = true then (none) else (if x345000 = 2 then (if x7.toList = ([114, 101, 113, 117, 105, 114, 101, 45, 99, 111, 114, 112] : List UInt8) then (if x345000 = 1 then (if x7.toList = ([99, 114, 101, 100, 101, 110, 116, 105, 97, 108, 108, 101, 115, 115] : List UInt8) then (if x3 = true then (if x337002 = 0 then (if x337003.toList = ([] : List UInt8) then (if x345002 = 0 then (if x345003.toList = ([] : List UInt8) then (some (x337001.toList == x345001.toList)) else (none)) else (none)) else (none)) else (none)) else (none)) else (none)) else (if x3 = true then (if x337002 = 0 then (if x337003.toList = ([] : List UInt8) then (if x345002 = 0 then (if x345003.toList = ([] : List UInt8) then (some (x337001.toList == x345001.toList)) else (none)) else (none)) else (none)) else (none)) else (none))) else (none)) else (if x345000 = 1 then (if x7.toList = ([99, 114, 101, 100, 101, 110, 116, 105, 97, 108, 108, 101, 115, 115] : List UInt8) then (if x3 = true then (if x337002 = 0 then (if x337003.toList = ([] : List UInt8) then (if x345002 = 0 then (if x345003.toList = ([] : List UInt8) then (some (x337001.toList == x345001.toList)) else (none)) else (none)) else (none)) else (none)) else (none)) else (none)) else (if x3 = true then (if x337002 = 0 then (if x337003.toList = ([] : List UInt8) then (if x345002 = 0 then (if x345003.toList = ([] : List UInt8) then (some (x337001.toList == x345001.toList)) else (none)) else (none)) else (none)) else (none)) else (none))))
end
def glacislaw08_CoopWords.f (k : Nat) (a0 : ByteArray) : Option (Bool) := (glacislaw08_awake.f k).bind fun t328 => (if (a0.size : Int) > 4000 then (some t328) else ((coop_Coop.f (([(⟨(⟨#[99, 114, 111, 115, 115, 45, 111, 114, 105, 103, 105, 110, 45, 111, 112, 101, 110, 101, 114, 45, 112, 111, 108, 105, 99, 121]⟩ : ByteArray), a0⟩ : S35)] : List (S35))) true).bind fun bt332 => ((coop_Coep.f (([(⟨(⟨#[99, 114, 111, 115, 115, 45, 111, 114, 105, 103, 105, 110, 45, 101, 109, 98, 101, 100, 100, 101, 114, 45, 112, 111, 108, 105, 99, 121]⟩ : ByteArray), a0⟩ : S35)] : List (S35))) true).bind fun bt340 => ((octet_Split.f a0 59).bind fun t345 => (if t328 = true then (glacislaw08_CoopWords.j0 k t328 t345 ((t345.length : Int) == 0) bt332.1 bt332.2.1 bt332.2.2.1 bt332.2.2.2 bt340.1 bt340.2.1 bt340.2.2.1 bt340.2.2.2) else (glacislaw08_CoopWords.j0 k t328 t345 true bt332.1 bt332.2.1 bt332.2.2.1 bt332.2.2.2 bt340.1 bt340.2.1 bt340.2.2.1 bt340.2.2.2))))))
set_option maxHeartbeats 8000000 in
set_option maxRecDepth 100000 in
theorem glacislaw08_CoopWords.calls (k : Nat) (a0 : ByteArray) (r : Bool) (w : World) (h : glacislaw08_CoopWords.f k a0 = some r) :
    Calls Tryz.prog 4 #[.string a0] w fun e w' => e = .returned (.bool r) ∧ Below w.heap.size w w' := by
  have hu35 := Tryz.underlying35
  have hu28 := Tryz.underlying28
  have hu30 := Tryz.underlying30
  have HB := Aside0.mk (Below.refl w.heap.size w)
  have H : ((glacislaw08_awake.f k).bind fun t328 => (if (a0.size : Int) > 4000 then (some t328) else ((coop_Coop.f (([(⟨(⟨#[99, 114, 111, 115, 115, 45, 111, 114, 105, 103, 105, 110, 45, 111, 112, 101, 110, 101, 114, 45, 112, 111, 108, 105, 99, 121]⟩ : ByteArray), a0⟩ : S35)] : List (S35))) true).bind fun bt332 => ((coop_Coep.f (([(⟨(⟨#[99, 114, 111, 115, 115, 45, 111, 114, 105, 103, 105, 110, 45, 101, 109, 98, 101, 100, 100, 101, 114, 45, 112, 111, 108, 105, 99, 121]⟩ : ByteArray), a0⟩ : S35)] : List (S35))) true).bind fun bt340 => ((octet_Split.f a0 59).bind fun t345 => (if t328 = true then (glacislaw08_CoopWords.j0 k t328 t345 ((t345.length : Int) == 0) bt332.1 bt332.2.1 bt332.2.2.1 bt332.2.2.2 bt340.1 bt340.2.1 bt340.2.2.1 bt340.2.2.2) else (glacislaw08_CoopWords.j0 k t328 t345 true bt332.1 bt332.2.1 bt332.2.2.1 bt332.2.2.2 bt340.1 bt340.2.1 bt340.2.2.1 bt340.2.2.2))))))) = some r := h
  clear h
  replace H := Option.bind_eq_some_iff.mp H
  obtain ⟨t328, A20, H⟩ := H
  replace H : (if (a0.size : Int) > 4000 then (some t328) else ((coop_Coop.f (([(⟨(⟨#[99, 114, 111, 115, 115, 45, 111, 114, 105, 103, 105, 110, 45, 111, 112, 101, 110, 101, 114, 45, 112, 111, 108, 105, 99, 121]⟩ : ByteArray), a0⟩ : S35)] : List (S35))) true).bind fun bt332 => ((coop_Coep.f (([(⟨(⟨#[99, 114, 111, 115, 115, 45, 111, 114, 105, 103, 105, 110, 45, 101, 109, 98, 101, 100, 100, 101, 114, 45, 112, 111, 108, 105, 99, 121]⟩ : ByteArray), a0⟩ : S35)] : List (S35))) true).bind fun bt340 => ((octet_Split.f a0 59).bind fun t345 => (if t328 = true then (glacislaw08_CoopWords.j0 k t328 t345 ((t345.length : Int) == 0) bt332.1 bt332.2.1 bt332.2.2.1 bt332.2.2.2 bt340.1 bt340.2.1 bt340.2.2.1 bt340.2.2.2) else (glacislaw08_CoopWords.j0 k t328 t345 true bt332.1 bt332.2.1 bt332.2.2.1 bt332.2.2.2 bt340.1 bt340.2.1 bt340.2.2.1 bt340.2.2.2)))))) = some r := H
  have A2 := Aside0.mk A20
  clear A20
  by_cases c3 : (a0.size : Int) > 4000
  · rw [if_pos c3] at H
    have c3b0 : decide (4000 < (a0.size : Int)) = true := decide_eq_true c3
    have c3b1 : decide (4000 < a0.size) = true := decide_eq_true (by omega)
    clear c3
    obtain rfl := Option.some.inj H
    go_enter Tryz.func4, Tryz.ntmps4
    go_wp2_with (first | ((with_reducible refine gate_callee (f := 5) rfl ?_); refine goesL_ (some 8) rfl rfl Tryz.func5 (by kernel_rfl) rfl #[] rfl (by (try simp only [List.map_toArray, List.map_cons, List.map_nil]); first | done | rfl | (simp only [List.length_drop, List.length_take]; rfl)) ?_; (with_reducible refine (glacislaw08_awake.calls k  t328 _ A2.out).mono ?_); rintro e w4 ⟨rfl, hb⟩; refine ⟨_, rfl, ?_⟩; have n0_ := Aside0.mk (below_step (by repeat (first | (with_reducible first | exact HB.out | apply below_alloc | apply pw_below_drewN | apply below_drew1) | exact HB.out)) hb); clear HB; have HB := n0_; clear n0_; (try clear hb); (try clear hb2); (try clear hk); (try clear hi)))
    go_ret
    exact ⟨by first | rfl | (simp [errW_none, errW_some] <;> rfl) | (simp [*, errW_none, errW_some] <;> rfl) | (simp [q_ne_nil]; done), by repeat (first | (with_reducible first | exact HB.out | apply below_alloc | apply pw_below_drewN | apply below_drew1) | exact HB.out)⟩
  · rw [if_neg c3] at H
    have c3b0 : decide (4000 < (a0.size : Int)) = false := decide_eq_false c3
    have c3b1 : decide (4000 < a0.size) = false := decide_eq_false (by omega)
    clear c3
    obtain ⟨y329, hy329⟩ : ∃ y_ : List (S35), y_ = (([(⟨(⟨#[99, 114, 111, 115, 115, 45, 111, 114, 105, 103, 105, 110, 45, 111, 112, 101, 110, 101, 114, 45, 112, 111, 108, 105, 99, 121]⟩ : ByteArray), a0⟩ : S35)] : List (S35))) := ⟨_, rfl⟩
    replace H : ((coop_Coop.f y329 true).bind fun bt332 => ((coop_Coep.f (([(⟨(⟨#[99, 114, 111, 115, 115, 45, 111, 114, 105, 103, 105, 110, 45, 101, 109, 98, 101, 100, 100, 101, 114, 45, 112, 111, 108, 105, 99, 121]⟩ : ByteArray), a0⟩ : S35)] : List (S35))) true).bind fun bt340 => ((octet_Split.f a0 59).bind fun t345 => (if t328 = true then (glacislaw08_CoopWords.j0 k t328 t345 ((t345.length : Int) == 0) bt332.1 bt332.2.1 bt332.2.2.1 bt332.2.2.2 bt340.1 bt340.2.1 bt340.2.2.1 bt340.2.2.2) else (glacislaw08_CoopWords.j0 k t328 t345 true bt332.1 bt332.2.1 bt332.2.2.1 bt332.2.2.2 bt340.1 bt340.2.1 bt340.2.2.1 bt340.2.2.2))))) = some r := by first | (rw [hy329]; with_reducible exact H) | (have H2_ := (Option.bind_some _ _).symm.trans H; rw [hy329]; with_reducible exact H2_) | (have H2_ := (Option.bind_some _ _).symm.trans H; with_reducible exact H2_) | with_reducible exact H | (rw [hy329]; exact H) | exact H
    have Ny329 := Aside0.mk hy329
    clear hy329
    replace H := Option.bind_eq_some_iff.mp H
    obtain ⟨⟨t332, t333, t334, t335⟩, A50, H⟩ := H
    replace H : ((coop_Coep.f (([(⟨(⟨#[99, 114, 111, 115, 115, 45, 111, 114, 105, 103, 105, 110, 45, 101, 109, 98, 101, 100, 100, 101, 114, 45, 112, 111, 108, 105, 99, 121]⟩ : ByteArray), a0⟩ : S35)] : List (S35))) true).bind fun bt340 => ((octet_Split.f a0 59).bind fun t345 => (if t328 = true then (glacislaw08_CoopWords.j0 k t328 t345 ((t345.length : Int) == 0) t332 t333 t334 t335 bt340.1 bt340.2.1 bt340.2.2.1 bt340.2.2.2) else (glacislaw08_CoopWords.j0 k t328 t345 true t332 t333 t334 t335 bt340.1 bt340.2.1 bt340.2.2.1 bt340.2.2.2)))) = some r := H
    have A5 := Aside0.mk A50
    clear A50
    obtain ⟨y337, hy337⟩ : ∃ y_ : List (S35), y_ = (([(⟨(⟨#[99, 114, 111, 115, 115, 45, 111, 114, 105, 103, 105, 110, 45, 101, 109, 98, 101, 100, 100, 101, 114, 45, 112, 111, 108, 105, 99, 121]⟩ : ByteArray), a0⟩ : S35)] : List (S35))) := ⟨_, rfl⟩
    replace H : ((coop_Coep.f y337 true).bind fun bt340 => ((octet_Split.f a0 59).bind fun t345 => (if t328 = true then (glacislaw08_CoopWords.j0 k t328 t345 ((t345.length : Int) == 0) t332 t333 t334 t335 bt340.1 bt340.2.1 bt340.2.2.1 bt340.2.2.2) else (glacislaw08_CoopWords.j0 k t328 t345 true t332 t333 t334 t335 bt340.1 bt340.2.1 bt340.2.2.1 bt340.2.2.2)))) = some r := by first | (rw [hy337]; with_reducible exact H) | (have H2_ := (Option.bind_some _ _).symm.trans H; rw [hy337]; with_reducible exact H2_) | (have H2_ := (Option.bind_some _ _).symm.trans H; with_reducible exact H2_) | with_reducible exact H | (rw [hy337]; exact H) | exact H
    have Ny337 := Aside0.mk hy337
    clear hy337
    replace H := Option.bind_eq_some_iff.mp H
    obtain ⟨⟨t340, t341, t342, t343⟩, A60, H⟩ := H
    replace H : ((octet_Split.f a0 59).bind fun t345 => (if t328 = true then (glacislaw08_CoopWords.j0 k t328 t345 ((t345.length : Int) == 0) t332 t333 t334 t335 t340 t341 t342 t343) else (glacislaw08_CoopWords.j0 k t328 t345 true t332 t333 t334 t335 t340 t341 t342 t343))) = some r := H
    have A6 := Aside0.mk A60
    clear A60
    replace H := Option.bind_eq_some_iff.mp H
    obtain ⟨t345, A70, H⟩ := H
    replace H : (if t328 = true then (glacislaw08_CoopWords.j0 k t328 t345 ((t345.length : Int) == 0) t332 t333 t334 t335 t340 t341 t342 t343) else (glacislaw08_CoopWords.j0 k t328 t345 true t332 t333 t334 t335 t340 t341 t342 t343)) = some r := H
    have A7 := Aside0.mk A70
    clear A70
    have HC8 := Aside0.mk H
    clear H
    go_enter Tryz.func4, Tryz.ntmps4
    go_upto_region 7 with (first | ((with_reducible refine gate_callee (f := 5) rfl ?_); refine goesL_ (some 8) rfl rfl Tryz.func5 (by kernel_rfl) rfl #[] rfl (by (try simp only [List.map_toArray, List.map_cons, List.map_nil]); first | done | rfl | (simp only [List.length_drop, List.length_take]; rfl)) ?_; (with_reducible refine (glacislaw08_awake.calls k  t328 _ A2.out).mono ?_); rintro e w9 ⟨rfl, hb⟩; refine ⟨_, rfl, ?_⟩; have n0_ := Aside0.mk (below_step (by repeat (first | (with_reducible first | exact HB.out | apply below_alloc | apply pw_below_drewN | apply below_drew1) | exact HB.out)) hb); clear HB; have HB := n0_; clear n0_; (try clear hb); (try clear hb2); (try clear hk); (try clear hi)) | ((with_reducible refine gate_dst (N := 15) rfl ?_); (try (refine gate_guard (by rfl) ?_; dsimp only)); refine Kd.R_lit k35 _ 35 ?hg (N := 15) ?hd (xs := ([(⟨(⟨#[99, 114, 111, 115, 115, 45, 111, 114, 105, 103, 105, 110, 45, 111, 112, 101, 110, 101, 114, 45, 112, 111, 108, 105, 99, 121]⟩ : ByteArray), a0⟩ : S35)] : List (S35))) (inner := [.string (⟨#[99, 114, 111, 115, 115, 45, 111, 114, 105, 103, 105, 110, 45, 111, 112, 101, 110, 101, 114, 45, 112, 111, 108, 105, 99, 121]⟩ : ByteArray), .string a0]) (ok := fun _ => True) (okp := fun _ => True) ?hr ?hp (fun _ hk => hk) trivial (Below.refl _ _) (Nat.le_refl _) (by simp) ?_; (case hd => rfl); (case hg => rfl); (case hr => first | (go_simp; done) | (go_simp; rfl)); (case hp => exact (Reps.c2 (show Kd.M k35 _ _ _ (⟨(⟨#[99, 114, 111, 115, 115, 45, 111, 114, 105, 103, 105, 110, 45, 111, 112, 101, 110, 101, 114, 45, 112, 111, 108, 105, 99, 121]⟩ : ByteArray), a0⟩ : S35) [.string (⟨#[99, 114, 111, 115, 115, 45, 111, 114, 105, 103, 105, 110, 45, 111, 112, 101, 110, 101, 114, 45, 112, 111, 108, 105, 99, 121]⟩ : ByteArray), .string a0] from (k35_mkM _ _ _ (⟨(⟨#[99, 114, 111, 115, 115, 45, 111, 114, 105, 103, 105, 110, 45, 111, 112, 101, 110, 101, 114, 45, 112, 111, 108, 105, 99, 121]⟩ : ByteArray), a0⟩ : S35) )) (Reps.none _ _))); intro v330 w10 ho11 hb hg_ hnew_; clear hg_ hnew_; (first | rw [← Ny329.out] at ho11 | (simp only [Int.reduceToNat] at ho11; rw [← Ny329.out] at ho11)); have n0_ := Aside0.mk (Kd.R_lower ho11 (below_size (by repeat (first | (with_reducible first | exact HB.out | apply below_alloc | apply pw_below_drewN | apply below_drew1) | exact HB.out)))); have n1_ := Aside0.mk (below_step (by repeat (first | (with_reducible first | exact HB.out | apply below_alloc | apply pw_below_drewN | apply below_drew1) | exact HB.out)) hb); clear HB; have HO331 := n0_; have HB := n1_; clear n0_ n1_; clear hb ho11; obtain ⟨Ao12, co12, eo12⟩ := Kd.R_slice HO331.out; subst eo12) | ((with_reducible refine gate_callee (f := 10) rfl ?_); refine goesL_ (some 16) rfl rfl Tryz.func10 (by kernel_rfl) rfl #[.slice Ao12 y329.length co12, .bool true] rfl (by (try simp only [List.map_toArray, List.map_cons, List.map_nil]); first | done | rfl | (simp only [List.length_drop, List.length_take]; rfl)) ?_; (with_reducible refine (coop_Coop.calls _ _ y329 true t332 t333 t334 t335 _ ?side1 ?side2 A5.out).mono ?_); (case side1 => repeat (first | exact (Kd.R_reads' HO331.out).2.2 | (with_reducible refine Kd.C_alloc ?_ _) | (with_reducible refine Kd.C_drewN ?_ _) | (with_reducible refine Kd.C_drew ?_))); (case side2 => exact (Kd.R_reads' HO331.out).2.1); rintro e w13 ⟨rfl, hb⟩; refine ⟨_, rfl, ?_⟩; have n0_ := Aside0.mk (Kd.R_below (by (with_reducible repeat (first | apply Kd.R_alloc | apply Kd.R_drewN | apply Kd.R_drew)); exact HO331.out) hb); have n1_ := Aside0.mk (below_step (by repeat (first | (with_reducible first | exact HB.out | apply below_alloc | apply pw_below_drewN | apply below_drew1) | exact HB.out)) hb); clear HO331; clear HB; have HO331 := n0_; have HB := n1_; clear n0_ n1_; (try clear hb); (try clear hb2); (try clear hk); (try clear hi)) | ((with_reducible refine gate_dst (N := 4) rfl ?_); (try (refine gate_guard (by rfl) ?_; dsimp only)); refine box_event ?hg (N := 4) ?hd (cs := #[.int .i64 0, .string (⟨#[]⟩ : ByteArray), .int .i64 0, .string (⟨#[]⟩ : ByteArray)]) (t := 28) ?hr ?_; (case hd => rfl); (case hg => rfl); (case hr => first | (go_simp; done) | (go_simp; rfl)); intro gb336 hg w14 hbox hb; have n0_ := Aside0.mk (Kd.R_below (by (with_reducible repeat (first | apply Kd.R_alloc | apply Kd.R_drewN | apply Kd.R_drew)); exact HO331.out) hb); have n1_ := Aside0.mk (below_step (by repeat (first | (with_reducible first | exact HB.out | apply below_alloc | apply pw_below_drewN | apply below_drew1) | exact HB.out)) hb); have n2_ := Aside0.mk (hbox); have n3_ := Aside0.mk ((by rw [hg]; exact (below_size (by repeat (first | (with_reducible first | exact HB.out | apply below_alloc | apply pw_below_drewN | apply below_drew1) | exact HB.out))) : w.heap.size ≤ gb336)); have n4_ := Aside0.mk ((by rw [hg]; exact (below_size (by repeat (first | (with_reducible first | exact HB.out | apply below_alloc | apply pw_below_drewN | apply below_drew1) | exact HB.out))) : w.heap.size ≤ gb336)); clear HO331; clear HB; have HO331 := n0_; have HB := n1_; have BK336 := n2_; have GW336 := n3_; have GE336 := n4_; clear n0_ n1_ n2_ n3_ n4_; clear hb hbox hg; have hcz15_0 : w14.cell? ⟨gb336, 0, none⟩ = some (.int .i64 0) := (blk_cell BK336.out 0).trans rfl; have hcz15_1 : w14.cell? ⟨gb336, 1, none⟩ = some (.string (⟨#[]⟩ : ByteArray)) := (blk_cell BK336.out 1).trans rfl; have hcz15_2 : w14.cell? ⟨gb336, 2, none⟩ = some (.int .i64 0) := (blk_cell BK336.out 2).trans rfl; have hcz15_3 : w14.cell? ⟨gb336, 3, none⟩ = some (.string (⟨#[]⟩ : ByteArray)) := (blk_cell BK336.out 3).trans rfl; have hfz15_0 := blk_frozen BK336.out 0; have hfz15_1 := blk_frozen BK336.out 1; have hfz15_2 := blk_frozen BK336.out 2; have hfz15_3 := blk_frozen BK336.out 3) | ((with_reducible refine gate_dst (N := 19) rfl ?_); (try (refine gate_guard (by rfl) ?_; dsimp only)); refine Kd.R_lit k35 _ 35 ?hg (N := 19) ?hd (xs := ([(⟨(⟨#[99, 114, 111, 115, 115, 45, 111, 114, 105, 103, 105, 110, 45, 101, 109, 98, 101, 100, 100, 101, 114, 45, 112, 111, 108, 105, 99, 121]⟩ : ByteArray), a0⟩ : S35)] : List (S35))) (inner := [.string (⟨#[99, 114, 111, 115, 115, 45, 111, 114, 105, 103, 105, 110, 45, 101, 109, 98, 101, 100, 100, 101, 114, 45, 112, 111, 108, 105, 99, 121]⟩ : ByteArray), .string a0]) (ok := fun _ => True) (okp := fun _ => True) ?hr ?hp (fun _ hk => hk) trivial (Below.refl _ _) (Nat.le_refl _) (by simp) ?_; (case hd => rfl); (case hg => rfl); (case hr => first | (go_simp; done) | (go_simp; rfl)); (case hp => exact (Reps.c2 (show Kd.M k35 _ _ _ (⟨(⟨#[99, 114, 111, 115, 115, 45, 111, 114, 105, 103, 105, 110, 45, 101, 109, 98, 101, 100, 100, 101, 114, 45, 112, 111, 108, 105, 99, 121]⟩ : ByteArray), a0⟩ : S35) [.string (⟨#[99, 114, 111, 115, 115, 45, 111, 114, 105, 103, 105, 110, 45, 101, 109, 98, 101, 100, 100, 101, 114, 45, 112, 111, 108, 105, 99, 121]⟩ : ByteArray), .string a0] from (k35_mkM _ _ _ (⟨(⟨#[99, 114, 111, 115, 115, 45, 111, 114, 105, 103, 105, 110, 45, 101, 109, 98, 101, 100, 100, 101, 114, 45, 112, 111, 108, 105, 99, 121]⟩ : ByteArray), a0⟩ : S35) )) (Reps.none _ _))); intro v338 w16 ho17 hb hg_ hnew_; clear hg_ hnew_; (first | rw [← Ny337.out] at ho17 | (simp only [Int.reduceToNat] at ho17; rw [← Ny337.out] at ho17)); have n0_ := Aside0.mk (Kd.R_elder' (by (with_reducible repeat (first | apply Kd.R_alloc | apply Kd.R_drewN | apply Kd.R_drew)); exact (Kd.R_mono (Kd.R_far (p := ⟨gb336, 3, none⟩) (Kd.R_far (p := ⟨gb336, 2, none⟩) (Kd.R_far (p := ⟨gb336, 1, none⟩) (Kd.R_far (p := ⟨gb336, 0, none⟩) (Kd.R_types HO331.out BK336.out (by decide)) (fun _ hk => hk.2) (.int .i64 t332)) (fun _ hk => hk.2) (.string t333)) (fun _ hk => hk.2) (.int .i64 t334)) (fun _ hk => hk.2) (.string t335)) (fun _ h_ => h_.1))) (Kd.R_base ho17) hb); have n1_ := Aside0.mk (Kd.R_lower (Kd.R_new' ho17 (Kd.R_lt (by (with_reducible repeat (first | apply Kd.R_alloc | apply Kd.R_drewN | apply Kd.R_drew)); exact (Kd.R_mono (Kd.R_far (p := ⟨gb336, 3, none⟩) (Kd.R_far (p := ⟨gb336, 2, none⟩) (Kd.R_far (p := ⟨gb336, 1, none⟩) (Kd.R_far (p := ⟨gb336, 0, none⟩) (Kd.R_types HO331.out BK336.out (by decide)) (fun _ hk => hk.2) (.int .i64 t332)) (fun _ hk => hk.2) (.string t333)) (fun _ hk => hk.2) (.int .i64 t334)) (fun _ hk => hk.2) (.string t335)) (fun _ h_ => h_.1))))) (below_size (by repeat (first | (with_reducible first | exact HB.out | apply below_alloc | apply pw_below_drewN | apply below_drew1 | refine below_set ?_ GE336.out) | exact HB.out)))); have n2_ := Aside0.mk (blk_below (g := gb336) (o := .cells #[.int .i64 t332, .string t333, .int .i64 t334, .string t335] 28 (0, 0)) (by (with_reducible repeat (first | refine blk_drewN ?_ _ | refine blk_drew ?_ | refine blk_alloc ?_ _)); refine blk_put (cs := #[.int .i64 t332, .string t333, .int .i64 t334, .string (⟨#[]⟩ : ByteArray)]) ?_ 3 _ rfl; (with_reducible repeat (first | refine blk_drewN ?_ _ | refine blk_drew ?_ | refine blk_alloc ?_ _)); refine blk_put (cs := #[.int .i64 t332, .string t333, .int .i64 0, .string (⟨#[]⟩ : ByteArray)]) ?_ 2 _ rfl; (with_reducible repeat (first | refine blk_drewN ?_ _ | refine blk_drew ?_ | refine blk_alloc ?_ _)); refine blk_put (cs := #[.int .i64 t332, .string (⟨#[]⟩ : ByteArray), .int .i64 0, .string (⟨#[]⟩ : ByteArray)]) ?_ 1 _ rfl; (with_reducible repeat (first | refine blk_drewN ?_ _ | refine blk_drew ?_ | refine blk_alloc ?_ _)); refine blk_put (cs := #[.int .i64 0, .string (⟨#[]⟩ : ByteArray), .int .i64 0, .string (⟨#[]⟩ : ByteArray)]) ?_ 0 _ rfl; (with_reducible repeat (first | refine blk_drewN ?_ _ | refine blk_drew ?_ | refine blk_alloc ?_ _)); exact BK336.out) hb); have n3_ := Aside0.mk (below_step (by repeat (first | (with_reducible first | exact HB.out | apply below_alloc | apply pw_below_drewN | apply below_drew1 | refine below_set ?_ GE336.out) | exact HB.out)) hb); clear HO331; clear BK336; clear HB; have HO331 := n0_; have HO339 := n1_; have BK336 := n2_; have HB := n3_; clear n0_ n1_ n2_ n3_; clear hb ho17; obtain ⟨Ao18, co18, eo18⟩ := Kd.R_slice HO339.out; subst eo18) | ((with_reducible refine gate_callee (f := 12) rfl ?_); refine goesL_ (some 20) rfl rfl Tryz.func12 (by kernel_rfl) rfl #[.slice Ao18 y337.length co18, .bool true] rfl (by (try simp only [List.map_toArray, List.map_cons, List.map_nil]); first | done | rfl | (simp only [List.length_drop, List.length_take]; rfl)) ?_; (with_reducible refine (coop_Coep.calls _ _ y337 true t340 t341 t342 t343 _ ?side1 ?side2 A6.out).mono ?_); (case side1 => repeat (first | exact (Kd.R_reads' HO339.out).2.2 | (with_reducible refine Kd.C_alloc ?_ _) | (with_reducible refine Kd.C_drewN ?_ _) | (with_reducible refine Kd.C_drew ?_))); (case side2 => exact (Kd.R_reads' HO339.out).2.1); rintro e w19 ⟨rfl, hb⟩; refine ⟨_, rfl, ?_⟩; have n0_ := Aside0.mk (Kd.R_below (by (with_reducible repeat (first | apply Kd.R_alloc | apply Kd.R_drewN | apply Kd.R_drew)); exact HO331.out) hb); have n1_ := Aside0.mk (Kd.R_below (by (with_reducible repeat (first | apply Kd.R_alloc | apply Kd.R_drewN | apply Kd.R_drew)); exact HO339.out) hb); have n2_ := Aside0.mk (blk_below (g := gb336) (o := .cells #[.int .i64 t332, .string t333, .int .i64 t334, .string t335] 28 (0, 0)) (by (with_reducible repeat (first | refine blk_drewN ?_ _ | refine blk_drew ?_ | refine blk_alloc ?_ _)); exact BK336.out) hb); have n3_ := Aside0.mk (below_step (by repeat (first | (with_reducible first | exact HB.out | apply below_alloc | apply pw_below_drewN | apply below_drew1 | refine below_set ?_ GE336.out) | exact HB.out)) hb); clear HO331; clear HO339; clear BK336; clear HB; have HO331 := n0_; have HO339 := n1_; have BK336 := n2_; have HB := n3_; clear n0_ n1_ n2_ n3_; (try clear hb); (try clear hb2); (try clear hk); (try clear hi)) | ((with_reducible refine gate_dst (N := 5) rfl ?_); (try (refine gate_guard (by rfl) ?_; dsimp only)); refine box_event ?hg (N := 5) ?hd (cs := #[.int .i64 0, .string (⟨#[]⟩ : ByteArray), .int .i64 0, .string (⟨#[]⟩ : ByteArray)]) (t := 30) ?hr ?_; (case hd => rfl); (case hg => rfl); (case hr => first | (go_simp; done) | (go_simp; rfl)); intro gb344 hg w20 hbox hb; have n0_ := Aside0.mk (Kd.R_below (by (with_reducible repeat (first | apply Kd.R_alloc | apply Kd.R_drewN | apply Kd.R_drew)); exact HO331.out) hb); have n1_ := Aside0.mk (Kd.R_below (by (with_reducible repeat (first | apply Kd.R_alloc | apply Kd.R_drewN | apply Kd.R_drew)); exact HO339.out) hb); have n2_ := Aside0.mk (blk_below (g := gb336) (o := .cells #[.int .i64 t332, .string t333, .int .i64 t334, .string t335] 28 (0, 0)) (by (with_reducible repeat (first | refine blk_drewN ?_ _ | refine blk_drew ?_ | refine blk_alloc ?_ _)); exact BK336.out) hb); have n3_ := Aside0.mk (below_step (by repeat (first | (with_reducible first | exact HB.out | apply below_alloc | apply pw_below_drewN | apply below_drew1 | refine below_set ?_ GE336.out) | exact HB.out)) hb); have n4_ := Aside0.mk (hbox); have n5_ := Aside0.mk ((by rw [hg]; exact (below_size (by repeat (first | (with_reducible first | exact HB.out | apply below_alloc | apply pw_below_drewN | apply below_drew1 | refine below_set ?_ GE336.out) | exact HB.out))) : w.heap.size ≤ gb344)); have n6_ := Aside0.mk ((by rw [hg]; exact (below_size (by repeat (first | (with_reducible first | exact HB.out | apply below_alloc | apply pw_below_drewN | apply below_drew1 | refine below_set ?_ GE336.out) | exact HB.out))) : w.heap.size ≤ gb344)); have n7_ := Aside0.mk ((by rw [hg]; exact Nat.ne_of_lt (blk_lt (g := gb336) (o := .cells #[.int .i64 t332, .string t333, .int .i64 t334, .string t335] 28 (0, 0)) (by (with_reducible repeat (first | refine blk_drewN ?_ _ | refine blk_drew ?_ | refine blk_alloc ?_ _)); exact BK336.out)) : gb336 ≠ gb344)); have n8_ := Aside0.mk ((by rw [hg]; exact Nat.ne_of_gt (blk_lt (g := gb336) (o := .cells #[.int .i64 t332, .string t333, .int .i64 t334, .string t335] 28 (0, 0)) (by (with_reducible repeat (first | refine blk_drewN ?_ _ | refine blk_drew ?_ | refine blk_alloc ?_ _)); exact BK336.out)) : gb344 ≠ gb336)); clear HO331; clear HO339; clear BK336; clear HB; have HO331 := n0_; have HO339 := n1_; have BK336 := n2_; have HB := n3_; have BK344 := n4_; have GW344 := n5_; have GE344 := n6_; have NB336_344 := n7_; have NB344_336 := n8_; clear n0_ n1_ n2_ n3_ n4_ n5_ n6_ n7_ n8_; clear hb hbox hg; have hnb21 := NB344_336.out; have hnc21 := NB336_344.out; have hcz22_0 : w20.cell? ⟨gb344, 0, none⟩ = some (.int .i64 0) := (blk_cell BK344.out 0).trans rfl; have hcz22_1 : w20.cell? ⟨gb344, 1, none⟩ = some (.string (⟨#[]⟩ : ByteArray)) := (blk_cell BK344.out 1).trans rfl; have hcz22_2 : w20.cell? ⟨gb344, 2, none⟩ = some (.int .i64 0) := (blk_cell BK344.out 2).trans rfl; have hcz22_3 : w20.cell? ⟨gb344, 3, none⟩ = some (.string (⟨#[]⟩ : ByteArray)) := (blk_cell BK344.out 3).trans rfl; have hfz22_0 := blk_frozen BK344.out 0; have hfz22_1 := blk_frozen BK344.out 1; have hfz22_2 := blk_frozen BK344.out 2; have hfz22_3 := blk_frozen BK344.out 3) | ((with_reducible refine gate_callee (f := 16) rfl ?_); refine goesL_ (some 22) rfl rfl Tryz.func16 (by kernel_rfl) rfl #[.string a0, .int .u8 59] rfl (by (try simp only [List.map_toArray, List.map_cons, List.map_nil]); first | done | rfl | (simp only [List.length_drop, List.length_take]; rfl)) ?_; (with_reducible refine (octet_Split.calls a0 59 t345 _ A7.out).mono ?_); rintro e w23 ⟨v346, rfl, ho0, hb⟩; refine ⟨_, rfl, ?_⟩; have n0_ := Aside0.mk (Kd.R_below (by (with_reducible repeat (first | apply Kd.R_alloc | apply Kd.R_drewN | apply Kd.R_drew)); exact (Kd.R_mono (Kd.R_far (p := ⟨gb344, 3, none⟩) (Kd.R_far (p := ⟨gb344, 2, none⟩) (Kd.R_far (p := ⟨gb344, 1, none⟩) (Kd.R_far (p := ⟨gb344, 0, none⟩) (Kd.R_types HO331.out BK344.out (by decide)) (fun _ hk => hk.2) (.int .i64 t340)) (fun _ hk => hk.2) (.string t341)) (fun _ hk => hk.2) (.int .i64 t342)) (fun _ hk => hk.2) (.string t343)) (fun _ h_ => h_.1))) hb); have n1_ := Aside0.mk (Kd.R_below (by (with_reducible repeat (first | apply Kd.R_alloc | apply Kd.R_drewN | apply Kd.R_drew)); exact (Kd.R_mono (Kd.R_far (p := ⟨gb344, 3, none⟩) (Kd.R_far (p := ⟨gb344, 2, none⟩) (Kd.R_far (p := ⟨gb344, 1, none⟩) (Kd.R_far (p := ⟨gb344, 0, none⟩) (Kd.R_types HO339.out BK344.out (by decide)) (fun _ hk => hk.2) (.int .i64 t340)) (fun _ hk => hk.2) (.string t341)) (fun _ hk => hk.2) (.int .i64 t342)) (fun _ hk => hk.2) (.string t343)) (fun _ h_ => h_.1))) hb); have n2_ := Aside0.mk (Kd.R_lower ho0 (below_size (by repeat (first | (with_reducible first | exact HB.out | apply below_alloc | apply pw_below_drewN | apply below_drew1 | refine below_set ?_ GE336.out | refine below_set ?_ GE344.out) | exact HB.out)))); have n3_ := Aside0.mk (blk_below (g := gb336) (o := .cells #[.int .i64 t332, .string t333, .int .i64 t334, .string t335] 28 (0, 0)) (by (with_reducible repeat (first | refine blk_drewN ?_ _ | refine blk_drew ?_ | refine blk_alloc ?_ _)); refine blk_far ?_ NB336_344.out _; (with_reducible repeat (first | refine blk_drewN ?_ _ | refine blk_drew ?_ | refine blk_alloc ?_ _)); refine blk_far ?_ NB336_344.out _; (with_reducible repeat (first | refine blk_drewN ?_ _ | refine blk_drew ?_ | refine blk_alloc ?_ _)); refine blk_far ?_ NB336_344.out _; (with_reducible repeat (first | refine blk_drewN ?_ _ | refine blk_drew ?_ | refine blk_alloc ?_ _)); refine blk_far ?_ NB336_344.out _; (with_reducible repeat (first | refine blk_drewN ?_ _ | refine blk_drew ?_ | refine blk_alloc ?_ _)); exact BK336.out) hb); have n4_ := Aside0.mk (blk_below (g := gb344) (o := .cells #[.int .i64 t340, .string t341, .int .i64 t342, .string t343] 30 (0, 0)) (by (with_reducible repeat (first | refine blk_drewN ?_ _ | refine blk_drew ?_ | refine blk_alloc ?_ _)); refine blk_put (cs := #[.int .i64 t340, .string t341, .int .i64 t342, .string (⟨#[]⟩ : ByteArray)]) ?_ 3 _ rfl; (with_reducible repeat (first | refine blk_drewN ?_ _ | refine blk_drew ?_ | refine blk_alloc ?_ _)); refine blk_put (cs := #[.int .i64 t340, .string t341, .int .i64 0, .string (⟨#[]⟩ : ByteArray)]) ?_ 2 _ rfl; (with_reducible repeat (first | refine blk_drewN ?_ _ | refine blk_drew ?_ | refine blk_alloc ?_ _)); refine blk_put (cs := #[.int .i64 t340, .string (⟨#[]⟩ : ByteArray), .int .i64 0, .string (⟨#[]⟩ : ByteArray)]) ?_ 1 _ rfl; (with_reducible repeat (first | refine blk_drewN ?_ _ | refine blk_drew ?_ | refine blk_alloc ?_ _)); refine blk_put (cs := #[.int .i64 0, .string (⟨#[]⟩ : ByteArray), .int .i64 0, .string (⟨#[]⟩ : ByteArray)]) ?_ 0 _ rfl; (with_reducible repeat (first | refine blk_drewN ?_ _ | refine blk_drew ?_ | refine blk_alloc ?_ _)); exact BK344.out) hb); have n5_ := Aside0.mk (below_step (by repeat (first | (with_reducible first | exact HB.out | apply below_alloc | apply pw_below_drewN | apply below_drew1 | refine below_set ?_ GE336.out | refine below_set ?_ GE344.out) | exact HB.out)) hb); clear HO331; clear HO339; clear BK336; clear BK344; clear HB; have HO331 := n0_; have HO339 := n1_; have HO347 := n2_; have BK336 := n3_; have BK344 := n4_; have HB := n5_; clear n0_ n1_ n2_ n3_ n4_ n5_; (try clear hb); (try clear hb2); (try clear hk); (try clear hi); (try clear ho0)))
    (try simp only [Act.put, List.setIfInBounds_toArray, List.set_cons_zero, List.set_cons_succ])
    go_cut [29] (fun v29 wc => ∃ (kq : Nat) (x29_7 : Bool), v29 = .bool x29_7 ∧ Aside0 (glacislaw08_CoopWords.j0 kq t328 t345 x29_7 t332 t333 t334 t335 t340 t341 t342 t343 = some r) ∧ Aside0 (kq ≤ k) ∧ Aside0 (Kd.R Kd.string 9 wc w.heap.size (fun _ => True) v346 t345) ∧ Aside0 (wc.heap[gb336]? = some (.cells #[.int .i64 t332, .string t333, .int .i64 t334, .string t335] 28 (0, 0))) ∧ Aside0 (wc.heap[gb344]? = some (.cells #[.int .i64 t340, .string t341, .int .i64 t342, .string t343] 30 (0, 0))) ∧ Aside0 (Below w.heap.size w wc))
    case first =>
      have H := HC8.out
      clear HC8
      by_cases c24 : t328 = true
      · subst c24
        have H1 : (glacislaw08_CoopWords.j0 k true t345 ((t345.length : Int) == 0) t332 t333 t334 t335 t340 t341 t342 t343) = some r := by rw [if_pos rfl] at H; exact H
        clear H
        have H := H1
        clear H1
        have H' := Aside0.mk H
        clear H
        obtain ⟨Ao25, co25, eo25⟩ := Kd.R_slice HO347.out
        subst eo25
        go_wp2
        go_meet
        case rel => exact ⟨_, (((t345.length : Int) == 0)), (by first | rfl | (simp; done) | (simp [*]; done) | (simp [q_ne_nil]; done)), H', ⟨by first | omega | exact Nat.le_refl _⟩, ⟨by (with_reducible repeat (first | apply Kd.R_alloc | apply Kd.R_drewN | apply Kd.R_drew)); exact HO347.out⟩, ⟨by (with_reducible repeat (first | refine blk_drewN ?_ _ | refine blk_drew ?_ | refine blk_alloc ?_ _)); exact BK336.out⟩, ⟨by (with_reducible repeat (first | refine blk_drewN ?_ _ | refine blk_drew ?_ | refine blk_alloc ?_ _)); exact BK344.out⟩, ⟨by repeat (first | (with_reducible first | exact HB.out | apply below_alloc | apply pw_below_drewN | apply below_drew1 | refine below_set ?_ GE336.out | refine below_set ?_ GE344.out) | exact HB.out)⟩⟩
      · replace c24 := Bool.eq_false_iff.mpr c24
        subst c24
        have H1 : (glacislaw08_CoopWords.j0 k false t345 true t332 t333 t334 t335 t340 t341 t342 t343) = some r := by rw [if_neg (show ¬ (false = true) by decide)] at H; exact H
        clear H
        have H := H1
        clear H1
        have H' := Aside0.mk H
        clear H
        go_wp2
        go_meet
        case rel => exact ⟨_, (true), (by first | rfl | (simp; done) | (simp [*]; done) | (simp [q_ne_nil]; done)), H', ⟨by first | omega | exact Nat.le_refl _⟩, ⟨by (with_reducible repeat (first | apply Kd.R_alloc | apply Kd.R_drewN | apply Kd.R_drew)); exact HO347.out⟩, ⟨by (with_reducible repeat (first | refine blk_drewN ?_ _ | refine blk_drew ?_ | refine blk_alloc ?_ _)); exact BK336.out⟩, ⟨by (with_reducible repeat (first | refine blk_drewN ?_ _ | refine blk_drew ?_ | refine blk_alloc ?_ _)); exact BK344.out⟩, ⟨by repeat (first | (with_reducible first | exact HB.out | apply below_alloc | apply pw_below_drewN | apply below_drew1 | refine below_set ?_ GE336.out | refine below_set ?_ GE344.out) | exact HB.out)⟩⟩
    case rest =>
      clear HC8
      try clear c1
      try clear c2
      try clear p2
      try clear c3
      try clear c3b0
      try clear c3b1
      try clear c4
      try clear c5
      try clear c10
      try clear c12
      try clear c16
      try clear c21
      try clear c24
      try clear hcz15_0
      try clear hcz15_1
      try clear hcz15_2
      try clear hcz15_3
      try clear hcz22_0
      try clear hcz22_1
      try clear hcz22_2
      try clear hcz22_3
      try clear hfz15_0
      try clear hfz15_1
      try clear hfz15_2
      try clear hfz15_3
      try clear hfz22_0
      try clear hfz22_1
      try clear hfz22_2
      try clear hfz22_3
      obtain ⟨kq, x29_7, rfl, HA, HJ7, HO_6, BK336, BK344, HB⟩ := hcut
      cases kq with
      | zero => exact absurd HA.out (by simp [glacislaw08_CoopWords.j0])
      | succ kj7 =>
        have H := HA.out
        clear HA
        simp only [glacislaw08_CoopWords.j0] at H
        by_cases c26 : x29_7 = true
        · subst c26
          have H1 : (none) = some r := by rw [if_pos rfl] at H; exact H
          exact absurd H1 (by simp)
        · replace c26 := Bool.eq_false_iff.mpr c26
          subst c26
          have H1 : (if 0 < (t345.length : Int) then ((octet_Trim.f (rdOf ByteArray.empty t345 0)).bind fun t349 => (if t332 = 3 then (glacislaw08_CoopWords.j1 kj7 t328 t349 true t332 t333 t334 t335 t340 t341 t342 t343) else (if t332 = 2 then (if t349.toList = ([115, 97, 109, 101, 45, 111, 114, 105, 103, 105, 110] : List UInt8) then (if t332 = 1 then (glacislaw08_CoopWords.j1 kj7 t328 t349 (t349.toList != ([115, 97, 109, 101, 45, 111, 114, 105, 103, 105, 110, 45, 97, 108, 108, 111, 119, 45, 112, 111, 112, 117, 112, 115] : List UInt8)) t332 t333 t334 t335 t340 t341 t342 t343) else (glacislaw08_CoopWords.j1 kj7 t328 t349 false t332 t333 t334 t335 t340 t341 t342 t343)) else (glacislaw08_CoopWords.j1 kj7 t328 t349 true t332 t333 t334 t335 t340 t341 t342 t343)) else (if t332 = 1 then (glacislaw08_CoopWords.j1 kj7 t328 t349 (t349.toList != ([115, 97, 109, 101, 45, 111, 114, 105, 103, 105, 110, 45, 97, 108, 108, 111, 119, 45, 112, 111, 112, 117, 112, 115] : List UInt8)) t332 t333 t334 t335 t340 t341 t342 t343) else (glacislaw08_CoopWords.j1 kj7 t328 t349 false t332 t333 t334 t335 t340 t341 t342 t343))))) else (none)) = some r := by rw [if_neg (show ¬ (false = true) by decide)] at H; exact H
          clear H
          have H := H1
          clear H1
          by_cases c27 : 0 < (t345.length : Int)
          · rw [if_pos c27] at H
            have c27b0 : decide (0 < (t345.length : Int)) = true := decide_eq_true c27
            have c27b1 : decide (0 < t345.length) = true := decide_eq_true (by omega)
            clear c27
            replace H := Option.bind_eq_some_iff.mp H
            obtain ⟨t349, A280, H⟩ := H
            replace H : (if t332 = 3 then (glacislaw08_CoopWords.j1 kj7 t328 t349 true t332 t333 t334 t335 t340 t341 t342 t343) else (if t332 = 2 then (if t349.toList = ([115, 97, 109, 101, 45, 111, 114, 105, 103, 105, 110] : List UInt8) then (if t332 = 1 then (glacislaw08_CoopWords.j1 kj7 t328 t349 (t349.toList != ([115, 97, 109, 101, 45, 111, 114, 105, 103, 105, 110, 45, 97, 108, 108, 111, 119, 45, 112, 111, 112, 117, 112, 115] : List UInt8)) t332 t333 t334 t335 t340 t341 t342 t343) else (glacislaw08_CoopWords.j1 kj7 t328 t349 false t332 t333 t334 t335 t340 t341 t342 t343)) else (glacislaw08_CoopWords.j1 kj7 t328 t349 true t332 t333 t334 t335 t340 t341 t342 t343)) else (if t332 = 1 then (glacislaw08_CoopWords.j1 kj7 t328 t349 (t349.toList != ([115, 97, 109, 101, 45, 111, 114, 105, 103, 105, 110, 45, 97, 108, 108, 111, 119, 45, 112, 111, 112, 117, 112, 115] : List UInt8)) t332 t333 t334 t335 t340 t341 t342 t343) else (glacislaw08_CoopWords.j1 kj7 t328 t349 false t332 t333 t334 t335 t340 t341 t342 t343)))) = some r := H
            have A28 := Aside0.mk A280
            clear A280
            have HC29 := Aside0.mk H
            clear H
            obtain ⟨Ao30, co30, eo30⟩ := Kd.R_slice HO_6.out
            subst eo30
            have p348 : 0 ≤ (0 : Int) := (by omega)
            have q348 : 0 < (t345.length : Int) := of_decide_eq_true (by first | (with_reducible assumption) | assumption)
            obtain ⟨ad348, e348, hx348_0⟩ := Kd.at_string (Kd.R_reads' HO_6.out).2.2 0 p348 q348
            cases e348
            have qi348 : (0 < t345.length) = True := eq_true (by omega)
            (try rw [show ((0 : Int)).toNat = 0 from rfl] at hx348_0)
            (try rw [Addr.add_zero'] at hx348_0)
            replace p348 := eq_true p348
            replace q348 := eq_true q348
            go_upto_region 10 with (first | ((with_reducible refine gate_callee (f := 17) rfl ?_); refine goesL_ (some 33) rfl rfl Tryz.func17 (by kernel_rfl) rfl #[.string (rdOf ByteArray.empty t345 0)] rfl (by (try simp only [List.map_toArray, List.map_cons, List.map_nil]); first | done | rfl | (simp only [List.length_drop, List.length_take]; rfl)) ?_; (with_reducible refine (octet_Trim.calls (rdOf ByteArray.empty t345 0) t349 _ A28.out).mono ?_); rintro e w31 ⟨rfl, hb⟩; refine ⟨_, rfl, ?_⟩; have n0_ := Aside0.mk (Kd.R_below (by (with_reducible repeat (first | apply Kd.R_alloc | apply Kd.R_drewN | apply Kd.R_drew)); exact HO_6.out) hb); have n1_ := Aside0.mk (blk_below (g := gb336) (o := .cells #[.int .i64 t332, .string t333, .int .i64 t334, .string t335] 28 (0, 0)) (by (with_reducible repeat (first | refine blk_drewN ?_ _ | refine blk_drew ?_ | refine blk_alloc ?_ _)); exact BK336.out) hb); have n2_ := Aside0.mk (blk_below (g := gb344) (o := .cells #[.int .i64 t340, .string t341, .int .i64 t342, .string t343] 30 (0, 0)) (by (with_reducible repeat (first | refine blk_drewN ?_ _ | refine blk_drew ?_ | refine blk_alloc ?_ _)); exact BK344.out) hb); have n3_ := Aside0.mk (below_step (by repeat (first | (with_reducible first | exact HB.out | apply below_alloc | apply pw_below_drewN | apply below_drew1 | refine below_set ?_ GE336.out | refine below_set ?_ GE344.out) | exact HB.out)) hb); clear HO_6; clear BK336; clear BK344; clear HB; have HO_6 := n0_; have BK336 := n1_; have BK344 := n2_; have HB := n3_; clear n0_ n1_ n2_ n3_; (try clear hb); (try clear hb2); (try clear hk); (try clear hi)))
            (try simp only [Act.put, List.setIfInBounds_toArray, List.set_cons_zero, List.set_cons_succ])
            go_cut [54] (fun v54 wc => ∃ (kq : Nat) (x54_28 : Bool), v54 = .bool x54_28 ∧ Aside0 (glacislaw08_CoopWords.j1 kq t328 t349 x54_28 t332 t333 t334 t335 t340 t341 t342 t343 = some r) ∧ Aside0 (kq ≤ kj7) ∧ Aside0 (wc.heap[gb336]? = some (.cells #[.int .i64 t332, .string t333, .int .i64 t334, .string t335] 28 (0, 0))) ∧ Aside0 (wc.heap[gb344]? = some (.cells #[.int .i64 t340, .string t341, .int .i64 t342, .string t343] 30 (0, 0))) ∧ Aside0 (Below w.heap.size w wc))
            case first =>
              have H := HC29.out
              clear HC29
              by_cases c32 : t332 = 3
              · rw [if_pos c32] at H
                have c32b0 : (t332 == 3) = true := beq_iff_eq.mpr c32
                have c32b1 : (t332 != 3) = false := bne_eq_false_iff_eq.mpr c32
                clear c32
                (first | rw [c32b0] | (simp only [i64_w, i32_w]; rw [c32b0]) | skip)
                have H' := Aside0.mk H
                clear H
                have hnb33 := NB336_344.out
                have hnc33 := NB344_336.out
                have hcz34_0 : w31.cell? ⟨gb336, 0, none⟩ = some (.int .i64 t332) := (blk_cell BK336.out 0).trans rfl
                have hcz34_1 : w31.cell? ⟨gb336, 1, none⟩ = some (.string t333) := (blk_cell BK336.out 1).trans rfl
                have hcz34_2 : w31.cell? ⟨gb336, 2, none⟩ = some (.int .i64 t334) := (blk_cell BK336.out 2).trans rfl
                have hcz34_3 : w31.cell? ⟨gb336, 3, none⟩ = some (.string t335) := (blk_cell BK336.out 3).trans rfl
                have hfz34_0 := blk_frozen BK336.out 0
                have hfz34_1 := blk_frozen BK336.out 1
                have hfz34_2 := blk_frozen BK336.out 2
                have hfz34_3 := blk_frozen BK336.out 3
                go_wp2
                go_meet
                case rel => exact ⟨_, (true), (by first | rfl | (simp; done) | (simp [*]; done) | (simp [q_ne_nil]; done)), H', ⟨by have := HJ7.out; first | omega | exact Nat.le_refl _⟩, ⟨by (with_reducible repeat (first | refine blk_drewN ?_ _ | refine blk_drew ?_ | refine blk_alloc ?_ _)); exact BK336.out⟩, ⟨by (with_reducible repeat (first | refine blk_drewN ?_ _ | refine blk_drew ?_ | refine blk_alloc ?_ _)); exact BK344.out⟩, ⟨by repeat (first | (with_reducible first | exact HB.out | apply below_alloc | apply pw_below_drewN | apply below_drew1 | refine below_set ?_ GE336.out | refine below_set ?_ GE344.out) | exact HB.out)⟩⟩
              · rw [if_neg c32] at H
                have c32b0 : (t332 == 3) = false := beq_eq_false_iff_ne.mpr c32
                have c32b1 : (t332 != 3) = true := bne_iff_ne.mpr c32
                (first | rw [c32b0] | (simp only [i64_w, i32_w]; rw [c32b0]) | skip)
                by_cases c35 : t332 = 2
                · rw [if_pos c35] at H
                  have c35b0 : (t332 == 2) = true := beq_iff_eq.mpr c35
                  have c35b1 : (t332 != 2) = false := bne_eq_false_iff_eq.mpr c35
                  clear c35
                  by_cases c36 : t349.toList = ([115, 97, 109, 101, 45, 111, 114, 105, 103, 105, 110] : List UInt8)
                  · rw [if_pos c36] at H
                    have c36b0 : (t349.toList == ([115, 97, 109, 101, 45, 111, 114, 105, 103, 105, 110] : List UInt8)) = true := beq_iff_eq.mpr c36
                    have c36b1 : (t349.toList != ([115, 97, 109, 101, 45, 111, 114, 105, 103, 105, 110] : List UInt8)) = false := bne_eq_false_iff_eq.mpr c36
                    clear c36
                    by_cases c37 : t332 = 1
                    · rw [if_pos c37] at H
                      have c37b0 : (t332 == 1) = true := beq_iff_eq.mpr c37
                      have c37b1 : (t332 != 1) = false := bne_eq_false_iff_eq.mpr c37
                      clear c37
                      have H' := Aside0.mk H
                      clear H
                      have hnb38 := NB336_344.out
                      have hnc38 := NB344_336.out
                      have hcz39_0 : w31.cell? ⟨gb336, 0, none⟩ = some (.int .i64 t332) := (blk_cell BK336.out 0).trans rfl
                      have hcz39_1 : w31.cell? ⟨gb336, 1, none⟩ = some (.string t333) := (blk_cell BK336.out 1).trans rfl
                      have hcz39_2 : w31.cell? ⟨gb336, 2, none⟩ = some (.int .i64 t334) := (blk_cell BK336.out 2).trans rfl
                      have hcz39_3 : w31.cell? ⟨gb336, 3, none⟩ = some (.string t335) := (blk_cell BK336.out 3).trans rfl
                      have hfz39_0 := blk_frozen BK336.out 0
                      have hfz39_1 := blk_frozen BK336.out 1
                      have hfz39_2 := blk_frozen BK336.out 2
                      have hfz39_3 := blk_frozen BK336.out 3
                      go_wp2
                      go_meet
                      case rel => exact ⟨_, ((t349.toList != ([115, 97, 109, 101, 45, 111, 114, 105, 103, 105, 110, 45, 97, 108, 108, 111, 119, 45, 112, 111, 112, 117, 112, 115] : List UInt8))), (by first | rfl | (simp; done) | (simp [*]; done) | (simp [q_ne_nil]; done)), H', ⟨by have := HJ7.out; first | omega | exact Nat.le_refl _⟩, ⟨by (with_reducible repeat (first | refine blk_drewN ?_ _ | refine blk_drew ?_ | refine blk_alloc ?_ _)); exact BK336.out⟩, ⟨by (with_reducible repeat (first | refine blk_drewN ?_ _ | refine blk_drew ?_ | refine blk_alloc ?_ _)); exact BK344.out⟩, ⟨by repeat (first | (with_reducible first | exact HB.out | apply below_alloc | apply pw_below_drewN | apply below_drew1 | refine below_set ?_ GE336.out | refine below_set ?_ GE344.out) | exact HB.out)⟩⟩
                    · rw [if_neg c37] at H
                      have c37b0 : (t332 == 1) = false := beq_eq_false_iff_ne.mpr c37
                      have c37b1 : (t332 != 1) = true := bne_iff_ne.mpr c37
                      have H' := Aside0.mk H
                      clear H
                      have hnb40 := NB336_344.out
                      have hnc40 := NB344_336.out
                      have hcz41_0 : w31.cell? ⟨gb336, 0, none⟩ = some (.int .i64 t332) := (blk_cell BK336.out 0).trans rfl
                      have hcz41_1 : w31.cell? ⟨gb336, 1, none⟩ = some (.string t333) := (blk_cell BK336.out 1).trans rfl
                      have hcz41_2 : w31.cell? ⟨gb336, 2, none⟩ = some (.int .i64 t334) := (blk_cell BK336.out 2).trans rfl
                      have hcz41_3 : w31.cell? ⟨gb336, 3, none⟩ = some (.string t335) := (blk_cell BK336.out 3).trans rfl
                      have hfz41_0 := blk_frozen BK336.out 0
                      have hfz41_1 := blk_frozen BK336.out 1
                      have hfz41_2 := blk_frozen BK336.out 2
                      have hfz41_3 := blk_frozen BK336.out 3
                      go_wp2
                      go_meet
                      case rel => exact ⟨_, (false), (by first | rfl | (simp; done) | (simp [*]; done) | (simp [q_ne_nil]; done)), H', ⟨by have := HJ7.out; first | omega | exact Nat.le_refl _⟩, ⟨by (with_reducible repeat (first | refine blk_drewN ?_ _ | refine blk_drew ?_ | refine blk_alloc ?_ _)); exact BK336.out⟩, ⟨by (with_reducible repeat (first | refine blk_drewN ?_ _ | refine blk_drew ?_ | refine blk_alloc ?_ _)); exact BK344.out⟩, ⟨by repeat (first | (with_reducible first | exact HB.out | apply below_alloc | apply pw_below_drewN | apply below_drew1 | refine below_set ?_ GE336.out | refine below_set ?_ GE344.out) | exact HB.out)⟩⟩
                  · rw [if_neg c36] at H
                    have c36b0 : (t349.toList == ([115, 97, 109, 101, 45, 111, 114, 105, 103, 105, 110] : List UInt8)) = false := beq_eq_false_iff_ne.mpr c36
                    have c36b1 : (t349.toList != ([115, 97, 109, 101, 45, 111, 114, 105, 103, 105, 110] : List UInt8)) = true := bne_iff_ne.mpr c36
                    have H' := Aside0.mk H
                    clear H
                    have hnb42 := NB336_344.out
                    have hnc42 := NB344_336.out
                    have hcz43_0 : w31.cell? ⟨gb336, 0, none⟩ = some (.int .i64 t332) := (blk_cell BK336.out 0).trans rfl
                    have hcz43_1 : w31.cell? ⟨gb336, 1, none⟩ = some (.string t333) := (blk_cell BK336.out 1).trans rfl
                    have hcz43_2 : w31.cell? ⟨gb336, 2, none⟩ = some (.int .i64 t334) := (blk_cell BK336.out 2).trans rfl
                    have hcz43_3 : w31.cell? ⟨gb336, 3, none⟩ = some (.string t335) := (blk_cell BK336.out 3).trans rfl
                    have hfz43_0 := blk_frozen BK336.out 0
                    have hfz43_1 := blk_frozen BK336.out 1
                    have hfz43_2 := blk_frozen BK336.out 2
                    have hfz43_3 := blk_frozen BK336.out 3
                    go_wp2
                    go_meet
                    case rel => exact ⟨_, (true), (by first | rfl | (simp; done) | (simp [*]; done) | (simp [q_ne_nil]; done)), H', ⟨by have := HJ7.out; first | omega | exact Nat.le_refl _⟩, ⟨by (with_reducible repeat (first | refine blk_drewN ?_ _ | refine blk_drew ?_ | refine blk_alloc ?_ _)); exact BK336.out⟩, ⟨by (with_reducible repeat (first | refine blk_drewN ?_ _ | refine blk_drew ?_ | refine blk_alloc ?_ _)); exact BK344.out⟩, ⟨by repeat (first | (with_reducible first | exact HB.out | apply below_alloc | apply pw_below_drewN | apply below_drew1 | refine below_set ?_ GE336.out | refine below_set ?_ GE344.out) | exact HB.out)⟩⟩
                · rw [if_neg c35] at H
                  have c35b0 : (t332 == 2) = false := beq_eq_false_iff_ne.mpr c35
                  have c35b1 : (t332 != 2) = true := bne_iff_ne.mpr c35
                  by_cases c44 : t332 = 1
                  · rw [if_pos c44] at H
                    have c44b0 : (t332 == 1) = true := beq_iff_eq.mpr c44
                    have c44b1 : (t332 != 1) = false := bne_eq_false_iff_eq.mpr c44
                    clear c44
                    have H' := Aside0.mk H
                    clear H
                    have hnb45 := NB336_344.out
                    have hnc45 := NB344_336.out
                    have hcz46_0 : w31.cell? ⟨gb336, 0, none⟩ = some (.int .i64 t332) := (blk_cell BK336.out 0).trans rfl
                    have hcz46_1 : w31.cell? ⟨gb336, 1, none⟩ = some (.string t333) := (blk_cell BK336.out 1).trans rfl
                    have hcz46_2 : w31.cell? ⟨gb336, 2, none⟩ = some (.int .i64 t334) := (blk_cell BK336.out 2).trans rfl
                    have hcz46_3 : w31.cell? ⟨gb336, 3, none⟩ = some (.string t335) := (blk_cell BK336.out 3).trans rfl
                    have hfz46_0 := blk_frozen BK336.out 0
                    have hfz46_1 := blk_frozen BK336.out 1
                    have hfz46_2 := blk_frozen BK336.out 2
                    have hfz46_3 := blk_frozen BK336.out 3
                    go_wp2
                    go_meet
                    case rel => exact ⟨_, ((t349.toList != ([115, 97, 109, 101, 45, 111, 114, 105, 103, 105, 110, 45, 97, 108, 108, 111, 119, 45, 112, 111, 112, 117, 112, 115] : List UInt8))), (by first | rfl | (simp; done) | (simp [*]; done) | (simp [q_ne_nil]; done)), H', ⟨by have := HJ7.out; first | omega | exact Nat.le_refl _⟩, ⟨by (with_reducible repeat (first | refine blk_drewN ?_ _ | refine blk_drew ?_ | refine blk_alloc ?_ _)); exact BK336.out⟩, ⟨by (with_reducible repeat (first | refine blk_drewN ?_ _ | refine blk_drew ?_ | refine blk_alloc ?_ _)); exact BK344.out⟩, ⟨by repeat (first | (with_reducible first | exact HB.out | apply below_alloc | apply pw_below_drewN | apply below_drew1 | refine below_set ?_ GE336.out | refine below_set ?_ GE344.out) | exact HB.out)⟩⟩
                  · rw [if_neg c44] at H
                    have c44b0 : (t332 == 1) = false := beq_eq_false_iff_ne.mpr c44
                    have c44b1 : (t332 != 1) = true := bne_iff_ne.mpr c44
                    have H' := Aside0.mk H
                    clear H
                    have hnb47 := NB336_344.out
                    have hnc47 := NB344_336.out
                    have hcz48_0 : w31.cell? ⟨gb336, 0, none⟩ = some (.int .i64 t332) := (blk_cell BK336.out 0).trans rfl
                    have hcz48_1 : w31.cell? ⟨gb336, 1, none⟩ = some (.string t333) := (blk_cell BK336.out 1).trans rfl
                    have hcz48_2 : w31.cell? ⟨gb336, 2, none⟩ = some (.int .i64 t334) := (blk_cell BK336.out 2).trans rfl
                    have hcz48_3 : w31.cell? ⟨gb336, 3, none⟩ = some (.string t335) := (blk_cell BK336.out 3).trans rfl
                    have hfz48_0 := blk_frozen BK336.out 0
                    have hfz48_1 := blk_frozen BK336.out 1
                    have hfz48_2 := blk_frozen BK336.out 2
                    have hfz48_3 := blk_frozen BK336.out 3
                    go_wp2
                    go_meet
                    case rel => exact ⟨_, (false), (by first | rfl | (simp; done) | (simp [*]; done) | (simp [q_ne_nil]; done)), H', ⟨by have := HJ7.out; first | omega | exact Nat.le_refl _⟩, ⟨by (with_reducible repeat (first | refine blk_drewN ?_ _ | refine blk_drew ?_ | refine blk_alloc ?_ _)); exact BK336.out⟩, ⟨by (with_reducible repeat (first | refine blk_drewN ?_ _ | refine blk_drew ?_ | refine blk_alloc ?_ _)); exact BK344.out⟩, ⟨by repeat (first | (with_reducible first | exact HB.out | apply below_alloc | apply pw_below_drewN | apply below_drew1 | refine below_set ?_ GE336.out | refine below_set ?_ GE344.out) | exact HB.out)⟩⟩
            case rest =>
              clear HC29
              try clear c1
              try clear c2
              try clear p2
              try clear c3
              try clear c3b0
              try clear c3b1
              try clear p3
              try clear q3
              try clear hx3
              try clear qi3
              try clear c4
              try clear c5
              try clear c10
              try clear c12
              try clear c16
              try clear c17
              try clear c21
              try clear c24
              try clear c26
              try clear c27
              try clear c27b0
              try clear c27b1
              try clear c32
              try clear c32b0
              try clear c32b1
              try clear c33
              try clear p34
              try clear q34
              try clear hx34
              try clear qi34
              try clear c35
              try clear c35b0
              try clear c35b1
              try clear c36
              try clear c36b0
              try clear c36b1
              try clear c37
              try clear c37b0
              try clear c37b1
              try clear c38
              try clear c40
              try clear c42
              try clear c44
              try clear c44b0
              try clear c44b1
              try clear c45
              try clear c47
              try clear hcz15_0
              try clear hcz15_1
              try clear hcz15_2
              try clear hcz15_3
              try clear hcz22_0
              try clear hcz22_1
              try clear hcz22_2
              try clear hcz22_3
              try clear hcz34_0
              try clear hcz34_1
              try clear hcz34_2
              try clear hcz34_3
              try clear hcz39_0
              try clear hcz39_1
              try clear hcz39_2
              try clear hcz39_3
              try clear hcz41_0
              try clear hcz41_1
              try clear hcz41_2
              try clear hcz41_3
              try clear hcz43_0
              try clear hcz43_1
              try clear hcz43_2
              try clear hcz43_3
              try clear hcz46_0
              try clear hcz46_1
              try clear hcz46_2
              try clear hcz46_3
              try clear hcz48_0
              try clear hcz48_1
              try clear hcz48_2
              try clear hcz48_3
              try clear hfz15_0
              try clear hfz15_1
              try clear hfz15_2
              try clear hfz15_3
              try clear hfz22_0
              try clear hfz22_1
              try clear hfz22_2
              try clear hfz22_3
              try clear hfz34_0
              try clear hfz34_1
              try clear hfz34_2
              try clear hfz34_3
              try clear hfz39_0
              try clear hfz39_1
              try clear hfz39_2
              try clear hfz39_3
              try clear hfz41_0
              try clear hfz41_1
              try clear hfz41_2
              try clear hfz41_3
              try clear hfz43_0
              try clear hfz43_1
              try clear hfz43_2
              try clear hfz43_3
              try clear hfz46_0
              try clear hfz46_1
              try clear hfz46_2
              try clear hfz46_3
              try clear hfz48_0
              try clear hfz48_1
              try clear hfz48_2
              try clear hfz48_3
              try clear hx348_0
              try clear p2
              try clear p348
              try clear q348
              obtain ⟨kq, x54_28, rfl, HA, HJ28, BK336, BK344, HB⟩ := hcut
              cases kq with
              | zero => exact absurd HA.out (by simp [glacislaw08_CoopWords.j1])
              | succ kj28 =>
                have H := HA.out
                clear HA
                simp only [glacislaw08_CoopWords.j1] at H
                by_cases c49 : x54_28 = true
                · subst c49
                  have H1 : (none) = some r := by rw [if_pos rfl] at H; exact H
                  exact absurd H1 (by simp)
                · replace c49 := Bool.eq_false_iff.mpr c49
                  subst c49
                  have H1 : (if t340 = 2 then (if t349.toList = ([114, 101, 113, 117, 105, 114, 101, 45, 99, 111, 114, 112] : List UInt8) then (if t340 = 1 then (if t349.toList = ([99, 114, 101, 100, 101, 110, 116, 105, 97, 108, 108, 101, 115, 115] : List UInt8) then (if t328 = true then (if t334 = 0 then (if t335.toList = ([] : List UInt8) then (if t342 = 0 then (if t343.toList = ([] : List UInt8) then (some (t333.toList == t341.toList)) else (none)) else (none)) else (none)) else (none)) else (none)) else (none)) else (if t328 = true then (if t334 = 0 then (if t335.toList = ([] : List UInt8) then (if t342 = 0 then (if t343.toList = ([] : List UInt8) then (some (t333.toList == t341.toList)) else (none)) else (none)) else (none)) else (none)) else (none))) else (none)) else (if t340 = 1 then (if t349.toList = ([99, 114, 101, 100, 101, 110, 116, 105, 97, 108, 108, 101, 115, 115] : List UInt8) then (if t328 = true then (if t334 = 0 then (if t335.toList = ([] : List UInt8) then (if t342 = 0 then (if t343.toList = ([] : List UInt8) then (some (t333.toList == t341.toList)) else (none)) else (none)) else (none)) else (none)) else (none)) else (none)) else (if t328 = true then (if t334 = 0 then (if t335.toList = ([] : List UInt8) then (if t342 = 0 then (if t343.toList = ([] : List UInt8) then (some (t333.toList == t341.toList)) else (none)) else (none)) else (none)) else (none)) else (none)))) = some r := by rw [if_neg (show ¬ (false = true) by decide)] at H; exact H
                  clear H
                  have H := H1
                  clear H1
                  by_cases c50 : t340 = 2
                  · rw [if_pos c50] at H
                    have c50b0 : (t340 == 2) = true := beq_iff_eq.mpr c50
                    have c50b1 : (t340 != 2) = false := bne_eq_false_iff_eq.mpr c50
                    clear c50
                    by_cases c51 : t349.toList = ([114, 101, 113, 117, 105, 114, 101, 45, 99, 111, 114, 112] : List UInt8)
                    · rw [if_pos c51] at H
                      have c51b0 : (t349.toList == ([114, 101, 113, 117, 105, 114, 101, 45, 99, 111, 114, 112] : List UInt8)) = true := beq_iff_eq.mpr c51
                      have c51b1 : (t349.toList != ([114, 101, 113, 117, 105, 114, 101, 45, 99, 111, 114, 112] : List UInt8)) = false := bne_eq_false_iff_eq.mpr c51
                      clear c51
                      by_cases c52 : t340 = 1
                      · rw [if_pos c52] at H
                        have c52b0 : (t340 == 1) = true := beq_iff_eq.mpr c52
                        have c52b1 : (t340 != 1) = false := bne_eq_false_iff_eq.mpr c52
                        clear c52
                        by_cases c53 : t349.toList = ([99, 114, 101, 100, 101, 110, 116, 105, 97, 108, 108, 101, 115, 115] : List UInt8)
                        · rw [if_pos c53] at H
                          have c53b0 : (t349.toList == ([99, 114, 101, 100, 101, 110, 116, 105, 97, 108, 108, 101, 115, 115] : List UInt8)) = true := beq_iff_eq.mpr c53
                          have c53b1 : (t349.toList != ([99, 114, 101, 100, 101, 110, 116, 105, 97, 108, 108, 101, 115, 115] : List UInt8)) = false := bne_eq_false_iff_eq.mpr c53
                          clear c53
                          by_cases c54 : t328 = true
                          · subst c54
                            have H1 : (if t334 = 0 then (if t335.toList = ([] : List UInt8) then (if t342 = 0 then (if t343.toList = ([] : List UInt8) then (some (t333.toList == t341.toList)) else (none)) else (none)) else (none)) else (none)) = some r := by rw [if_pos rfl] at H; exact H
                            clear H
                            have H := H1
                            clear H1
                            by_cases c55 : t334 = 0
                            · rw [if_pos c55] at H
                              have c55b0 : (t334 == 0) = true := beq_iff_eq.mpr c55
                              have c55b1 : (t334 != 0) = false := bne_eq_false_iff_eq.mpr c55
                              clear c55
                              by_cases c56 : t335.toList = ([] : List UInt8)
                              · rw [if_pos c56] at H
                                have c56b0 : (t335.toList == ([] : List UInt8)) = true := beq_iff_eq.mpr c56
                                have c56b1 : (t335.toList != ([] : List UInt8)) = false := bne_eq_false_iff_eq.mpr c56
                                clear c56
                                by_cases c57 : t342 = 0
                                · rw [if_pos c57] at H
                                  have c57b0 : (t342 == 0) = true := beq_iff_eq.mpr c57
                                  have c57b1 : (t342 != 0) = false := bne_eq_false_iff_eq.mpr c57
                                  clear c57
                                  by_cases c58 : t343.toList = ([] : List UInt8)
                                  · rw [if_pos c58] at H
                                    have c58b0 : (t343.toList == ([] : List UInt8)) = true := beq_iff_eq.mpr c58
                                    have c58b1 : (t343.toList != ([] : List UInt8)) = false := bne_eq_false_iff_eq.mpr c58
                                    clear c58
                                    obtain rfl := Option.some.inj H
                                    have hnb59 := NB344_336.out
                                    have hnc59 := NB336_344.out
                                    have hcz60_0 : wc.cell? ⟨gb344, 0, none⟩ = some (.int .i64 t340) := (blk_cell BK344.out 0).trans rfl
                                    have hcz60_1 : wc.cell? ⟨gb344, 1, none⟩ = some (.string t341) := (blk_cell BK344.out 1).trans rfl
                                    have hcz60_2 : wc.cell? ⟨gb344, 2, none⟩ = some (.int .i64 t342) := (blk_cell BK344.out 2).trans rfl
                                    have hcz60_3 : wc.cell? ⟨gb344, 3, none⟩ = some (.string t343) := (blk_cell BK344.out 3).trans rfl
                                    have hfz60_0 := blk_frozen BK344.out 0
                                    have hfz60_1 := blk_frozen BK344.out 1
                                    have hfz60_2 := blk_frozen BK344.out 2
                                    have hfz60_3 := blk_frozen BK344.out 3
                                    have hcz61_0 : wc.cell? ⟨gb336, 0, none⟩ = some (.int .i64 t332) := (blk_cell BK336.out 0).trans rfl
                                    have hcz61_1 : wc.cell? ⟨gb336, 1, none⟩ = some (.string t333) := (blk_cell BK336.out 1).trans rfl
                                    have hcz61_2 : wc.cell? ⟨gb336, 2, none⟩ = some (.int .i64 t334) := (blk_cell BK336.out 2).trans rfl
                                    have hcz61_3 : wc.cell? ⟨gb336, 3, none⟩ = some (.string t335) := (blk_cell BK336.out 3).trans rfl
                                    have hfz61_0 := blk_frozen BK336.out 0
                                    have hfz61_1 := blk_frozen BK336.out 1
                                    have hfz61_2 := blk_frozen BK336.out 2
                                    have hfz61_3 := blk_frozen BK336.out 3
                                    go_wp2
                                    go_ret
                                    exact ⟨by first | rfl | (simp [errW_none, errW_some] <;> rfl) | (simp [*, errW_none, errW_some] <;> rfl) | (simp [q_ne_nil]; done), by repeat (first | (with_reducible first | exact HB.out | apply below_alloc | apply pw_below_drewN | apply below_drew1 | refine below_set ?_ GE336.out | refine below_set ?_ GE344.out) | exact HB.out)⟩
                                  · exact absurd H (by rw [if_neg c58]; simp)
                                · exact absurd H (by rw [if_neg c57]; simp)
                              · exact absurd H (by rw [if_neg c56]; simp)
                            · exact absurd H (by rw [if_neg c55]; simp)
                          · exact absurd H (by rw [if_neg c54]; simp)
                        · exact absurd H (by rw [if_neg c53]; simp)
                      · rw [if_neg c52] at H
                        have c52b0 : (t340 == 1) = false := beq_eq_false_iff_ne.mpr c52
                        have c52b1 : (t340 != 1) = true := bne_iff_ne.mpr c52
                        by_cases c78 : t328 = true
                        · subst c78
                          have H1 : (if t334 = 0 then (if t335.toList = ([] : List UInt8) then (if t342 = 0 then (if t343.toList = ([] : List UInt8) then (some (t333.toList == t341.toList)) else (none)) else (none)) else (none)) else (none)) = some r := by rw [if_pos rfl] at H; exact H
                          clear H
                          have H := H1
                          clear H1
                          by_cases c79 : t334 = 0
                          · rw [if_pos c79] at H
                            have c79b0 : (t334 == 0) = true := beq_iff_eq.mpr c79
                            have c79b1 : (t334 != 0) = false := bne_eq_false_iff_eq.mpr c79
                            clear c79
                            by_cases c80 : t335.toList = ([] : List UInt8)
                            · rw [if_pos c80] at H
                              have c80b0 : (t335.toList == ([] : List UInt8)) = true := beq_iff_eq.mpr c80
                              have c80b1 : (t335.toList != ([] : List UInt8)) = false := bne_eq_false_iff_eq.mpr c80
                              clear c80
                              by_cases c81 : t342 = 0
                              · rw [if_pos c81] at H
                                have c81b0 : (t342 == 0) = true := beq_iff_eq.mpr c81
                                have c81b1 : (t342 != 0) = false := bne_eq_false_iff_eq.mpr c81
                                clear c81
                                by_cases c82 : t343.toList = ([] : List UInt8)
                                · rw [if_pos c82] at H
                                  have c82b0 : (t343.toList == ([] : List UInt8)) = true := beq_iff_eq.mpr c82
                                  have c82b1 : (t343.toList != ([] : List UInt8)) = false := bne_eq_false_iff_eq.mpr c82
                                  clear c82
                                  obtain rfl := Option.some.inj H
                                  have hnb83 := NB344_336.out
                                  have hnc83 := NB336_344.out
                                  have hcz84_0 : wc.cell? ⟨gb344, 0, none⟩ = some (.int .i64 t340) := (blk_cell BK344.out 0).trans rfl
                                  have hcz84_1 : wc.cell? ⟨gb344, 1, none⟩ = some (.string t341) := (blk_cell BK344.out 1).trans rfl
                                  have hcz84_2 : wc.cell? ⟨gb344, 2, none⟩ = some (.int .i64 t342) := (blk_cell BK344.out 2).trans rfl
                                  have hcz84_3 : wc.cell? ⟨gb344, 3, none⟩ = some (.string t343) := (blk_cell BK344.out 3).trans rfl
                                  have hfz84_0 := blk_frozen BK344.out 0
                                  have hfz84_1 := blk_frozen BK344.out 1
                                  have hfz84_2 := blk_frozen BK344.out 2
                                  have hfz84_3 := blk_frozen BK344.out 3
                                  have hcz85_0 : wc.cell? ⟨gb336, 0, none⟩ = some (.int .i64 t332) := (blk_cell BK336.out 0).trans rfl
                                  have hcz85_1 : wc.cell? ⟨gb336, 1, none⟩ = some (.string t333) := (blk_cell BK336.out 1).trans rfl
                                  have hcz85_2 : wc.cell? ⟨gb336, 2, none⟩ = some (.int .i64 t334) := (blk_cell BK336.out 2).trans rfl
                                  have hcz85_3 : wc.cell? ⟨gb336, 3, none⟩ = some (.string t335) := (blk_cell BK336.out 3).trans rfl
                                  have hfz85_0 := blk_frozen BK336.out 0
                                  have hfz85_1 := blk_frozen BK336.out 1
                                  have hfz85_2 := blk_frozen BK336.out 2
                                  have hfz85_3 := blk_frozen BK336.out 3
                                  go_wp2
                                  go_ret
                                  exact ⟨by first | rfl | (simp [errW_none, errW_some] <;> rfl) | (simp [*, errW_none, errW_some] <;> rfl) | (simp [q_ne_nil]; done), by repeat (first | (with_reducible first | exact HB.out | apply below_alloc | apply pw_below_drewN | apply below_drew1 | refine below_set ?_ GE336.out | refine below_set ?_ GE344.out) | exact HB.out)⟩
                                · exact absurd H (by rw [if_neg c82]; simp)
                              · exact absurd H (by rw [if_neg c81]; simp)
                            · exact absurd H (by rw [if_neg c80]; simp)
                          · exact absurd H (by rw [if_neg c79]; simp)
                        · exact absurd H (by rw [if_neg c78]; simp)
                    · exact absurd H (by rw [if_neg c51]; simp)
                  · rw [if_neg c50] at H
                    have c50b0 : (t340 == 2) = false := beq_eq_false_iff_ne.mpr c50
                    have c50b1 : (t340 != 2) = true := bne_iff_ne.mpr c50
                    by_cases c102 : t340 = 1
                    · rw [if_pos c102] at H
                      have c102b0 : (t340 == 1) = true := beq_iff_eq.mpr c102
                      have c102b1 : (t340 != 1) = false := bne_eq_false_iff_eq.mpr c102
                      clear c102
                      by_cases c103 : t349.toList = ([99, 114, 101, 100, 101, 110, 116, 105, 97, 108, 108, 101, 115, 115] : List UInt8)
                      · rw [if_pos c103] at H
                        have c103b0 : (t349.toList == ([99, 114, 101, 100, 101, 110, 116, 105, 97, 108, 108, 101, 115, 115] : List UInt8)) = true := beq_iff_eq.mpr c103
                        have c103b1 : (t349.toList != ([99, 114, 101, 100, 101, 110, 116, 105, 97, 108, 108, 101, 115, 115] : List UInt8)) = false := bne_eq_false_iff_eq.mpr c103
                        clear c103
                        by_cases c104 : t328 = true
                        · subst c104
                          have H1 : (if t334 = 0 then (if t335.toList = ([] : List UInt8) then (if t342 = 0 then (if t343.toList = ([] : List UInt8) then (some (t333.toList == t341.toList)) else (none)) else (none)) else (none)) else (none)) = some r := by rw [if_pos rfl] at H; exact H
                          clear H
                          have H := H1
                          clear H1
                          by_cases c105 : t334 = 0
                          · rw [if_pos c105] at H
                            have c105b0 : (t334 == 0) = true := beq_iff_eq.mpr c105
                            have c105b1 : (t334 != 0) = false := bne_eq_false_iff_eq.mpr c105
                            clear c105
                            by_cases c106 : t335.toList = ([] : List UInt8)
                            · rw [if_pos c106] at H
                              have c106b0 : (t335.toList == ([] : List UInt8)) = true := beq_iff_eq.mpr c106
                              have c106b1 : (t335.toList != ([] : List UInt8)) = false := bne_eq_false_iff_eq.mpr c106
                              clear c106
                              by_cases c107 : t342 = 0
                              · rw [if_pos c107] at H
                                have c107b0 : (t342 == 0) = true := beq_iff_eq.mpr c107
                                have c107b1 : (t342 != 0) = false := bne_eq_false_iff_eq.mpr c107
                                clear c107
                                by_cases c108 : t343.toList = ([] : List UInt8)
                                · rw [if_pos c108] at H
                                  have c108b0 : (t343.toList == ([] : List UInt8)) = true := beq_iff_eq.mpr c108
                                  have c108b1 : (t343.toList != ([] : List UInt8)) = false := bne_eq_false_iff_eq.mpr c108
                                  clear c108
                                  obtain rfl := Option.some.inj H
                                  have hnb109 := NB344_336.out
                                  have hnc109 := NB336_344.out
                                  have hcz110_0 : wc.cell? ⟨gb344, 0, none⟩ = some (.int .i64 t340) := (blk_cell BK344.out 0).trans rfl
                                  have hcz110_1 : wc.cell? ⟨gb344, 1, none⟩ = some (.string t341) := (blk_cell BK344.out 1).trans rfl
                                  have hcz110_2 : wc.cell? ⟨gb344, 2, none⟩ = some (.int .i64 t342) := (blk_cell BK344.out 2).trans rfl
                                  have hcz110_3 : wc.cell? ⟨gb344, 3, none⟩ = some (.string t343) := (blk_cell BK344.out 3).trans rfl
                                  have hfz110_0 := blk_frozen BK344.out 0
                                  have hfz110_1 := blk_frozen BK344.out 1
                                  have hfz110_2 := blk_frozen BK344.out 2
                                  have hfz110_3 := blk_frozen BK344.out 3
                                  have hcz111_0 : wc.cell? ⟨gb336, 0, none⟩ = some (.int .i64 t332) := (blk_cell BK336.out 0).trans rfl
                                  have hcz111_1 : wc.cell? ⟨gb336, 1, none⟩ = some (.string t333) := (blk_cell BK336.out 1).trans rfl
                                  have hcz111_2 : wc.cell? ⟨gb336, 2, none⟩ = some (.int .i64 t334) := (blk_cell BK336.out 2).trans rfl
                                  have hcz111_3 : wc.cell? ⟨gb336, 3, none⟩ = some (.string t335) := (blk_cell BK336.out 3).trans rfl
                                  have hfz111_0 := blk_frozen BK336.out 0
                                  have hfz111_1 := blk_frozen BK336.out 1
                                  have hfz111_2 := blk_frozen BK336.out 2
                                  have hfz111_3 := blk_frozen BK336.out 3
                                  go_wp2
                                  go_ret
                                  exact ⟨by first | rfl | (simp [errW_none, errW_some] <;> rfl) | (simp [*, errW_none, errW_some] <;> rfl) | (simp [q_ne_nil]; done), by repeat (first | (with_reducible first | exact HB.out | apply below_alloc | apply pw_below_drewN | apply below_drew1 | refine below_set ?_ GE336.out | refine below_set ?_ GE344.out) | exact HB.out)⟩
                                · exact absurd H (by rw [if_neg c108]; simp)
                              · exact absurd H (by rw [if_neg c107]; simp)
                            · exact absurd H (by rw [if_neg c106]; simp)
                          · exact absurd H (by rw [if_neg c105]; simp)
                        · exact absurd H (by rw [if_neg c104]; simp)
                      · exact absurd H (by rw [if_neg c103]; simp)
                    · rw [if_neg c102] at H
                      have c102b0 : (t340 == 1) = false := beq_eq_false_iff_ne.mpr c102
                      have c102b1 : (t340 != 1) = true := bne_iff_ne.mpr c102
                      by_cases c128 : t328 = true
                      · subst c128
                        have H1 : (if t334 = 0 then (if t335.toList = ([] : List UInt8) then (if t342 = 0 then (if t343.toList = ([] : List UInt8) then (some (t333.toList == t341.toList)) else (none)) else (none)) else (none)) else (none)) = some r := by rw [if_pos rfl] at H; exact H
                        clear H
                        have H := H1
                        clear H1
                        by_cases c129 : t334 = 0
                        · rw [if_pos c129] at H
                          have c129b0 : (t334 == 0) = true := beq_iff_eq.mpr c129
                          have c129b1 : (t334 != 0) = false := bne_eq_false_iff_eq.mpr c129
                          clear c129
                          by_cases c130 : t335.toList = ([] : List UInt8)
                          · rw [if_pos c130] at H
                            have c130b0 : (t335.toList == ([] : List UInt8)) = true := beq_iff_eq.mpr c130
                            have c130b1 : (t335.toList != ([] : List UInt8)) = false := bne_eq_false_iff_eq.mpr c130
                            clear c130
                            by_cases c131 : t342 = 0
                            · rw [if_pos c131] at H
                              have c131b0 : (t342 == 0) = true := beq_iff_eq.mpr c131
                              have c131b1 : (t342 != 0) = false := bne_eq_false_iff_eq.mpr c131
                              clear c131
                              by_cases c132 : t343.toList = ([] : List UInt8)
                              · rw [if_pos c132] at H
                                have c132b0 : (t343.toList == ([] : List UInt8)) = true := beq_iff_eq.mpr c132
                                have c132b1 : (t343.toList != ([] : List UInt8)) = false := bne_eq_false_iff_eq.mpr c132
                                clear c132
                                obtain rfl := Option.some.inj H
                                have hnb133 := NB344_336.out
                                have hnc133 := NB336_344.out
                                have hcz134_0 : wc.cell? ⟨gb344, 0, none⟩ = some (.int .i64 t340) := (blk_cell BK344.out 0).trans rfl
                                have hcz134_1 : wc.cell? ⟨gb344, 1, none⟩ = some (.string t341) := (blk_cell BK344.out 1).trans rfl
                                have hcz134_2 : wc.cell? ⟨gb344, 2, none⟩ = some (.int .i64 t342) := (blk_cell BK344.out 2).trans rfl
                                have hcz134_3 : wc.cell? ⟨gb344, 3, none⟩ = some (.string t343) := (blk_cell BK344.out 3).trans rfl
                                have hfz134_0 := blk_frozen BK344.out 0
                                have hfz134_1 := blk_frozen BK344.out 1
                                have hfz134_2 := blk_frozen BK344.out 2
                                have hfz134_3 := blk_frozen BK344.out 3
                                have hcz135_0 : wc.cell? ⟨gb336, 0, none⟩ = some (.int .i64 t332) := (blk_cell BK336.out 0).trans rfl
                                have hcz135_1 : wc.cell? ⟨gb336, 1, none⟩ = some (.string t333) := (blk_cell BK336.out 1).trans rfl
                                have hcz135_2 : wc.cell? ⟨gb336, 2, none⟩ = some (.int .i64 t334) := (blk_cell BK336.out 2).trans rfl
                                have hcz135_3 : wc.cell? ⟨gb336, 3, none⟩ = some (.string t335) := (blk_cell BK336.out 3).trans rfl
                                have hfz135_0 := blk_frozen BK336.out 0
                                have hfz135_1 := blk_frozen BK336.out 1
                                have hfz135_2 := blk_frozen BK336.out 2
                                have hfz135_3 := blk_frozen BK336.out 3
                                go_wp2
                                go_ret
                                exact ⟨by first | rfl | (simp [errW_none, errW_some] <;> rfl) | (simp [*, errW_none, errW_some] <;> rfl) | (simp [q_ne_nil]; done), by repeat (first | (with_reducible first | exact HB.out | apply below_alloc | apply pw_below_drewN | apply below_drew1 | refine below_set ?_ GE336.out | refine below_set ?_ GE344.out) | exact HB.out)⟩
                              · exact absurd H (by rw [if_neg c132]; simp)
                            · exact absurd H (by rw [if_neg c131]; simp)
                          · exact absurd H (by rw [if_neg c130]; simp)
                        · exact absurd H (by rw [if_neg c129]; simp)
                      · exact absurd H (by rw [if_neg c128]; simp)
          · exact absurd H (by rw [if_neg c27]; simp)
end Go.Proofs.YtciigmlibnpeeaaGreatDoor.Q
/- Chapter 5: the reader over lists of bytes: what text tells what value, and how such a text is read. -/
namespace Go.Proofs.YtciigmlibnpeeaaGreatDoor.Pl
open Go.RowKit Go.Proofs.YtciigmlibnpeeaaGreatDoor.Q Go.Proofs.YtciigmlibnpeeaaGreatDoor.Sf Go.Proofs.YtciigmlibnpeeaaGreatDoorW.PrintWords Go.Proofs.YtciigmlibnpeeaaGreatDoorW.PrintLast
set_option linter.unusedVariables false
set_option linter.unusedSimpArgs false
def L (s : ByteArray) : List UInt8 := s.data.toList
def B (l : List UInt8) : ByteArray := ⟨l.toArray⟩
theorem B_L (s : ByteArray) : B (L s) = s := by apply ByteArray.ext; simp [L, B]
theorem L_inj {a b : ByteArray} (h : L a = L b) : a = b := by rw [← B_L a, h, B_L]
theorem L_app (a b : ByteArray) : L (a ++ b) = L a ++ L b := by unfold L; simp
theorem size_L (s : ByteArray) : s.size = (L s).length := Lib.size_eq s
theorem L_tl (s : ByteArray) : L (tl s) = (L s).tail := by
  unfold L tl
  rw [Lib.extract_data, Lib.size_eq]
  rw [List.take_of_length_le (by simp), List.drop_one]
theorem bt0 {s : ByteArray} {c : UInt8} {r : List UInt8} (h : L s = c :: r) : bt s 0 = (c.toNat : Int) := by
  have hl : 0 < s.data.toList.length := by show 0 < (L s).length; rw [h]; simp
  have := bt_list s 0 hl
  have e : s.data.toList[0] = c := by
    have h2 : s.data.toList = c :: r := h
    simp [h2]
  rw [e] at this
  exact this
theorem size_pos {s : ByteArray} {c : UInt8} {r : List UInt8} (h : L s = c :: r) : 0 < s.size := by rw [size_L, h]; simp
theorem size_nil {s : ByteArray} (h : L s = []) : ¬ 0 < s.size := by rw [size_L, h]; simp
theorem atF_cons {s : ByteArray} {c : UInt8} {r : List UInt8} (h : L s = c :: r) (n : Int) : atF s n = decide ((c.toNat : Int) = n) := by
  unfold atF; rw [bt0 h]; simp [size_pos h]
theorem atF_nil {s : ByteArray} (h : L s = []) (n : Int) : atF s n = false := by
  unfold atF; simp [size_nil h]
theorem atF_ex {s : ByteArray} {n : Int} (h : atF s n = true) : ∃ c r, L s = c :: r ∧ (c.toNat : Int) = n := by
  cases e : L s with
  | nil => rw [atF_nil e] at h; cases h
  | cons c r => rw [atF_cons e] at h; exact ⟨c, r, rfl, of_decide_eq_true h⟩
theorem L_tak (p : Int → Bool) (s : ByteArray) : L (takB p s) = (L s).takeWhile (fun c => p c.toNat) := tak_data p s
theorem L_drp (p : Int → Bool) (s : ByteArray) : L (drpB p s) = (L s).dropWhile (fun c => p c.toNat) := by
  have h1 : L (drpB p s) = (L s).drop (spanB p s) := by
    unfold L drpB
    rw [Lib.extract_data, Lib.size_eq]
    rw [List.take_of_length_le (by simp)]
  rw [h1]
  have h2 : spanB p s = ((L s).takeWhile (fun c => p c.toNat)).length := rfl
  rw [h2]
  generalize (fun c : UInt8 => p c.toNat) = q
  induction L s with
  | nil => rfl
  | cons x l ih => rw [List.takeWhile_cons, List.dropWhile_cons]; split <;> simp [*]
theorem span_split {α : Type} (q : α → Bool) (l : List α) : l.takeWhile q ++ l.dropWhile q = l := List.takeWhile_append_dropWhile
theorem allU (P : UInt8 → Bool) (h : (List.range 256).all (fun n => P (UInt8.ofNat n)) = true) (c : UInt8) : P c = true := by
  have hc : c.toNat < 256 := c.toNat_lt
  have := List.all_eq_true.1 h c.toNat (List.mem_range.2 hc)
  simpa using this
/-- A row of digits' number. -/
def numL (l : List UInt8) : Nat := l.foldl (fun a c => a * 10 + (c.toNat - 48)) 0
theorem numV_L (s : ByteArray) : numV s = numL (L s) := rfl
def zerL (n : Nat) : List UInt8 := ([48, 48, 48] : List UInt8).drop n
theorem zer_L (n : Nat) : L (zer n) = zerL n := by
  unfold L zer
  rw [Lib.extract_data]
  show List.take (3 - n) (List.drop n [48, 48, 48]) = zerL n
  rw [List.take_of_length_le (by simp)]; rfl
def dgU (c : UInt8) : Bool := dgP c.toNat
def toU (c : UInt8) : Bool := tokP c.toNat
def baU (c : UInt8) : Bool := baP c.toNat
def keU (c : UInt8) : Bool := keP c.toNat
/-- What bytes between quotes tell what text. -/
inductive QT : List UInt8 → List UInt8 → Prop
  | stop : QT [34] []
  | plain (c : UInt8) (q t : List UInt8) (h1 : 32 ≤ c.toNat) (h2 : c.toNat ≤ 126) (h3 : c.toNat ≠ 34) (h4 : c.toNat ≠ 92) (h : QT q t) : QT (c :: q) (c :: t)
  | esc (c : UInt8) (q t : List UInt8) (h1 : c.toNat = 34 ∨ c.toNat = 92) (h : QT q t) : QT (92 :: c :: q) (c :: t)
def sgV (sg : List UInt8) : Int := if sg = [] then 1 else -1
/-- What text tells what value. -/
inductive VT : List UInt8 → Int → Int → List UInt8 → Prop
  | int (sg w : List UInt8) (h0 : sg = [] ∨ sg = [45]) (h1 : w ≠ []) (h2 : ∀ c ∈ w, dgU c = true) (h3 : w.length ≤ 15) : VT (sg ++ w) 1 (sgV sg * (numL w : Int)) []
  | dec (sg w p : List UInt8) (h0 : sg = [] ∨ sg = [45]) (h1 : w ≠ []) (h2 : ∀ c ∈ w, dgU c = true) (h3 : w.length ≤ 12) (h4 : p ≠ []) (h5 : ∀ c ∈ p, dgU c = true) (h6 : p.length ≤ 3) : VT (sg ++ (w ++ 46 :: p)) 2 (sgV sg * (numL (w ++ (p ++ zerL p.length)) : Int)) []
  | tok (c : UInt8) (w : List UInt8) (h0 : leP c.toNat = true ∨ (c.toNat : Int) = 42) (h1 : ∀ x ∈ c :: w, toU x = true) : VT (c :: w) 4 0 (c :: w)
  | quo (q t : List UInt8) (h : QT q t) : VT (34 :: q) 3 0 t
  | byt (w : List UInt8) (h : ∀ c ∈ w, baU c = true) : VT (58 :: (w ++ [58])) 5 0 w
  | one : VT [63, 49] 6 1 []
  | zero : VT [63, 48] 6 0 []
/-- What text tells what key. -/
def KT (k : List UInt8) : Prop := ∃ c w, k = c :: w ∧ (smP c.toNat = true ∨ (c.toNat : Int) = 42) ∧ ∀ x ∈ k, keU x = true
/-- A rest behind which nothing is lost. -/
def Ends (r : List UInt8) : Prop := ∀ c r', r = c :: r' → c = 59
theorem Ends.nil : Ends [] := fun _ _ h => by cases h
theorem Ends.semi (r : List UInt8) : Ends (59 :: r) := fun _ _ h => by cases h; rfl
theorem wiQ (c : UInt8) : wiP c.toNat ⟨#[34, 92]⟩ = decide (c.toNat = 34 ∨ c.toNat = 92) := by
  have := allU (fun c : UInt8 => wiP c.toNat ⟨#[34, 92]⟩ == decide (c.toNat = 34 ∨ c.toNat = 92)) (by decide +kernel) c
  exact beq_iff_eq.1 this
theorem num_app (l : List Int) (c : UInt8) (t : List UInt8) (h : L (strOfNums l) = t) : L (strOfNums (l ++ [(c.toNat : Int)])) = t ++ [c] := by
  subst h
  unfold L strOfNums
  simp
end Go.Proofs.YtciigmlibnpeeaaGreatDoor.Pl
/- Chapter 5: what the reader has read is such a text; parameters; whole items. -/
namespace Go.Proofs.YtciigmlibnpeeaaGreatDoor.Pl
open Go.RowKit Go.Proofs.YtciigmlibnpeeaaGreatDoor.Q Go.Proofs.YtciigmlibnpeeaaGreatDoor.Sf Go.Proofs.YtciigmlibnpeeaaGreatDoorW.PrintWords Go.Proofs.YtciigmlibnpeeaaGreatDoorW.PrintLast
set_option linter.unusedVariables false
set_option linter.unusedSimpArgs false
theorem u_eq {c d : UInt8} (h : (c.toNat : Int) = (d.toNat : Int)) : c = d := UInt8.toNat_inj.1 (by omega)
theorem cons_of (s : ByteArray) (h : 0 < s.size) : ∃ c r, L s = c :: r := by
  cases e : L s with
  | nil => exact absurd h (size_nil e)
  | cons c r => exact ⟨c, r, rfl⟩
theorem qt_inv : ∀ (d : Nat) (s : ByteArray) (xs : List Int) (o t : ByteArray), qF d s xs = some (o, t) → ∃ q m, L s = q ++ L t ∧ QT q m ∧ L o = L (strOfNums xs) ++ m
  | 0, s, xs, o, t, h => by rw [qF] at h; cases h
  | d + 1, s, xs, o, t, h => by
    rw [qF] at h
    by_cases h0 : 0 < s.size
    · rw [if_pos h0] at h
      obtain ⟨c, r, e⟩ := cons_of s h0
      have et : L (tl s) = r := by rw [L_tl, e]; rfl
      rw [bt0 e] at h
      by_cases c34 : (c.toNat : Int) = 34
      · rw [if_pos c34] at h
        obtain ⟨rfl, rfl⟩ := Prod.mk.inj (Option.some.inj h)
        have : c = 34 := u_eq c34
        subst this
        exact ⟨[34], [], by rw [et, e]; rfl, QT.stop, by simp⟩
      · rw [if_neg c34] at h
        by_cases bad : (c.toNat : Int) < 32 ∨ 126 < (c.toNat : Int) ∨ ((c.toNat : Int) = 92 ∧ ¬ (0 < (tl s).size ∧ wiP (bt (tl s) 0) ⟨#[34, 92]⟩ = true))
        · rw [if_pos bad] at h; cases h
        · rw [if_neg bad] at h
          by_cases c92 : (c.toNat : Int) = 92
          · rw [if_pos c92] at h
            have ok : 0 < (tl s).size ∧ wiP (bt (tl s) 0) ⟨#[34, 92]⟩ = true := Classical.byContradiction fun k => bad (Or.inr (Or.inr ⟨c92, k⟩))
            obtain ⟨c2, r2, e2⟩ := cons_of (tl s) ok.1
            have ok2 := ok.2
            rw [bt0 e2, wiQ] at ok2
            rw [bt0 e2] at h
            obtain ⟨q, m, a1, a2, a3⟩ := qt_inv d _ _ _ _ h
            have e3 : L (tl (tl s)) = r2 := by rw [L_tl, e2]; rfl
            have : c = 92 := u_eq c92
            subst this
            refine ⟨92 :: c2 :: q, c2 :: m, ?_, QT.esc c2 q m (of_decide_eq_true ok2) a2, ?_⟩
            · rw [e3] at a1; rw [e, ← et, e2, a1]; rfl
            · rw [a3, num_app xs c2 _ rfl]; simp
          · rw [if_neg c92] at h
            obtain ⟨q, m, a1, a2, a3⟩ := qt_inv d _ _ _ _ h
            refine ⟨c :: q, c :: m, ?_, QT.plain c q m (by omega) (by omega) (by omega) (by omega) a2, ?_⟩
            · rw [et] at a1; rw [e, a1]; rfl
            · rw [a3, num_app xs c _ rfl]; simp
    · rw [if_neg h0] at h; cases h
theorem quoted_inv {s t : ByteArray} {v : Int × Int × ByteArray} (h : rdQuoted s = some (v, t)) : ∃ q, L s = q ++ L t ∧ QT q (L v.2.2) ∧ v.1 = 3 ∧ v.2.1 = 0 := by
  unfold rdQuoted at h
  obtain ⟨⟨o, t'⟩, hq, hm⟩ := Option.map_eq_some_iff.1 h
  unfold mkQ at hm
  obtain ⟨rfl, rfl⟩ := Prod.mk.inj hm
  obtain ⟨q, m, a1, a2, a3⟩ := qt_inv _ _ _ _ _ hq
  refine ⟨q, a1, ?_, rfl, rfl⟩
  have : L (strOfNums []) = [] := rfl
  rw [this] at a3
  simpa [a3] using a2
theorem number_inv {s t : ByteArray} {v : Int × Int × ByteArray} (h : rdNumber s = some (v, t)) : ∃ u, L s = u ++ L t ∧ VT u v.1 v.2.1 (L v.2.2) := by
  obtain ⟨sg, h0, hs, hg⟩ : ∃ sg : List UInt8, (sg = [] ∨ sg = [45]) ∧ L s = sg ++ L (atR s 45) ∧ (if atF s 45 = true then (-1 : Int) else 1) = sgV sg := by
    unfold atR
    cases e : atF s 45 with
    | false => exact ⟨[], Or.inl rfl, rfl, rfl⟩
    | true =>
      obtain ⟨c, r, e1, e2⟩ := atF_ex e
      have : c = 45 := u_eq e2
      subst this
      exact ⟨[45], Or.inr rfl, by rw [if_pos rfl, L_tl, e1]; rfl, rfl⟩
  unfold rdNumber at h
  simp only [] at h
  rw [hg] at h
  have hw := L_tak dgP (atR s 45)
  have hd := L_drp dgP (atR s 45)
  have hsp := span_split (fun c : UInt8 => dgP c.toNat) (L (atR s 45))
  have hall := tak_all dgP (atR s 45)
  rw [← hw, ← hd] at hsp
  generalize takB dgP (atR s 45) = w at *
  generalize drpB dgP (atR s 45) = s2 at *
  by_cases hw0 : w.size = 0
  · rw [if_pos hw0] at h; cases h
  · rw [if_neg hw0] at h
    have hwn : L w ≠ [] := by rw [size_L] at hw0; intro e; rw [e] at hw0; exact hw0 rfl
    cases e : atF s2 46 with
    | true =>
      rw [e, if_pos rfl] at h
      obtain ⟨c, r, e1, e2⟩ := atF_ex e
      have : c = 46 := u_eq e2
      subst this
      have hw2 := L_tak dgP (tl s2)
      have hd2 := L_drp dgP (tl s2)
      have hsp2 := span_split (fun c : UInt8 => dgP c.toNat) (L (tl s2))
      have hall2 := tak_all dgP (tl s2)
      rw [← hw2, ← hd2] at hsp2
      have et : L (tl s2) = r := by rw [L_tl, e1]; rfl
      generalize takB dgP (tl s2) = p at *
      generalize drpB dgP (tl s2) = s3 at *
      by_cases hb : w.size > 12 ∨ p.size = 0 ∨ p.size > 3
      · rw [if_pos hb] at h; cases h
      · rw [if_neg hb] at h
        obtain ⟨rfl, rfl⟩ := Prod.mk.inj (Option.some.inj h)
        simp only [size_L] at hb
        refine ⟨sg ++ (L w ++ 46 :: L p), ?_, ?_⟩
        · rw [hs, ← hsp, e1, ← et, ← hsp2]; simp
        · have := VT.dec sg (L w) (L p) h0 hwn hall (by omega) (by intro k; rw [k] at hb; exact hb (Or.inr (Or.inl rfl))) hall2 (by omega)
          rw [numV_L, L_app, L_app, zer_L, size_L]
          exact this
    | false =>
      rw [e, if_neg (by decide)] at h
      by_cases hb : w.size > 15
      · rw [if_pos hb] at h; cases h
      · rw [if_neg hb] at h
        obtain ⟨rfl, rfl⟩ := Prod.mk.inj (Option.some.inj h)
        rw [size_L] at hb
        exact ⟨sg ++ L w, by rw [hs, ← hsp]; simp, VT.int sg (L w) h0 hwn hall (by omega)⟩
theorem le_tok (c : UInt8) (h : leP c.toNat = true ∨ (c.toNat : Int) = 42) : toU c = true := by
  have := allU (fun c : UInt8 => !(leP c.toNat || decide ((c.toNat : Int) = 42)) || toU c) (by decide +kernel) c
  simp only [Bool.or_eq_true, Bool.not_eq_true', Bool.or_eq_false_iff, decide_eq_false_iff_not] at this
  rcases this with ⟨a, b⟩ | a
  · rcases h with h | h
    · rw [h] at a; cases a
    · exact absurd h b
  · exact a
theorem value_inv {s t : ByteArray} {v : Int × Int × ByteArray} (h : rdValue s = some (v, t)) : ∃ u, L s = u ++ L t ∧ VT u v.1 v.2.1 (L v.2.2) := by
  unfold rdValue at h
  by_cases h0 : 0 < s.size
  · rw [if_pos h0] at h
    obtain ⟨c, r, e⟩ := cons_of s h0
    have et : L (tl s) = r := by rw [L_tl, e]; rfl
    rw [bt0 e] at h
    by_cases c1 : (c.toNat : Int) = 45 ∨ dgP c.toNat = true
    · rw [if_pos c1] at h; exact number_inv h
    rw [if_neg c1] at h
    by_cases c2 : leP c.toNat = true ∨ (c.toNat : Int) = 42
    · rw [if_pos c2] at h
      obtain ⟨rfl, rfl⟩ := Prod.mk.inj (Option.some.inj h)
      have hw := L_tak tokP s
      have hd := L_drp tokP s
      have hsp := span_split (fun c : UInt8 => tokP c.toNat) (L s)
      rw [← hw, ← hd] at hsp
      refine ⟨L (takB tokP s), hsp.symm, ?_⟩
      have hc : L (takB tokP s) = c :: r.takeWhile (fun c => tokP c.toNat) := by
        rw [hw, e, List.takeWhile_cons, show tokP c.toNat = true from le_tok c c2]; simp
      have hall : ∀ x ∈ L (takB tokP s), toU x = true := tak_all tokP s
      show VT (L (takB tokP s)) 4 0 (L (takB tokP s))
      rw [hc] at hall ⊢
      exact VT.tok c _ c2 hall
    rw [if_neg c2] at h
    by_cases c3 : (c.toNat : Int) = 34
    · rw [if_pos c3] at h
      have : c = 34 := u_eq c3
      subst this
      obtain ⟨q, a1, a2, a3, a4⟩ := quoted_inv h
      refine ⟨34 :: q, by rw [e, ← et, a1]; rfl, ?_⟩
      rw [a3, a4]; exact VT.quo q _ a2
    rw [if_neg c3] at h
    by_cases c4 : (c.toNat : Int) = 58
    · rw [if_pos c4] at h
      have : c = 58 := u_eq c4
      subst this
      unfold rdBytes at h
      have hw := L_tak baP (tl s)
      have hd := L_drp baP (tl s)
      have hsp := span_split (fun c : UInt8 => baP c.toNat) (L (tl s))
      have hall : ∀ x ∈ L (takB baP (tl s)), baU x = true := tak_all baP (tl s)
      rw [← hw, ← hd] at hsp
      cases e5 : atF (drpB baP (tl s)) 58 with
      | false => rw [e5, if_neg (by decide)] at h; cases h
      | true =>
        rw [e5, if_pos rfl] at h
        obtain ⟨rfl, rfl⟩ := Prod.mk.inj (Option.some.inj h)
        obtain ⟨c', r', f1, f2⟩ := atF_ex e5
        have : c' = 58 := u_eq f2
        subst this
        refine ⟨58 :: (L (takB baP (tl s)) ++ [58]), ?_, VT.byt _ hall⟩
        rw [L_tl, f1, e, ← et, ← hsp, f1]; simp
    rw [if_neg c4] at h
    by_cases c5 : (c.toNat : Int) = 63
    · rw [if_pos c5] at h
      have : c = 63 := u_eq c5
      subst this
      unfold rdBool at h
      cases e5 : atF (tl s) 49 with
      | true =>
        rw [e5, if_pos rfl] at h
        obtain ⟨rfl, rfl⟩ := Prod.mk.inj (Option.some.inj h)
        obtain ⟨c', r', f1, f2⟩ := atF_ex e5
        have : c' = 49 := u_eq f2
        subst this
        exact ⟨[63, 49], by rw [L_tl, f1, e, ← et, f1]; rfl, VT.one⟩
      | false =>
        rw [e5, if_neg (by decide)] at h
        cases e6 : atF (tl s) 48 with
        | true =>
          rw [e6, if_pos rfl] at h
          obtain ⟨rfl, rfl⟩ := Prod.mk.inj (Option.some.inj h)
          obtain ⟨c', r', f1, f2⟩ := atF_ex e6
          have : c' = 48 := u_eq f2
          subst this
          exact ⟨[63, 48], by rw [L_tl, f1, e, ← et, f1]; rfl, VT.zero⟩
        | false => rw [e6, if_neg (by decide)] at h; cases h
    · rw [if_neg c5] at h; cases h
  · rw [if_neg h0] at h; cases h
theorem key_first (c : UInt8) (h : smP c.toNat = true ∨ (c.toNat : Int) = 42) : keU c = true ∧ c ≠ 32 := by
  have := allU (fun c : UInt8 => !(smP c.toNat || decide ((c.toNat : Int) = 42)) || (keU c && !decide (c = 32))) (by decide +kernel) c
  simp only [Bool.or_eq_true, Bool.not_eq_true', Bool.or_eq_false_iff, decide_eq_false_iff_not, Bool.and_eq_true] at this
  rcases this with ⟨a, b⟩ | a
  · rcases h with h | h
    · rw [h] at a; cases a
    · exact absurd h b
  · exact a
theorem key_inv {s k t : ByteArray} (h : rdKey s = some (k, t)) : L s = L k ++ L t ∧ KT (L k) := by
  unfold rdKey at h
  by_cases h0 : 0 < s.size ∧ (smP (bt s 0) = true ∨ bt s 0 = 42)
  · rw [if_pos h0] at h
    obtain ⟨rfl, rfl⟩ := Prod.mk.inj (Option.some.inj h)
    obtain ⟨c, r, e⟩ := cons_of s h0.1
    have h1 := h0.2
    rw [bt0 e] at h1
    have hw := L_tak keP s
    have hd := L_drp keP s
    have hsp := span_split (fun c : UInt8 => keP c.toNat) (L s)
    rw [← hw, ← hd] at hsp
    have hall : ∀ x ∈ L (takB keP s), keU x = true := tak_all keP s
    refine ⟨hsp.symm, c, r.takeWhile (fun c => keP c.toNat), ?_, h1, hall⟩
    rw [hw, e, List.takeWhile_cons, show keP c.toNat = true from (key_first c h1).1]; simp
  · rw [if_neg h0] at h; cases h
/-- What text turns what parameters to what. -/
inductive PT : List UInt8 → List S61 → List S61 → Prop
  | nil (l : List S61) : PT [] l l
  | flag (b k u : List UInt8) (l l1 : List S61) (hb : ∀ c ∈ b, c = 32) (hk : KT k) (h : PT u (withP (B k) l ⟨B k, 6, 1, ⟨#[]⟩⟩) l1) : PT (59 :: (b ++ (k ++ u))) l l1
  | val (b k w u : List UInt8) (n i : Int) (t : List UInt8) (l l1 : List S61) (hb : ∀ c ∈ b, c = 32) (hk : KT k) (hv : VT w n i t) (h : PT u (withP (B k) l ⟨B k, n, i, B t⟩) l1) : PT (59 :: (b ++ (k ++ (61 :: (w ++ u))))) l l1
theorem PT.ends {u : List UInt8} {l l1 : List S61} (h : PT u l l1) : Ends u := by
  cases h with
  | nil => exact Ends.nil
  | flag => exact Ends.semi _
  | val => exact Ends.semi _
theorem all_of_take {q : UInt8 → Bool} (l : List UInt8) : ∀ c ∈ l.takeWhile q, q c = true := fun c hc => mem_takeWhile q l c hc
theorem pt_inv : ∀ (d : Nat) (s : ByteArray) (l l1 : List S61) (t : ByteArray), pF d s l = some (l1, t) → ∃ u, L s = u ++ L t ∧ PT u l l1 ∧ atF t 59 = false
  | 0, s, l, l1, t, h => by rw [pF] at h; cases h
  | d + 1, s, l, l1, t, h => by
    rw [pF] at h
    cases e : atF s 59 with
    | false =>
      rw [e, if_neg (by decide)] at h
      obtain ⟨rfl, rfl⟩ := Prod.mk.inj (Option.some.inj h)
      exact ⟨[], rfl, PT.nil _, e⟩
    | true =>
      rw [e, if_pos rfl] at h
      obtain ⟨c, r, e1, e2⟩ := atF_ex e
      have : c = 59 := u_eq e2
      subst this
      have et : L (tl s) = r := by rw [L_tl, e1]; rfl
      obtain ⟨⟨k, t1⟩, hk, h⟩ := Option.bind_eq_some_iff.1 h
      simp only [] at h
      obtain ⟨a1, a2⟩ := key_inv hk
      have hsp := span_split (fun c : UInt8 => spP c.toNat) (L (tl s))
      rw [← L_drp spP (tl s), a1] at hsp
      have hb : ∀ c ∈ (L (tl s)).takeWhile (fun c : UInt8 => spP c.toNat), c = 32 := by
        intro c hc
        have := all_of_take (q := fun c : UInt8 => spP c.toNat) (L (tl s)) c hc
        unfold spP at this
        exact u_eq (beq_iff_eq.1 this)
      generalize List.takeWhile (fun c : UInt8 => spP c.toNat) (L (tl s)) = bl at hsp hb
      cases e3 : atF t1 61 with
      | true =>
        rw [e3, if_pos rfl] at h
        obtain ⟨⟨v, t2⟩, hv, h⟩ := Option.bind_eq_some_iff.1 h
        obtain ⟨c', r', f1, f2⟩ := atF_ex e3
        have : c' = 61 := u_eq f2
        subst this
        have et1 : L (tl t1) = r' := by rw [L_tl, f1]; rfl
        obtain ⟨w, b1, b2⟩ := value_inv hv
        obtain ⟨u, g1, g2, g3⟩ := pt_inv d _ _ _ _ h
        simp only [] at g1 g2
        refine ⟨59 :: (bl ++ (L k ++ (61 :: (w ++ u)))), ?_, PT.val _ _ w u v.1 v.2.1 (L v.2.2) _ _ hb a2 b2 (by rw [B_L, B_L]; exact g2), g3⟩
        rw [e1, ← et, ← hsp, f1, ← et1, b1, g1]
        simp
      | false =>
        rw [e3, if_neg (by decide)] at h
        obtain ⟨u, g1, g2, g3⟩ := pt_inv d _ _ _ _ h
        refine ⟨59 :: (bl ++ (L k ++ u)), ?_, PT.flag _ _ u _ _ hb a2 (by rw [B_L]; exact g2), g3⟩
        rw [e1, ← et, ← hsp, g1]
        simp
/-- What text tells what item. -/
def IT (u : List UInt8) (n i : Int) (t : List UInt8) (l : List S61) : Prop := ∃ a b, u = a ++ b ∧ VT a n i t ∧ PT b [] l
theorem next_inv {s : ByteArray} {v : Int × Int × ByteArray} {l : List S61} {t : ByteArray} (h : rdNext s = some (v, l, t)) : ∃ u, L s = u ++ L t ∧ IT u v.1 v.2.1 (L v.2.2) l ∧ atF t 59 = false := by
  unfold rdNext at h
  obtain ⟨⟨v', t1⟩, h1, h⟩ := Option.bind_eq_some_iff.1 h
  obtain ⟨⟨l', t2⟩, h2, h⟩ := Option.bind_eq_some_iff.1 h
  have h := Option.some.inj h
  simp only [Prod.mk.injEq] at h
  obtain ⟨rfl, rfl, rfl⟩ := h
  obtain ⟨a, a1, a2⟩ := value_inv h1
  obtain ⟨b, b1, b2, b3⟩ := pt_inv _ _ _ _ _ h2
  exact ⟨a ++ b, by rw [a1, b1]; simp, ⟨a, b, rfl, a2, b2⟩, b3⟩
theorem trim_len (u : List UInt8) : (Lib.trimB u 32).length ≤ u.length := by
  unfold Lib.trimB Lib.trimLeftB Lib.trimRightB
  have h1 := (List.dropWhile_sublist (fun c : UInt8 => c == 32) (l := (u.reverse.dropWhile (· == 32)).reverse)).length_le
  have h2 := (List.dropWhile_sublist (fun c : UInt8 => c == 32) (l := u.reverse)).length_le
  simp only [List.length_reverse] at h1 h2
  omega
theorem parse_inv {s : ByteArray} {n i : Int} {t : ByteArray} {l : List S61} (h : sfitem_Parse.f s = some (n, i, t, l, 0)) : ∃ u, IT u n i (L t) l ∧ u.length ≤ s.size ∧ s.size ≤ 4000 := by
  unfold sfitem_Parse.f strings_Trim.f at h
  by_cases hz : (⟨#[32]⟩ : ByteArray) = ⟨#[32]⟩ ∧ s.size ≤ 9223372036854775807
  · rw [if_pos hz] at h
    simp only [Option.bind_some] at h
    unfold sfitem_Next.f at h
    by_cases hy : (trimSp s).size ≤ 2199023255552
    · rw [if_pos hy] at h
      cases hn : rdNext (trimSp s) with
      | none => rw [hn] at h; simp at h
      | some x =>
        obtain ⟨v, l', t'⟩ := x
        rw [hn] at h
        simp only [Option.bind_some] at h
        rw [if_pos trivial] at h
        by_cases ht : t'.toList = ([] : List UInt8)
        · rw [if_pos ht] at h
          by_cases h4 : (s.size : Int) > 4000
          · rw [if_pos h4] at h; simp at h
          · rw [if_neg h4] at h
            have h := Option.some.inj h
            simp only [Prod.mk.injEq] at h
            obtain ⟨rfl, rfl, rfl, rfl, _⟩ := h
            obtain ⟨u, a1, a2, a3⟩ := next_inv hn
            have ht' : L t' = [] := by rw [← ht]; exact (Lib.toList_data t').symm
            rw [ht', List.append_nil] at a1
            have : L (trimSp s) = Lib.trimB (L s) 32 := by unfold trimSp L; simp
            refine ⟨u, a2, ?_, by omega⟩
            have k := trim_len (L s)
            rw [← this, a1, ← size_L] at k
            exact k
        · rw [if_neg ht] at h; simp at h
    · rw [if_neg hy] at h; simp at h
  · exact absurd h (by rw [if_neg hz]; simp)
end Go.Proofs.YtciigmlibnpeeaaGreatDoor.Pl
/- What ends: for all rounds from some number on, a function with rounds gives one answer. -/
namespace Go.Proofs.YtciigmlibnpeeaaGreatDoor.Pl
set_option linter.unusedVariables false
set_option linter.unusedSimpArgs false
open Go.RowKit
def Evn {α : Type} (g : Nat → Option α) (r : α) : Prop := ∃ K, ∀ k, K ≤ k → g k = some r
theorem Evn.ret {α : Type} {x : Option α} {r : α} (h : x = some r) : Evn (fun _ => x) r := ⟨0, fun _ _ => h⟩
theorem Evn.some {α : Type} (r : α) : Evn (fun _ => some r) r := ⟨0, fun _ _ => rfl⟩
theorem Evn.bind {α β : Type} {g : Nat → Option α} {f : Nat → α → Option β} {a : α} {r : β} (hg : Evn g a) (hf : Evn (fun k => f k a) r) : Evn (fun k => (g k).bind (f k)) r := by
  obtain ⟨K, h⟩ := hg
  obtain ⟨L, h'⟩ := hf
  refine ⟨max K L, fun k hk => ?_⟩
  show (g k).bind (f k) = _
  rw [h k (by omega)]
  exact h' k (by omega)
theorem Evn.succ {α : Type} {g : Nat → Option α} {r : α} (h : Evn (fun k => g (k + 1)) r) : Evn g r := by
  obtain ⟨K, h⟩ := h
  refine ⟨K + 1, fun k hk => ?_⟩
  have h1 : g (k - 1 + 1) = Option.some r := h (k - 1) (by omega)
  rwa [Nat.sub_add_cancel (by omega)] at h1
theorem Evn.congr {α : Type} {g g' : Nat → Option α} {r : α} (h : Evn g' r) (e : ∀ k, g k = g' k) : Evn g r := by
  obtain ⟨K, h⟩ := h
  exact ⟨K, fun k hk => (e k).trans (h k hk)⟩
theorem Evn.ex {α : Type} {g : Nat → Option α} {r : α} (h : Evn g r) : ∃ k, g k = Option.some r := by
  obtain ⟨K, h⟩ := h
  exact ⟨K, h K (Nat.le_refl _)⟩
theorem Evn.iff_pos {α : Type} {c : Prop} [Decidable c] {a b : Nat → Option α} {r : α} (hc : c) (h : Evn a r) : Evn (fun k => if c then a k else b k) r := h.congr fun k => if_pos hc
theorem Evn.iff_neg {α : Type} {c : Prop} [Decidable c] {a b : Nat → Option α} {r : α} (hc : ¬ c) (h : Evn b r) : Evn (fun k => if c then a k else b k) r := h.congr fun k => if_neg hc
theorem wr64 {x : Int} (h0 : -9223372036854775808 ≤ x) (h1 : x ≤ 9223372036854775807) : wrap64 x = x := IntWalk.wrap64_in x ⟨h0, h1⟩
end Go.Proofs.YtciigmlibnpeeaaGreatDoor.Pl
/- A trimmed text is no longer than it was (for a seat without headers.Parts). -/
namespace Go.Proofs.YtciigmlibnpeeaaGreatDoor.Pl
set_option linter.unusedVariables false
set_option linter.unusedSimpArgs false
open Go.RowKit Go.Proofs.YtciigmlibnpeeaaGreatDoor.Q Go.Proofs.YtciigmlibnpeeaaGreatDoorW.PrintWords Go.Proofs.YtciigmlibnpeeaaGreatDoorW.PrintLast
theorem trimBA_len (s : ByteArray) : (trimBA s).size ≤ s.size := by
  show (Lib.trimS s.data.toList [9, 10, 12, 13, 32]).toArray.size ≤ s.data.size
  unfold Lib.trimS Lib.trimLeftS Lib.trimRightS
  rw [List.size_toArray, ← Array.length_toList]
  refine Nat.le_trans (List.dropWhile_sublist _).length_le ?_
  rw [List.length_reverse]
  refine Nat.le_trans (List.dropWhile_sublist _).length_le ?_
  rw [List.length_reverse]
  exact Nat.le_refl _
end Go.Proofs.YtciigmlibnpeeaaGreatDoor.Pl
/- Making small and trimming, of texts that are not too long. -/
namespace Go.Proofs.YtciigmlibnpeeaaGreatDoor.Pl
set_option linter.unusedVariables false
set_option linter.unusedSimpArgs false
open Go.RowKit Go.Proofs.YtciigmlibnpeeaaGreatDoor.Q Go.Proofs.YtciigmlibnpeeaaGreatDoorW.PrintWords Go.Proofs.YtciigmlibnpeeaaGreatDoorW.PrintLast
theorem lower_f (s : ByteArray) (h : s.size ≤ 281474976710656) : octet_Lower.f s = some (lowBA s) := if_pos h
theorem trim_f (s : ByteArray) (h : s.size ≤ 281474976710656) : octet_Trim.f s = some (trimBA s) := if_pos h
theorem trim_size (s : ByteArray) : (trimBA s).size ≤ s.size := trimBA_len s
/-- A list of headers at an index. -/
theorem rd_hdr (l : List S35) (i : Nat) (h : i < l.length) : rd_T35 l (i : Int) = l[i] := by simp [rd_T35, List.getD_eq_getElem?_getD, List.getElem?_eq_getElem h]
end Go.Proofs.YtciigmlibnpeeaaGreatDoor.Pl
/- Heads of few and short lines; a name's values; all of them together. -/
namespace Go.Proofs.YtciigmlibnpeeaaGreatDoor.Pl
set_option linter.unusedVariables false
set_option linter.unusedSimpArgs false
open Go.RowKit Go.Proofs.YtciigmlibnpeeaaGreatDoor.Q Go.Proofs.YtciigmlibnpeeaaGreatDoorW.PrintWords Go.Proofs.YtciigmlibnpeeaaGreatDoorW.PrintLast
/-- A head that both answers can bear: at most so many lines, of at most so many bytes. -/
def Small (l : List S35) (n m : Nat) : Prop := l.length ≤ n ∧ ∀ h ∈ l, h.f0.size ≤ 281474976710656 ∧ h.f1.size ≤ m
theorem hdrsB_small {l : List S35} {n m : Nat} (h : Small l n m) (hn : n ≤ 4398046511000) (hm : m ≤ 281474976710656) (name : ByteArray) (hz : name.size ≤ 281474976710656) : hdrsB l name = true := by
  unfold hdrsB
  simp only [Bool.and_eq_true, decide_eq_true_eq, List.all_eq_true]
  refine ⟨⟨hz, Nat.le_trans h.1 hn⟩, fun x hx => ⟨(h.2 x hx).1, Nat.le_trans (h.2 x hx).2 hm⟩⟩
theorem vals_mem {l : List S35} {name v : ByteArray} (h : v ∈ valsOf l name) : ∃ x ∈ l, v = trimBA x.f1 := by
  unfold valsOf at h
  obtain ⟨x, hx, rfl⟩ := List.mem_map.1 h
  exact ⟨x, (List.mem_filter.1 hx).1, rfl⟩
theorem vals_small {l : List S35} {n m : Nat} (h : Small l n m) (name v : ByteArray) (hv : v ∈ valsOf l name) : v.size ≤ m := by
  obtain ⟨x, hx, rfl⟩ := vals_mem hv
  exact Nat.le_trans (trim_size _) (h.2 x hx).2
theorem values_f {l : List S35} {n m : Nat} (h : Small l n m) (hn : n ≤ 4398046511000) (hm : m ≤ 281474976710656) (name : ByteArray) (hz : name.size ≤ 281474976710656) : headers_Values.f l name = some (valsOf l name) := if_pos (hdrsB_small h hn hm name hz)
theorem inter_cons (sep a b : List UInt8) (l : List (List UInt8)) : sep.intercalate (a :: b :: l) = a ++ sep ++ sep.intercalate (b :: l) := by
  simp [List.intercalate, List.intersperse]
theorem inter_one (sep a : List UInt8) : sep.intercalate [a] = a := by
  simp [List.intercalate, List.intersperse]
theorem inter_snoc (sep x : List UInt8) : ∀ l : List (List UInt8), l ≠ [] → sep.intercalate (l ++ [x]) = sep.intercalate l ++ sep ++ x
  | [], h => absurd rfl h
  | [a], _ => by
    show sep.intercalate [a, x] = _
    rw [inter_cons, inter_one, inter_one]
  | a :: b :: l, _ => by
    show sep.intercalate (a :: b :: (l ++ [x])) = _
    rw [inter_cons, inter_cons]
    have := inter_snoc sep x (b :: l) (by simp)
    rw [List.cons_append] at this
    rw [this]
    simp
theorem ba_append (s t : ByteArray) : (s ++ t).data.toList = s.data.toList ++ t.data.toList := by simp
theorem join_nil (sep : ByteArray) : joinBA [] sep = ⟨#[]⟩ := rfl
theorem join_snoc (l : List ByteArray) (x sep : ByteArray) : joinBA (l ++ [x]) sep = if l = [] then x else (joinBA l sep ++ sep) ++ x := by
  apply ByteArray.ext
  apply Array.toList_inj.1
  split
  · rename_i h
    subst h
    unfold joinBA Lib.join
    simp only [List.nil_append, List.map_cons, List.map_nil]
    rw [inter_one]
  · rename_i h
    rw [ba_append, ba_append]
    unfold joinBA Lib.join
    simp only [List.map_append, List.map_cons, List.map_nil]
    rw [inter_snoc _ _ _ (by simpa using h)]
theorem join_size (l : List ByteArray) (sep : ByteArray) (m : Nat) (h : ∀ x ∈ l, x.size ≤ m) : (joinBA l sep).size ≤ l.length * (m + sep.size) := by
  suffices hh : ∀ r : List ByteArray, (∀ x ∈ r, x.size ≤ m) → (joinBA r.reverse sep).size ≤ r.length * (m + sep.size) by
    have := hh l.reverse (by simpa using h)
    rwa [List.reverse_reverse, List.length_reverse] at this
  intro r
  induction r with
  | nil => intro _; exact Nat.zero_le _
  | cons x r ih =>
    intro hr
    have h1 := ih (fun y hy => hr y (List.mem_cons_of_mem _ hy))
    have h2 := hr x List.mem_cons_self
    rw [List.reverse_cons, join_snoc, List.length_cons, Nat.succ_mul]
    split
    · omega
    · simp only [ByteArray.size_append]
      omega
def comSp : ByteArray := ⟨#[44, 32]⟩
theorem combined_f {l : List S35} {n m : Nat} (h : Small l n m) (hn : n ≤ 1000000) (hm : m ≤ 1000000) (name : ByteArray) (hz : name.size ≤ 281474976710656) :
    headers_Combined.f l name = some (joinBA (valsOf l name) comSp, decide (((valsOf l name).length : Int) > 0)) := by
  unfold headers_Combined.f
  rw [values_f h (by omega) (by omega) name hz]
  simp only [Option.bind_some]
  have h1 := join_size (valsOf l name) comSp m (fun x hx => vals_small h name x hx)
  have h2 := valsOf_len l name
  have h3 := h.1
  have h4 : (valsOf l name).length * (m + comSp.size) ≤ 1000000 * 1000002 := Nat.mul_le_mul (by omega) (by show m + 2 ≤ 1000002; omega)
  have h5 : strings_Join.f (valsOf l name) (⟨#[44, 32]⟩ : ByteArray) = some (joinBA (valsOf l name) comSp) := if_pos ⟨by show (joinBA (valsOf l name) comSp).size ≤ 140737488355328; omega, by omega⟩
  rw [h5]
  rfl
end Go.Proofs.YtciigmlibnpeeaaGreatDoor.Pl
/- Chapter 8: a field's word, out of a head; heads of the same lines of a name; what is but reported. -/
namespace Go.Proofs.YtciigmlibnpeeaaGreatDoor.Pl
set_option linter.unusedVariables false
set_option linter.unusedSimpArgs false
open Go.RowKit Go.Proofs.YtciigmlibnpeeaaGreatDoor.Q Go.Proofs.YtciigmlibnpeeaaGreatDoor.Sf Go.Proofs.YtciigmlibnpeeaaGreatDoorW.PrintWords Go.Proofs.YtciigmlibnpeeaaGreatDoorW.PrintLast
theorem parse_all (s : ByteArray) (h : s.size ≤ 2199023255552) : ∃ y, sfitem_Parse.f s = some y := by
  unfold sfitem_Parse.f strings_Trim.f
  rw [if_pos ⟨rfl, by omega⟩]
  simp only [Option.bind_some]
  have hz : (trimSp s).size ≤ s.size := by
    have : L (trimSp s) = Lib.trimB (L s) 32 := by unfold trimSp L; simp
    rw [size_L, size_L, this]; exact trim_len _
  unfold sfitem_Next.f
  rw [if_pos (by omega)]
  cases rdNext (trimSp s) with
  | none => exact ⟨_, rfl⟩
  | some x =>
    obtain ⟨v, l, t⟩ := x
    simp only [Option.bind_some]
    rw [if_pos trivial]
    split
    · split
      · exact ⟨_, rfl⟩
      · exact ⟨_, rfl⟩
    · exact ⟨_, rfl⟩
theorem pt_cnt {u : List UInt8} {l l1 : List S61} (h : PT u l l1) : l1.length ≤ l.length + u.length := by
  induction h with
  | nil => simp
  | flag b k u l l1 hb hk h ih =>
    have := withP_len (B k) l ⟨B k, 6, 1, ⟨#[]⟩⟩
    simp only [List.length_cons, List.length_append]; omega
  | val b k w u n i t l l1 hb hk hv h ih =>
    have := withP_len (B k) l ⟨B k, n, i, B t⟩
    simp only [List.length_cons, List.length_append]; omega
theorem vt_tok {u : List UInt8} {n i : Int} {t : List UInt8} (h : VT u n i t) (hn : n = 4) : t = u := by
  cases h <;> first | rfl | cases hn
theorem read_size {s : ByteArray} {i : Int} {t : ByteArray} {ps : List S61} (h : sfitem_Parse.f s = some (4, i, t, ps, 0)) : t.size ≤ 4000 ∧ ps.length ≤ 4000 := by
  obtain ⟨u, ⟨a, b, rfl, hv, hp⟩, h2, h3⟩ := parse_inv h
  have h4 := vt_tok hv rfl
  have h5 := pt_cnt hp
  rw [List.length_append] at h2
  rw [size_L, h4]
  simp only [List.length_nil] at h5
  exact ⟨by omega, by omega⟩
theorem readF_some {l : List S35} (h : Small l 1000 5000) (name : ByteArray) (hz : name.size ≤ 281474976710656) :
    ∃ p q, readF l name = some (p, q) ∧ p.size ≤ 4000 := by
  have hj := join_size (valsOf l name) comSp 5000 (fun x hx => vals_small h name x hx)
  have hl := valsOf_len l name
  have h1 := h.1
  have hb : (valsOf l name).length * (5000 + comSp.size) ≤ 1000 * 5002 := Nat.mul_le_mul (by omega) (Nat.le_refl _)
  obtain ⟨⟨kd, iv, tx, ps, e⟩, hp⟩ := parse_all (joinBA (valsOf l name) comSp) (by omega)
  unfold readF
  rw [combined_f h (by omega) (by omega) name hz]
  simp only [Option.bind_some]
  rw [hp]
  simp only [Option.bind_some]
  split
  · rename_i hc
    obtain ⟨-, h0, h4⟩ := hc
    subst h0 h4
    obtain ⟨z1, z2⟩ := read_size hp
    rw [if_pos (by omega)]
    exact ⟨_, _, rfl, z1⟩
  · exact ⟨_, _, rfl, by decide⟩
theorem readF_nil {l : List S35} (h : Small l 1000 5000) (name : ByteArray) (hz : name.size ≤ 281474976710656) (e : valsOf l name = []) : readF l name = some (⟨#[]⟩, ⟨#[]⟩) := by
  unfold readF
  rw [combined_f h (by omega) (by omega) name hz, e]
  simp only [Option.bind_some]
  obtain ⟨⟨kd, iv, tx, ps, e⟩, hp⟩ := parse_all (joinBA [] comSp) (by rw [join_nil]; decide)
  rw [hp]
  simp only [Option.bind_some]
  rw [if_neg (by intro h; exact absurd h.1 (by decide))]
/-- What a field tells: its word, and where its reports go. -/
def wordOf (l : List S35) (name : ByteArray) : ByteArray × ByteArray := match readF l name with | some p => p | none => (⟨#[]⟩, ⟨#[]⟩)
theorem readF_word {l : List S35} (h : Small l 1000 5000) (name : ByteArray) (hz : name.size ≤ 281474976710656) : readF l name = some (wordOf l name) ∧ (wordOf l name).1.size ≤ 4000 := by
  obtain ⟨p, q, e, hp⟩ := readF_some h name hz
  unfold wordOf
  rw [e]
  exact ⟨rfl, hp⟩
theorem word_nil {l : List S35} (h : Small l 1000 5000) (name : ByteArray) (hz : name.size ≤ 281474976710656) (e : valsOf l name = []) : wordOf l name = (⟨#[]⟩, ⟨#[]⟩) := by
  unfold wordOf; rw [readF_nil h name hz e]
def embV (w : ByteArray) : Int := twoOf kReq kCred w
def opnV (w : ByteArray) : Int := twoOf kSame kPop w
theorem coep_f {l : List S35} (h : Small l 1000 5000) : coop_Coep.f l true = some (embV (wordOf l nCoep).1, (wordOf l nCoep).2, embV (wordOf l nCoepR).1, (wordOf l nCoepR).2) := by
  obtain ⟨e1, z1⟩ := readF_word h nCoep (by decide)
  obtain ⟨e2, z2⟩ := readF_word h nCoepR (by decide)
  unfold coop_Coep.f
  rw [if_pos rfl, e1, e2]
  simp only [Option.bind_some]
  rw [if_pos ⟨by omega, by omega⟩]
  rfl
theorem coop_f {l : List S35} (h : Small l 1000 5000) : coop_Coop.f l true = some (plusF (opnV (wordOf l nCoop).1) (isoF (embV (wordOf l nCoep).1)), (wordOf l nCoop).2, plusF (opnV (wordOf l nCoopR).1) (isoF (embV (wordOf l nCoep).1) || isoF (embV (wordOf l nCoepR).1)), (wordOf l nCoopR).2) := by
  obtain ⟨e1, z1⟩ := readF_word h nCoop (by decide)
  obtain ⟨e2, z2⟩ := readF_word h nCoopR (by decide)
  unfold coop_Coop.f
  rw [if_pos rfl, coep_f h, e1, e2]
  simp only [Option.bind_some]
  rw [if_pos ⟨by omega, by omega⟩]
  rfl
theorem coop_off (l : List S35) : coop_Coop.f l false = some (0, ⟨#[]⟩, 0, ⟨#[]⟩) := by
  unfold coop_Coop.f; rw [if_neg (by decide)]
theorem embV_nil : embV ⟨#[]⟩ = 0 := by decide
theorem opnV_nil : opnV ⟨#[]⟩ = 0 := by decide
theorem fold_f (s t : ByteArray) (hs : s.size ≤ 281474976710656) (ht : t.size ≤ 281474976710656) : octet_Fold.f s t = some (foldEq s t) := by
  unfold octet_Fold.f
  rw [lower_f s hs, lower_f t ht]
  rfl
/-- The lines that are not but reported. -/
def plainQ (h : S35) : Bool := !foldEq h.f0 nCoopR && !foldEq h.f0 nCoepR
theorem plain_l0 (l : List S35) (h : Small l 1000 5000) : ∀ (d i : Nat) (x : List S35), l.length - i = d → i ≤ l.length → x.length ≤ i → Evn (fun k => coop_Plain.l0 k x l (l.length : Int) (i : Int)) (x ++ (l.drop i).filter plainQ) := by
  have h1 := h.1
  intro d
  induction d with
  | zero =>
    intro i x hd hi hx
    obtain rfl : i = l.length := by omega
    refine Evn.succ ?_
    simp only [coop_Plain.l0]
    refine Evn.iff_neg (by omega) ?_
    rw [List.drop_length]
    simpa using Evn.some _
  | succ d ih =>
    intro i x hd hi hx
    have hlt : i < l.length := by omega
    have hz := (h.2 l[i] (List.getElem_mem hlt)).1
    refine Evn.succ ?_
    simp only [coop_Plain.l0]
    refine Evn.iff_pos (by omega) (Evn.iff_pos (by omega) (Evn.iff_pos (by omega) ?_))
    rw [rd_hdr l i hlt, List.drop_eq_getElem_cons hlt, List.filter_cons]
    generalize l[i] = h at *
    have ew : wrap64 ((i : Int) + 1) = ((i + 1 : Nat) : Int) := by rw [wr64 (by omega) (by omega)]; omega
    rw [ew]
    refine Evn.bind (Evn.ret (fold_f h.f0 nCoopR hz (by decide))) ?_
    cases e1 : foldEq h.f0 nCoopR with
    | true =>
      have : plainQ h = false := by unfold plainQ; rw [e1]; rfl
      rw [this]
      refine Evn.iff_pos rfl ?_
      exact ih (i + 1) x (by omega) (by omega) (by omega)
    | false =>
      refine Evn.iff_neg (by decide) ?_
      refine Evn.bind (Evn.ret (fold_f h.f0 nCoepR hz (by decide))) ?_
      cases e2 : foldEq h.f0 nCoepR with
      | true =>
        have : plainQ h = false := by unfold plainQ; rw [e1, e2]; rfl
        rw [this]
        refine Evn.iff_pos rfl ?_
        exact ih (i + 1) x (by omega) (by omega) (by omega)
      | false =>
        have : plainQ h = true := by unfold plainQ; rw [e1, e2]; rfl
        rw [this]
        refine Evn.iff_neg (by decide) (Evn.iff_pos (by omega) ?_)
        have := ih (i + 1) (x ++ [h]) (by omega) (by omega) (by rw [List.length_append]; simp; omega)
        simpa using this
theorem plain_f {l : List S35} (h : Small l 1000 5000) : Evn (fun k => coop_Plain.f k l) (l.filter plainQ) := by
  unfold coop_Plain.f
  have := plain_l0 l h _ 0 [] rfl (by omega) (by simp)
  simpa using this
theorem vals_none (l : List S35) (name : ByteArray) (hp : ∀ x ∈ l, foldEq x.f0 name = false) : valsOf l name = [] := by
  unfold valsOf
  rw [List.filter_eq_nil_iff.2 (fun x hx => by rw [hp x hx]; decide)]
  rfl
end Go.Proofs.YtciigmlibnpeeaaGreatDoor.Pl
/- Chapter 8: the calls whose answers the document fixes. -/
namespace Go.Proofs.YtciigmlibnpeeaaGreatDoor.Pl
set_option linter.unusedVariables false
set_option linter.unusedSimpArgs false
open Go.RowKit Go.Proofs.YtciigmlibnpeeaaGreatDoor.Q Go.Proofs.YtciigmlibnpeeaaGreatDoor.Sf Go.Proofs.YtciigmlibnpeeaaGreatDoorW.PrintWords Go.Proofs.YtciigmlibnpeeaaGreatDoorW.PrintLast
def la8 : List S35 := [⟨⟨#[67, 114, 111, 115, 115, 45, 79, 114, 105, 103, 105, 110, 45, 79, 112, 101, 110, 101, 114, 45, 80, 111, 108, 105, 99, 121]⟩, ⟨#[115, 97, 109, 101, 45, 111, 114, 105, 103, 105, 110, 59, 32, 114, 101, 112, 111, 114, 116, 45, 116, 111, 61, 34, 97, 34]⟩⟩, ⟨⟨#[99, 114, 111, 115, 115, 45, 111, 114, 105, 103, 105, 110, 45, 101, 109, 98, 101, 100, 100, 101, 114, 45, 112, 111, 108, 105, 99, 121]⟩, ⟨#[114, 101, 113, 117, 105, 114, 101, 45, 99, 111, 114, 112]⟩⟩]
def lb8 : List S35 := [⟨⟨#[99, 114, 111, 115, 115, 45, 111, 114, 105, 103, 105, 110, 45, 111, 112, 101, 110, 101, 114, 45, 112, 111, 108, 105, 99, 121]⟩, ⟨#[83, 97, 109, 101, 45, 79, 114, 105, 103, 105, 110]⟩⟩]
set_option maxRecDepth 100000 in
theorem aw8a : coop_Coop.f la8 true = some (3, ⟨#[97]⟩, 0, ⟨#[]⟩) := by kernel_rfl
set_option maxRecDepth 100000 in
theorem aw8b : coop_Coep.f la8 true = some (2, ⟨#[]⟩, 0, ⟨#[]⟩) := by kernel_rfl
set_option maxRecDepth 100000 in
theorem aw8c : coop_Coop.f lb8 true = some (0, ⟨#[]⟩, 0, ⟨#[]⟩) := by kernel_rfl
theorem la8_small : Small la8 1000 5000 := by
  refine ⟨by decide, fun x hx => ?_⟩
  unfold la8 at hx
  rcases List.mem_cons.1 hx with rfl | hx
  · exact ⟨by decide, by decide⟩
  · obtain rfl := List.mem_singleton.1 hx
    exact ⟨by decide, by decide⟩
theorem la8_plain : ((la8.filter plainQ).length : Int) == 2 := by decide +kernel
theorem nil_list : (⟨#[]⟩ : ByteArray).toList = ([] : List UInt8) := by rw [Lib.toList_data]
theorem a_list : (⟨#[97]⟩ : ByteArray).toList = ([97] : List UInt8) := by rw [Lib.toList_data]
theorem awake8 : Evn (fun k => glacislaw08_awake.f k) true := by
  unfold glacislaw08_awake.f
  refine Evn.bind (a := la8) (Evn.ret rfl) ?_
  refine Evn.bind (Evn.ret aw8a) ?_
  refine Evn.bind (Evn.ret aw8b) ?_
  refine Evn.bind (Evn.ret aw8c) ?_
  refine Evn.iff_pos (by rw [nil_list, a_list]; rfl) ?_
  refine Evn.iff_pos (by rw [nil_list]; rfl) ?_
  refine Evn.iff_pos (by rw [nil_list]; rfl) ?_
  refine Evn.bind (Evn.ret (coop_off la8)) ?_
  refine Evn.iff_pos (by rw [nil_list]; rfl) ?_
  refine Evn.bind (Evn.ret (show coop_Isolates.f 1 = some true from rfl)) ?_
  refine Evn.iff_pos rfl ?_
  refine Evn.bind (plain_f la8_small) ?_
  exact Evn.ret (by rw [la8_plain])
end Go.Proofs.YtciigmlibnpeeaaGreatDoor.Pl
/- Chapter 8: parts of a text as lists of bytes. -/
namespace Go.Proofs.YtciigmlibnpeeaaGreatDoor.Pl
set_option linter.unusedVariables false
set_option linter.unusedSimpArgs false
open Go.RowKit Go.Proofs.YtciigmlibnpeeaaGreatDoor.Q Go.Proofs.YtciigmlibnpeeaaGreatDoorW.PrintWords Go.Proofs.YtciigmlibnpeeaaGreatDoorW.PrintLast
theorem keepParts_true (l : List ByteArray) : keepParts true l = l := by
  unfold keepParts
  rw [List.filter_eq_self]
  intro x _
  simp [keepPart]
theorem cutSt_succ (p : Int → Bool) (s : ByteArray) (i : Nat) : cutSt p s (i + 1) = if p (bt s i) = true then ((cutSt p s i).1 ++ [s.extract (cutSt p s i).2 i], i + 1) else cutSt p s i := rfl
def consHead (c : UInt8) : List (List UInt8) → List (List UInt8)
  | [] => [[c]]
  | x :: xs => (c :: x) :: xs
def splitL (q : UInt8 → Bool) : List UInt8 → List (List UInt8)
  | [] => [[]]
  | c :: l => if q c = true then [] :: splitL q l else consHead c (splitL q l)
theorem splitL_ne (q : UInt8 → Bool) (l : List UInt8) : splitL q l ≠ [] := by
  cases l with
  | nil => simp [splitL]
  | cons c l =>
    unfold splitL
    split
    · simp
    · cases splitL q l <;> simp [consHead]
theorem splitL_snoc (q : UInt8 → Bool) (c : UInt8) : ∀ (l : List UInt8) (ps : List (List UInt8)) (x : List UInt8), splitL q l = ps ++ [x] →
    splitL q (l ++ [c]) = if q c = true then ps ++ [x] ++ [[]] else ps ++ [x ++ [c]]
  | [], ps, x, h => by
    have h1 : ps = [] ∧ x = [] := by
      cases ps with
      | nil => simp [splitL] at h; exact ⟨rfl, h⟩
      | cons y ys => cases ys <;> simp [splitL] at h
    obtain ⟨rfl, rfl⟩ := h1
    simp [splitL, consHead]
  | d :: l, ps, x, h => by
    simp only [List.cons_append, splitL]
    simp only [splitL] at h
    by_cases hd : q d = true
    · rw [if_pos hd] at h ⊢
      cases ps with
      | nil => simp at h; exact absurd h.2 (splitL_ne q l)
      | cons y ys =>
        simp only [List.cons_append, List.cons.injEq] at h
        obtain ⟨rfl, h⟩ := h
        rw [splitL_snoc q c l ys x h]
        split <;> simp
    · rw [if_neg hd] at h ⊢
      cases hs : splitL q l with
      | nil => exact absurd hs (splitL_ne q l)
      | cons y ys =>
        rw [hs] at h
        simp only [consHead] at h
        cases ps with
        | nil =>
          simp only [List.nil_append, List.cons.injEq] at h
          obtain ⟨rfl, rfl⟩ := h
          rw [splitL_snoc q c l [] y (by rw [hs]; rfl)]
          split <;> simp [consHead]
        | cons z zs =>
          simp only [List.cons_append, List.cons.injEq] at h
          obtain ⟨rfl, rfl⟩ := h
          rw [splitL_snoc q c l (y :: zs) x (by rw [hs]; rfl)]
          split <;> simp [consHead]
def dl (s : ByteArray) : List UInt8 := s.data.toList
theorem dl_len (s : ByteArray) : (dl s).length = s.size := data_length s
theorem bt_dl (s : ByteArray) (i : Nat) (h : i < s.size) : ∃ c, (dl s)[i]? = some c ∧ bt s i = (c.toNat : Int) := by
  have hl : i < (dl s).length := by rw [dl_len]; exact h
  refine ⟨(dl s)[i], List.getElem?_eq_getElem hl, ?_⟩
  rw [bt_nat, List.getD_eq_getElem?_getD]
  unfold dl at hl ⊢
  rw [List.getElem?_eq_getElem hl]
  rfl
/-- The parts so far and the open one are the parts of the bytes so far. -/
theorem cutSt_split (p : Int → Bool) (s : ByteArray) : ∀ i : Nat, i ≤ s.size →
    (cutSt p s i).1.map dl ++ [dl (s.extract (cutSt p s i).2 i)] = splitL (fun c => p c.toNat) ((dl s).take i) := by
  intro i
  induction i with
  | zero =>
    intro _
    simp [cutSt, splitL, dl, Lib.extract_data]
  | succ i ih =>
    intro hi
    have h := (ih (by omega)).symm
    have hle := cutSt_le p s i
    obtain ⟨c, hc, hb⟩ := bt_dl s i (by omega)
    have ht : (dl s).take (i + 1) = (dl s).take i ++ [c] := by
      rw [List.take_add_one, hc]
      rfl
    rw [ht, splitL_snoc _ c _ _ _ h, cutSt_succ, hb]
    by_cases hq : p c.toNat = true
    · rw [if_pos hq, if_pos hq]
      simp [dl, Lib.extract_data]
    · rw [if_neg hq, if_neg hq]
      congr 2
      unfold dl at hc ⊢
      rw [Lib.extract_data, Lib.extract_data]
      rw [show i + 1 - (cutSt p s i).2 = (i - (cutSt p s i).2) + 1 by omega, List.take_add_one, List.getElem?_drop, show (cutSt p s i).2 + (i - (cutSt p s i).2) = i by omega, hc]
      rfl
theorem cut_split (p : Int → Bool) (s : ByteArray) : ((cutSt p s s.size).1 ++ [s.extract (cutSt p s s.size).2 s.size]).map dl = splitL (fun c => p c.toNat) (dl s) := by
  have h := cutSt_split p s s.size (Nat.le_refl _)
  rw [List.take_of_length_le (by rw [dl_len]; exact Nat.le_refl _)] at h
  rw [← h]
  simp
theorem parts_split (p : Int → Bool) (s : ByteArray) : (cutOf p true s).map dl = splitL (fun c => p c.toNat) (dl s) := by
  unfold cutOf
  rw [keepParts_true, cut_split]
end Go.Proofs.YtciigmlibnpeeaaGreatDoor.Pl
/- Chapter 8: a token is the first part of its field's value. -/
namespace Go.Proofs.YtciigmlibnpeeaaGreatDoor.Pl
set_option linter.unusedVariables false
set_option linter.unusedSimpArgs false
open Go.RowKit Go.Proofs.YtciigmlibnpeeaaGreatDoor.Q Go.Proofs.YtciigmlibnpeeaaGreatDoor.Sf Go.Proofs.YtciigmlibnpeeaaGreatDoorW.PrintWords Go.Proofs.YtciigmlibnpeeaaGreatDoorW.PrintLast
def wsS : List UInt8 := [9, 10, 12, 13, 32]
def wsU (c : UInt8) : Bool := wsS.contains c
theorem parse_inv2 {s : ByteArray} {n i : Int} {t : ByteArray} {l : List S61} (h : sfitem_Parse.f s = some (n, i, t, l, 0)) : IT (Lib.trimB (L s) 32) n i (L t) l := by
  unfold sfitem_Parse.f strings_Trim.f at h
  by_cases hz : (⟨#[32]⟩ : ByteArray) = ⟨#[32]⟩ ∧ s.size ≤ 9223372036854775807
  · rw [if_pos hz] at h
    simp only [Option.bind_some] at h
    unfold sfitem_Next.f at h
    by_cases hy : (trimSp s).size ≤ 2199023255552
    · rw [if_pos hy] at h
      cases hn : rdNext (trimSp s) with
      | none => rw [hn] at h; simp at h
      | some x =>
        obtain ⟨v, l', t'⟩ := x
        rw [hn] at h
        simp only [Option.bind_some] at h
        rw [if_pos trivial] at h
        by_cases ht : t'.toList = ([] : List UInt8)
        · rw [if_pos ht] at h
          by_cases h4 : (s.size : Int) > 4000
          · rw [if_pos h4] at h; simp at h
          · rw [if_neg h4] at h
            have h := Option.some.inj h
            simp only [Prod.mk.injEq] at h
            obtain ⟨rfl, rfl, rfl, rfl, _⟩ := h
            obtain ⟨u, a1, a2, a3⟩ := next_inv hn
            have ht' : L t' = [] := by rw [← ht]; exact (Lib.toList_data t').symm
            rw [ht', List.append_nil] at a1
            have : L (trimSp s) = Lib.trimB (L s) 32 := by unfold trimSp L; simp
            rw [← this, a1]
            exact a2
        · rw [if_neg ht] at h; simp at h
    · rw [if_neg hy] at h; simp at h
  · exact absurd h (by rw [if_neg hz]; simp)
theorem takeW_mem {α : Type} (f : α → Bool) : ∀ (l : List α) (c : α), c ∈ l.takeWhile f → f c = true
  | [], c, h => by cases h
  | x :: l, c, h => by
    by_cases hx : f x = true
    · rw [List.takeWhile_cons_of_pos hx] at h
      rcases List.mem_cons.1 h with rfl | h
      · exact hx
      · exact takeW_mem f l c h
    · rw [List.takeWhile_cons_of_neg hx] at h; cases h
/-- What is dropped at both ends. -/
theorem drops_two {α : Type} (f g : α → Bool) (u : List α) : ∃ p q, u = p ++ ((u.reverse.dropWhile f).reverse).dropWhile g ++ q ∧ (∀ c ∈ p, g c = true) ∧ (∀ c ∈ q, f c = true) := by
  refine ⟨((u.reverse.dropWhile f).reverse).takeWhile g, (u.reverse.takeWhile f).reverse, ?_, fun c hc => ?_, fun c hc => ?_⟩
  · rw [List.takeWhile_append_dropWhile, ← List.reverse_append, List.takeWhile_append_dropWhile, List.reverse_reverse]
  · exact takeW_mem _ _ _ hc
  · exact takeW_mem _ _ _ (List.mem_reverse.1 hc)
theorem takeW_all {α : Type} (f : α → Bool) : ∀ (l : List α), (∀ c ∈ l, f c = true) → ∀ r, (l ++ r).takeWhile f = l ++ r.takeWhile f
  | [], _, r => rfl
  | c :: l, h, r => by
    rw [List.cons_append, List.takeWhile_cons_of_pos (h c List.mem_cons_self), takeW_all f l (fun x hx => h x (List.mem_cons_of_mem _ hx)) r]
    rfl
theorem dropW_all {α : Type} (f : α → Bool) : ∀ (l : List α), (∀ c ∈ l, f c = true) → ∀ r, (l ++ r).dropWhile f = r.dropWhile f
  | [], _, r => rfl
  | c :: l, h, r => by
    rw [List.cons_append, List.dropWhile_cons_of_pos (h c List.mem_cons_self), dropW_all f l (fun x hx => h x (List.mem_cons_of_mem _ hx)) r]
theorem dropW_none {α : Type} (f : α → Bool) (l : List α) (h : ∀ c ∈ l, f c = false) (hn : l ≠ []) (r : List α) : (l ++ r).dropWhile f = l ++ r := by
  cases l with
  | nil => exact absurd rfl hn
  | cons c l => rw [List.cons_append, List.dropWhile_cons_of_neg (by rw [h c List.mem_cons_self]; decide)]
theorem trim_mid (p t q : List UInt8) (hp : ∀ c ∈ p, wsU c = true) (hq : ∀ c ∈ q, wsU c = true) (ht : ∀ c ∈ t, wsU c = false) (hn : t ≠ []) : Lib.trimS (p ++ t ++ q) wsS = t := by
  unfold Lib.trimS Lib.trimLeftS Lib.trimRightS
  show List.dropWhile wsU (List.reverse (List.dropWhile wsU (List.reverse (p ++ t ++ q)))) = t
  rw [List.reverse_append, dropW_all wsU _ (fun c hc => hq c (List.mem_reverse.1 hc)), List.reverse_append, dropW_none wsU t.reverse (fun c hc => ht c (List.mem_reverse.1 hc)) (by simpa using hn), List.reverse_append, List.reverse_reverse, List.reverse_reverse, dropW_all wsU p hp]
  have := dropW_none wsU t ht hn []
  simpa using this
theorem split_head (q : UInt8 → Bool) : ∀ u : List UInt8, ∃ r, splitL q u = u.takeWhile (fun c => !q c) :: r
  | [] => ⟨[], rfl⟩
  | c :: u => by
    obtain ⟨r, hr⟩ := split_head q u
    unfold splitL
    by_cases hc : q c = true
    · rw [if_pos hc, List.takeWhile_cons_of_neg (by rw [hc]; decide)]
      exact ⟨_, rfl⟩
    · have hc' : q c = false := Bool.eq_false_iff.mpr hc
      rw [if_neg hc, hr, List.takeWhile_cons_of_pos (by rw [hc']; rfl)]
      exact ⟨r, rfl⟩
theorem tok_ws (c : UInt8) (h : toU c = true) : wsU c = false ∧ (c == 59) = false := by
  have := allU (fun c => !toU c || (!wsU c && !(c == 59))) (by decide +kernel) c
  rw [h] at this
  simp only [Bool.not_true, Bool.false_or, Bool.and_eq_true, Bool.not_eq_true'] at this
  exact this
theorem ws_semi (c : UInt8) (h : wsU c = true) : (c == 59) = false := by
  have := allU (fun c => !wsU c || !(c == 59)) (by decide +kernel) c
  rw [h] at this
  simpa using this
theorem semi_nat (c : UInt8) : ((c.toNat : Int) == 59) = (c == 59) := by
  have := allU (fun c => ((c.toNat : Int) == 59) == (c == 59)) (by decide +kernel) c
  exact beq_iff_eq.1 this
theorem vt_tok2 {u : List UInt8} {n i : Int} {t : List UInt8} (h : VT u n i t) (hn : n = 4) : t = u ∧ u ≠ [] ∧ ∀ c ∈ u, toU c = true := by
  cases h <;> first | cases hn | skip
  exact ⟨rfl, by simp, by assumption⟩
/-- The first part of a value is its token, trimmed. -/
theorem first_part {v : ByteArray} {i : Int} {t : ByteArray} {ps : List S61} (h : sfitem_Parse.f (trimBA v) = some (4, i, t, ps, 0)) : trimBA (rdOf ByteArray.empty (cutOf (fun c => c == 59) true v) 0) = t ∧ (rdOf ByteArray.empty (cutOf (fun c => c == 59) true v) 0).size ≤ v.size := by
  obtain ⟨a, b, hab, hv, hp⟩ := parse_inv2 h
  obtain ⟨e1, e2, e3⟩ := vt_tok2 hv rfl
  obtain ⟨p, q, h1, h2, h3⟩ := drops_two (fun c : UInt8 => c == 32) (fun c : UInt8 => c == 32) (L (trimBA v))
  obtain ⟨p', q', h4, h5, h6⟩ := drops_two wsU wsU (L v)
  have h7 : L (trimBA v) = List.dropWhile wsU (List.reverse (List.dropWhile wsU (List.reverse (L v)))) := by
    have e : L (trimBA v) = Lib.trimS (L v) wsS := by unfold L trimBA wsS; simp
    rw [e]; rfl
  have h8 : Lib.trimB (L (trimBA v)) 32 = List.dropWhile (fun c : UInt8 => c == 32) (List.reverse (List.dropWhile (fun c : UInt8 => c == 32) (List.reverse (L (trimBA v))))) := by
    first | rfl | (unfold Lib.trimB; rfl) | sorry
  rw [← h8, hab] at h1
  rw [← h7, h1] at h4
  have hws32 : ∀ c : UInt8, (c == 32) = true → wsU c = true := fun c hc => by rw [beq_iff_eq.1 hc]; decide
  have hsp := parts_split (fun c => c == 59) v
  obtain ⟨r, hr⟩ := split_head (fun c : UInt8 => ((c.toNat : Int) == 59)) (dl v)
  rw [hr] at hsp
  have hdl : dl v = L v := rfl
  cases hc : cutOf (fun c => c == 59) true v with
  | nil => rw [hc] at hsp; cases hsp
  | cons x xs =>
    rw [hc, List.map_cons] at hsp
    obtain ⟨hx, -⟩ := List.cons.inj hsp
    have ex : rdOf ByteArray.empty (x :: xs) 0 = x := by simp [rdOf]
    rw [ex]
    have hfun : (fun c : UInt8 => !((c.toNat : Int) == 59)) = (fun c : UInt8 => !(c == 59)) := by funext c; rw [semi_nat]
    have hw : ∃ q0, L x = (p' ++ p) ++ a ++ q0 ∧ ∀ c ∈ q0, wsU c = true := by
      have : L x = (L v).takeWhile (fun c : UInt8 => !(c == 59)) := by rw [← hfun]; exact hx
      rw [this, h4]
      have hall : ∀ c ∈ (p' ++ p) ++ a, (fun c : UInt8 => !(c == 59)) c = true := by
        intro c hc
        rcases List.mem_append.1 hc with hc | hc
        · rcases List.mem_append.1 hc with hc | hc
          · simp only []; rw [ws_semi c (h5 c hc)]; rfl
          · simp only []; rw [ws_semi c (hws32 c (h2 c hc))]; rfl
        · simp only []; rw [(tok_ws c (e3 c hc)).2]; rfl
      cases b with
      | nil =>
        refine ⟨q ++ q', ?_, fun c hc => ?_⟩
        · have hall2 : ∀ c ∈ ((p' ++ p) ++ a) ++ (q ++ q'), (fun c : UInt8 => !(c == 59)) c = true := by
            intro c hc
            rcases List.mem_append.1 hc with hc | hc
            · exact hall c hc
            · rcases List.mem_append.1 hc with hc | hc
              · simp only []; rw [ws_semi c (hws32 c (h3 c hc))]; rfl
              · simp only []; rw [ws_semi c (h6 c hc)]; rfl
          have := takeW_all (fun c : UInt8 => !(c == 59)) _ hall2 []
          simp only [List.append_nil, List.takeWhile_nil] at this
          rw [show p' ++ (p ++ (a ++ []) ++ q) ++ q' = ((p' ++ p) ++ a) ++ (q ++ q') by simp]
          exact this
        · rcases List.mem_append.1 hc with hc | hc
          · exact hws32 c (h3 c hc)
          · exact h6 c hc
      | cons c0 b' =>
        have hc0 := hp.ends c0 b' rfl
        subst hc0
        refine ⟨[], ?_, fun c hc => by cases hc⟩
        have := takeW_all (fun c : UInt8 => !(c == 59)) _ hall (((59 : UInt8) :: b') ++ q ++ q')
        rw [show p' ++ (p ++ (a ++ (59 : UInt8) :: b') ++ q) ++ q' = ((p' ++ p) ++ a) ++ (((59 : UInt8) :: b') ++ q ++ q') by simp]
        rw [this, List.cons_append, List.cons_append, List.takeWhile_cons_of_neg (by decide)]
    obtain ⟨q0, hq0, hq1⟩ := hw
    constructor
    · apply L_inj
      have : L (trimBA x) = Lib.trimS (L x) wsS := by unfold L trimBA wsS; simp
      rw [this, hq0, trim_mid (p' ++ p) a q0 (fun c hc => by
        rcases List.mem_append.1 hc with hc | hc
        · exact h5 c hc
        · exact hws32 c (h2 c hc)) hq1 (fun c hc => (tok_ws c (e3 c hc)).1) e2, e1]
    · have : L x = (L v).takeWhile (fun c : UInt8 => !(c == 59)) := by rw [← hfun]; exact hx
      rw [size_L, size_L, this]
      exact (List.takeWhile_sublist _).length_le
/-- What a field of one line tells. -/
def wvOf (v : ByteArray) : ByteArray × ByteArray := match (sfitem_Parse.f (trimBA v)).bind fun x => if x.2.2.2.2 = 0 ∧ x.1 = 4 then (if x.2.2.2.1.length ≤ 140737488355327 then some (x.2.2.1, toF x.2.2.2.1) else none) else some (⟨#[]⟩, ⟨#[]⟩) with | some p => p | none => (⟨#[]⟩, ⟨#[]⟩)
theorem vals_one (nm v : ByteArray) (h : foldEq nm nm = true) : valsOf [⟨nm, v⟩] nm = [trimBA v] := by
  unfold valsOf
  rw [List.filter_cons, if_pos h]; rfl
theorem small_one (nm v : ByteArray) (h1 : nm.size ≤ 281474976710656) (h2 : v.size ≤ 5000) : Small [⟨nm, v⟩] 1000 5000 := by
  refine ⟨by simp, fun x hx => ?_⟩
  obtain rfl := List.mem_singleton.1 hx
  exact ⟨h1, h2⟩
theorem join_one (x sep : ByteArray) : joinBA [x] sep = x := by
  have := join_snoc [] x sep
  simpa using this
theorem word_one (nm v : ByteArray) (h : foldEq nm nm = true) (h1 : nm.size ≤ 281474976710656) (h2 : v.size ≤ 5000) : wordOf [⟨nm, v⟩] nm = wvOf v := by
  unfold wordOf wvOf readF
  rw [combined_f (small_one nm v h1 h2) (by omega) (by omega) nm h1, vals_one nm v h, join_one]
  simp only [Option.bind_some]
  cases hp : sfitem_Parse.f (trimBA v) with
  | none => rfl
  | some x =>
    simp only [Option.bind_some]
    have : decide ((([trimBA v] : List ByteArray).length : Int) > 0) = true := by simp
    simp only [this, true_and] <;> rfl
theorem wv_first (v : ByteArray) (hv : v.size ≤ 5000) (hn : (wvOf v).1 ≠ ⟨#[]⟩) : trimBA (rdOf ByteArray.empty (cutOf (fun c => c == 59) true v) 0) = (wvOf v).1 := by
  unfold wvOf at hn ⊢
  cases hp : sfitem_Parse.f (trimBA v) with
  | none => rw [hp] at hn; exact absurd rfl hn
  | some x =>
    obtain ⟨kd, iv, tx, ps, e⟩ := x
    rw [hp] at hn
    simp only [Option.bind_some] at hn ⊢
    by_cases hc : e = 0 ∧ kd = 4
    · obtain ⟨rfl, rfl⟩ := hc
      have hz := read_size hp
      rw [if_pos ⟨rfl, rfl⟩, if_pos (by omega)]
      exact (first_part hp).1
    · rw [if_neg hc] at hn; exact absurd rfl hn
theorem cut_ne (v : ByteArray) : 0 < (cutOf (fun c => c == 59) true v).length ∧ (rdOf ByteArray.empty (cutOf (fun c => c == 59) true v) 0).size ≤ v.size := by
  have hsp := parts_split (fun c => c == 59) v
  obtain ⟨r, hr⟩ := split_head (fun c : UInt8 => ((c.toNat : Int) == 59)) (dl v)
  rw [hr] at hsp
  cases hc : cutOf (fun c => c == 59) true v with
  | nil => rw [hc] at hsp; cases hsp
  | cons x xs =>
    rw [hc, List.map_cons] at hsp
    obtain ⟨hx, -⟩ := List.cons.inj hsp
    have ex : rdOf ByteArray.empty (x :: xs) 0 = x := by simp [rdOf]
    rw [ex]
    refine ⟨by simp, ?_⟩
    rw [size_L, size_L, show L x = dl x from rfl, hx]
    exact (List.takeWhile_sublist _).length_le
end Go.Proofs.YtciigmlibnpeeaaGreatDoor.Pl
/- CoopWords, in plain terms: a policy is told by a token in small letters alone. -/
namespace Go.Proofs.YtciigmlibnpeeaaGreatDoor.Pure
set_option linter.unusedVariables false
set_option linter.unusedSimpArgs false
open Go.RowKit Go.Proofs.YtciigmlibnpeeaaGreatDoor.Pl Go.Proofs.YtciigmlibnpeeaaGreatDoor.Q Go.Proofs.YtciigmlibnpeeaaGreatDoor.Sf Go.Proofs.YtciigmlibnpeeaaGreatDoorW.PrintWords Go.Proofs.YtciigmlibnpeeaaGreatDoorW.PrintLast
theorem names_w : foldEq nCoop nCoop = true ∧ foldEq nCoep nCoep = true ∧ foldEq nCoop nCoep = false ∧ foldEq nCoop nCoopR = false ∧ foldEq nCoop nCoepR = false ∧ foldEq nCoep nCoepR = false := by decide +kernel
theorem vals_not (nm v nm2 : ByteArray) (h : foldEq nm nm2 = false) : valsOf [⟨nm, v⟩] nm2 = [] :=
  vals_none _ _ (fun x hx => by obtain rfl := List.mem_singleton.1 hx; exact h)
theorem iso0 : isoF 0 = false := by decide
theorem plus0 (v : Int) : plusF v false = v := by
  unfold plusF
  split
  · rename_i h; rw [if_neg (by decide), h]
  · rfl
theorem coop_one (v : ByteArray) (hv : v.size ≤ 4000) : coop_Coop.f [⟨nCoop, v⟩] true = some (opnV (wvOf v).1, (wvOf v).2, 0, ⟨#[]⟩) := by
  obtain ⟨n1, n2, n3, n4, n5, n6⟩ := names_w
  have hs := small_one nCoop v (by decide) (by omega)
  rw [coop_f hs, word_one nCoop v n1 (by decide) (by omega), word_nil hs nCoep (by decide) (vals_not _ _ _ n3), word_nil hs nCoopR (by decide) (vals_not _ _ _ n4), word_nil hs nCoepR (by decide) (vals_not _ _ _ n5)]
  simp only []
  rw [embV_nil, opnV_nil, iso0, plus0]
  rfl
theorem coep_one (v : ByteArray) (hv : v.size ≤ 4000) : coop_Coep.f [⟨nCoep, v⟩] true = some (embV (wvOf v).1, (wvOf v).2, 0, ⟨#[]⟩) := by
  obtain ⟨n1, n2, n3, n4, n5, n6⟩ := names_w
  have hs := small_one nCoep v (by decide) (by omega)
  rw [coep_f hs, word_one nCoep v n2 (by decide) (by omega), word_nil hs nCoepR (by decide) (vals_not _ _ _ n6)]
  simp only []
  rw [embV_nil]
theorem lits : kReq.toList = ([114, 101, 113, 117, 105, 114, 101, 45, 99, 111, 114, 112] : List UInt8) ∧ kCred.toList = ([99, 114, 101, 100, 101, 110, 116, 105, 97, 108, 108, 101, 115, 115] : List UInt8) ∧ kSame.toList = ([115, 97, 109, 101, 45, 111, 114, 105, 103, 105, 110] : List UInt8) ∧ kPop.toList = ([115, 97, 109, 101, 45, 111, 114, 105, 103, 105, 110, 45, 97, 108, 108, 111, 119, 45, 112, 111, 112, 117, 112, 115] : List UInt8) := by
  refine ⟨?_, ?_, ?_, ?_⟩ <;> (rw [Lib.toList_data]; rfl)
theorem keys_ne : kReq ≠ ⟨#[]⟩ ∧ kCred ≠ ⟨#[]⟩ ∧ kSame ≠ ⟨#[]⟩ ∧ kPop ≠ ⟨#[]⟩ := by decide +kernel
theorem opn_cases (w : ByteArray) : (w = kSame ∧ opnV w = 2) ∨ (w = kPop ∧ opnV w = 1) ∨ opnV w = 0 := by
  unfold opnV twoOf
  by_cases h : w = kPop
  · exact Or.inr (Or.inl ⟨h, if_pos h⟩)
  · rw [if_neg h]
    by_cases h2 : w = kSame
    · exact Or.inl ⟨h2, if_pos h2⟩
    · exact Or.inr (Or.inr (if_neg h2))
theorem emb_cases (w : ByteArray) : (w = kReq ∧ embV w = 2) ∨ (w = kCred ∧ embV w = 1) ∨ embV w = 0 := by
  unfold embV twoOf
  by_cases h : w = kCred
  · exact Or.inr (Or.inl ⟨h, if_pos h⟩)
  · rw [if_neg h]
    by_cases h2 : w = kReq
    · exact Or.inl ⟨h2, if_pos h2⟩
    · exact Or.inr (Or.inr (if_neg h2))
theorem words_j1 (k : Nat) (t w dst : ByteArray) (a0 : Int) (ht : w ≠ ⟨#[]⟩ → t = w) : glacislaw08_CoopWords.j1 (k + 1) true t false a0 dst 0 ⟨#[]⟩ (embV w) dst 0 ⟨#[]⟩ = some true := by
  obtain ⟨l1, l2, l3, l4⟩ := lits
  obtain ⟨x1, x2, x3, x4⟩ := keys_ne
  rw [glacislaw08_CoopWords.j1, if_neg (by decide)]
  have hend : (if (0 : Int) = 0 then (if (⟨#[]⟩ : ByteArray).toList = ([] : List UInt8) then (if (0 : Int) = 0 then (if (⟨#[]⟩ : ByteArray).toList = ([] : List UInt8) then (some (dst.toList == dst.toList)) else (none)) else (none)) else (none)) else (none)) = some true := by
    rw [if_pos rfl, if_pos nil_list, if_pos rfl, if_pos nil_list]; simp
  rcases emb_cases w with ⟨hw, he⟩ | ⟨hw, he⟩ | he
  · have htw : t.toList = ([114, 101, 113, 117, 105, 114, 101, 45, 99, 111, 114, 112] : List UInt8) := by rw [ht (by rw [hw]; exact x1), hw]; exact l1
    rw [he, if_pos rfl, if_pos htw, if_neg (by decide), if_pos rfl]
    exact hend
  · have htw : t.toList = ([99, 114, 101, 100, 101, 110, 116, 105, 97, 108, 108, 101, 115, 115] : List UInt8) := by rw [ht (by rw [hw]; exact x2), hw]; exact l2
    rw [he, if_neg (by decide), if_pos rfl, if_pos htw, if_pos rfl]
    exact hend
  · rw [he, if_neg (by decide), if_neg (by decide), if_pos rfl]
    exact hend
theorem CoopWordsAll (v : ByteArray) : ∃ k, glacislaw08_CoopWords.f k v = some true := by
  apply Evn.ex
  unfold glacislaw08_CoopWords.f
  refine Evn.bind awake8 ?_
  by_cases hv : (v.size : Int) > 4000
  · exact Evn.iff_pos hv (Evn.some _)
  refine Evn.iff_neg hv ?_
  have hv4 : v.size ≤ 4000 := by omega
  refine Evn.bind (Evn.ret (coop_one v hv4)) ?_
  refine Evn.bind (Evn.ret (coep_one v hv4)) ?_
  refine Evn.bind (Evn.ret (show octet_Split.f v 59 = some (cutOf (fun c => c == 59) true v) from if_pos (by omega))) ?_
  refine Evn.iff_pos rfl ?_
  obtain ⟨hc1, hc2⟩ := cut_ne v
  have hf := wv_first v (by omega)
  generalize wvOf v = p at *
  obtain ⟨w, dst⟩ := p
  simp only [] at hf ⊢
  rw [show (((cutOf (fun c => c == 59) true v).length : Int) == 0) = false from beq_eq_false_iff_ne.mpr (by omega)]
  refine ⟨2, fun k hk => ?_⟩
  obtain ⟨k, rfl⟩ : ∃ j, k = j + 2 := ⟨k - 2, by omega⟩
  obtain ⟨l1, l2, l3, l4⟩ := lits
  obtain ⟨x1, x2, x3, x4⟩ := keys_ne
  show glacislaw08_CoopWords.j0 ((k + 1) + 1) true (cutOf (fun c => c == 59) true v) false (opnV w) dst 0 ⟨#[]⟩ (embV w) dst 0 ⟨#[]⟩ = some true
  rw [glacislaw08_CoopWords.j0, if_neg (by decide), if_pos (by omega), trim_f _ (by omega), Option.bind_some]
  generalize trimBA (rdOf ByteArray.empty (cutOf (fun c => c == 59) true v) 0) = t at *
  rcases opn_cases w with ⟨hw, he⟩ | ⟨hw, he⟩ | he
  · have htw : t.toList = ([115, 97, 109, 101, 45, 111, 114, 105, 103, 105, 110] : List UInt8) := by rw [hf (by rw [hw]; exact x3), hw]; exact l3
    rw [he, if_neg (by decide), if_pos rfl, if_pos htw, if_neg (by decide)]
    exact words_j1 k t w dst _ hf
  · have htw : t.toList = ([115, 97, 109, 101, 45, 111, 114, 105, 103, 105, 110, 45, 97, 108, 108, 111, 119, 45, 112, 111, 112, 117, 112, 115] : List UInt8) := by rw [hf (by rw [hw]; exact x4), hw]; exact l4
    rw [he, if_neg (by decide), if_neg (by decide), if_pos rfl, htw, show (([115, 97, 109, 101, 45, 111, 114, 105, 103, 105, 110, 45, 97, 108, 108, 111, 119, 45, 112, 111, 112, 117, 112, 115] : List UInt8) != ([115, 97, 109, 101, 45, 111, 114, 105, 103, 105, 110, 45, 97, 108, 108, 111, 119, 45, 112, 111, 112, 117, 112, 115] : List UInt8)) = false by decide]
    exact words_j1 k t w dst _ hf
  · rw [he, if_neg (by decide), if_neg (by decide), if_neg (by decide)]
    exact words_j1 k t w dst _ hf
theorem CoopWords : ∀ (a0 : ByteArray), a0.size ≤ 140737488351232 → ∃ k, glacislaw08_CoopWords.f k a0 = some true := fun v _ => CoopWordsAll v
end Go.Proofs.YtciigmlibnpeeaaGreatDoor.Pure
/- The law glacis/glacislaw08.CoopWords, for every input: its call returns true and leaves its arguments as they were; the row, and its card. Its conditions: the row's own. -/
namespace Go.Proofs.YtciigmlibnpeeaaGreatDoor.coopWords
open Go.ChangeShapes Go.WideShapes Go.ChangeAt Go.RowKit
open Go.ChangeMaps (open_string shut_string)
open Go.Proofs.YtciigmlibnpeeaaGreatDoor.rc
set_option linter.unusedVariables false
theorem walk (W : World) (a0 : ByteArray) (h0 : a0.size ≤ 140737488351232) :
    Calls Tryz.prog 4 #[.string a0] W fun e w' => e = .returned (.bool true) ∧ Below W.heap.size W w' := by
  obtain ⟨k, h⟩ := YtciigmlibnpeeaaGreatDoor.Pure.CoopWords a0 h0
  refine (YtciigmlibnpeeaaGreatDoor.Q.glacislaw08_CoopWords.calls k a0 true W h).mono ?_
  rintro e w' ⟨rfl, hd⟩
  first | exact ⟨rfl, hd⟩ | exact ⟨rfl, hd.below⟩
set_option maxRecDepth 100000 in
theorem contract (H : Type) (enc : TypeId × Value → H) (W : World) (base : Nat) (args : Array Value) (ds gs : List (DataW H)) (before : List MemPlace)
    (hval : ∀ (j : Nat) t v, Tryz.f4.params[j]? = some t → args[j]? = some v → Value.okWide Tryz.prog W .any base t v)
    (hW : DataW.Whole enc Tryz.prog Tryz.f4.params.toList Rows.coopWordsSpec.vars false W args.toList ds gs before)
    (hsz : (DataW.weightsEach Tryz.prog (Tryz.f4.params.toList ++ Rows.coopWordsSpec.plain.varTypes Tryz.prog) (ds ++ gs)).all (· ≤ reachBytes) = true) :
    Calls Tryz.prog 4 args W fun e W' => ∃ v, e = .returned v ∧ Rows.coopWordsSpec.post enc Tryz.prog Tryz.f4 false true false false W args v W' := by
  have hW' := hW
  obtain ⟨p, q, hA0, hV, rfl, hfz, hnd⟩ := hW
  have hA : DataW.TrodAll enc Tryz.prog W 0 (fun _ => true) true Tryz.f4.params.toList args.toList ds p := hA0
  rw [Tryz.params4] at hA hval hsz
  obtain ⟨v0, vs0, d0, ds0, p0, q0, hargs, rfl, rfl, h0, r0⟩ := trodAll_cons hA
  obtain ⟨rfl, rfl, rfl⟩ := trodAll_nil r0
  obtain rfl : args = #[v0] := by cases args; simp_all
  obtain ⟨rfl, rfl⟩ := trodVars_none hV
  obtain ⟨a0, rfl, rfl, rfl, y0⟩ := open_string Tryz.underlying9 (hval 0 9 v0 rfl rfl) h0
  have w0 : a0.size ≤ 140737488351232 := by
    have z := sized_string hsz (j := 0) (t := 9) rfl rfl
    rw [Array.length_toList] at z
    exact z
  clear hA0
  refine (walk W a0 w0).mono fun e W' ⟨he, bel⟩ => ?_
  subst he
  exact ⟨_, rfl, _, _, _, [], _, [], hW', trodAll_mk1 (shut_bool Tryz.underlying4 _), (trodAll_cons_mk (shut_string Tryz.underlying9 y0) trodAll_mk0), rfl, bel.frame _, fun h => by cases h⟩
theorem laid_met (os : Os) : laidMet Tryz.prog Rows.coopWordsRow.laid ((laidWorld os).forCall (fun _ _ => 0) ⟨#[], #[.string ByteArray.empty], []⟩).memory :=
  laidMet_of_run' 8 (by kernel_rfl) (by kernel_rfl)
theorem reads (os : Os) {H : Type} (enc : TypeId × Value → H) : ∃ places, DataW.whole enc Tryz.prog ((laidWorld os).forCall (fun _ _ => 0) ⟨#[], #[.string ByteArray.empty], []⟩).memory Tryz.f4.params.toList Rows.coopWordsSpec.vars false (#[.string ByteArray.empty] : Array Value).toList 8 = some ([.lit (.string [])], [], places) :=
  ⟨[], by kernel_rfl⟩
set_option maxRecDepth 100000 in
theorem lifted (os : Os) (started : os.Started) (H : Type) (enc : TypeId × Value → H) (F : Stop.Interp) :
    ReturnsInHanded {} Tryz.checked os 4 .any ((OpenSpec.ofChange Rows.coopWordsSpec).preRow enc Tryz.prog Tryz.f4 Rows.coopWordsRow.domain false Rows.coopWordsRow.laid) (((OpenSpec.ofChange Rows.coopWordsSpec).at F).post enc Tryz.prog Tryz.f4 false true false false) := by
  obtain ⟨places, hx⟩ := reads os enc
  refine returnsInHanded_of_row (C := Tryz.checked) (s := (OpenSpec.ofChange Rows.coopWordsSpec)) own started (by kernel_rfl) Tryz.func4
    (witness_row_at (enc := enc) (C := Tryz.checked) false (laidWorld os) #[.string ByteArray.empty] rfl (by kernel_rfl) (by kernel_rfl) (by kernel_rfl)
      (OpenSpec.preRow_of_cond 8 hx (by kernel_rfl) (fun k hk => by cases hk) (by kernel_rfl) (laid_met os))) ?_
  intro W base args ds gs before hval hW _ hcond hsz hL _ _
  exact contract H enc W base args ds gs before hval hW hsz
theorem said : Rows.CoopWordsSaid :=
  OpenClaim.holds_of_cond 4 Tryz.f4 rfl rfl rfl rfl rfl rfl rfl ⟨rfl, rfl, rfl, rfl, rfl⟩ rfl rfl rfl rfl rfl (by kernel_rfl) Tryz.func4 (by kernel_rfl)
    (of_decide_eq_true (by kernel_rfl)) (by unfold Func.isWrapper; first | (rw [if_pos (by decide +kernel)]; kernel_rfl) | (rw [if_neg (by decide +kernel)]; exact ⟨rfl, rfl⟩))
    (fun os started H enc _ F => by rw [OpenClaim.pre_eq_preRow]; exact lifted os started H enc F)
theorem plain (f : FuncId) (fn : Func) (hf : Tryz.pinned.checked.prog.funcNamed "glacis/glacislaw08.CoopWords" = some f) (hfn : Tryz.pinned.checked.prog.funcs[f]? = some fn) :
    true = Tryz.pinned.checked.prog.looks [] ∧ ∀ (j : Nat) t, fn.params[j]? = some t → Tryz.pinned.checked.prog.wantsStandIn t = false := by
  obtain rfl : f = 4 := Option.some.inj ((show Tryz.prog.funcNamed "glacis/glacislaw08.CoopWords" = some 4 by kernel_rfl).symm.trans hf) |>.symm
  obtain rfl : fn = Tryz.f4 := (Option.some.inj (Tryz.func4.symm.trans hfn)).symm
  refine ⟨by kernel_rfl, fun j t ht => ?_⟩
  rw [Tryz.params4] at ht
  have hm : t ∈ [9] := by simpa using Array.mem_of_getElem? ht
  have hall : ([9].all fun u => !Tryz.prog.wantsStandIn u) = true := by kernel_rfl
  exact (show Tryz.prog.wantsStandIn t = false by simpa using List.all_eq_true.1 hall t hm)
/-- THE CARD. -/
theorem card : Rows.CoopWordsCardSaid :=
  Claim7.holds_tied_plain_at .later [] _ _ _ _ said (fun _ h => by cases h) (by kernel_rfl) (fun _ h => by cases h) coopWords_row_tie rfl ⟨rfl, rfl⟩ (by kernel_rfl) rfl plain (by kernel_rfl)
#print axioms card
end Go.Proofs.YtciigmlibnpeeaaGreatDoor.coopWords
