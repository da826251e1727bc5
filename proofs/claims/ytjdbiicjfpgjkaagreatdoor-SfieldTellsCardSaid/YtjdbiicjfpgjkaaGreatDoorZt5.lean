/- The law SfieldTells: contracts, words and plain lemmas that its proof reaches, part 5. Its conditions: the row's own. -/
import Derived.Test.YtjdbiicjfpgjkaaGreatDoorZt4
set_option maxHeartbeats 8000000
set_option maxRecDepth 100000
namespace Go.Proofs.YtjdbiicjfpgjkaaGreatDoor.Q
open Go.RowKit Go.Proofs.YtjdbiicjfpgjkaaGreatDoorW.PrintWords Go.Proofs.YtjdbiicjfpgjkaaGreatDoorW.PrintLast Go.Proofs.YtjdbiicjfpgjkaaGreatDoorW.PrintMore
set_option linter.unusedVariables false
set_option linter.unusedSimpArgs false
mutual
def glacisref05_Value.j0 : Nat → Int → Int → ByteArray → Bool → Option (ByteArray × Bool)
 | 0, _, _, _, _ => none
 | k + 1, x0, x1, x2, x8 => if x8 = true then (if x2.toList = ([] : List UInt8) then (if x1 < (-999999999999999) then (glacisref05_Value.j1 k x0 x1 x2 true) else (glacisref05_Value.j1 k x0 x1 x2 (decide (x1 > 999999999999999)))) else (glacisref05_Value.j1 k x0 x1 x2 true)) else (if x1 = 0 then (if x1 < (-999999999999999) then (glacisref05_Value.j1 k x0 x1 x2 true) else (glacisref05_Value.j1 k x0 x1 x2 (decide (x1 > 999999999999999)))) else (glacisref05_Value.j1 k x0 x1 x2 true))
def glacisref05_Value.j1 : Nat → Int → Int → ByteArray → Bool → Option (ByteArray × Bool)
 | 0, _, _, _, _ => none
 | k + 1, x0, x1, x2, x47 => if x47 = true then (some ((⟨#[]⟩ : ByteArray), false)) else (if x0 = 1 then ((strconv_Itoa.f x1).bind fun t527 => (some (t527, true))) else (if x0 = 2 then ((glacisref05_decimal.f k x1).bind fun t528 => (some (t528, true))) else (if x0 = 6 then ((strconv_Itoa.f x1).bind fun t529 => (if 1 + t529.size ≤ 9223372036854775807 then (if x1 = 0 then (some ((⟨#[63]⟩ : ByteArray) ++ t529, true)) else (some ((⟨#[63]⟩ : ByteArray) ++ t529, (x1 == 1)))) else (none))) else (if x0 = 3 then (glacisref05_Value.l0 k x2 (⟨#[]⟩ : ByteArray) 0) else (if x0 = 4 then ((glacisref05_value.f k x2).bind fun bt530 => (if bt530.2.2.2.2.2 = true then (if bt530.2.2.2.2.1.toList = ([] : List UInt8) then (some (x2, (bt530.2.1 == 4))) else (some (x2, false))) else (some (x2, false)))) else (if x0 = 5 then (if 1 + x2.size ≤ 9223372036854775807 then (if ((⟨#[58]⟩ : ByteArray) ++ x2).size + 1 ≤ 9223372036854775807 then ((glacisref05_value.f k (((⟨#[58]⟩ : ByteArray) ++ x2) ++ (⟨#[58]⟩ : ByteArray))).bind fun bt537 => (if bt537.2.2.2.2.2 = true then (if bt537.2.2.2.2.1.toList = ([] : List UInt8) then (if bt537.2.1 = 5 then (some (((⟨#[58]⟩ : ByteArray) ++ x2) ++ (⟨#[58]⟩ : ByteArray), (bt537.2.2.2.1.toList == x2.toList))) else (some (((⟨#[58]⟩ : ByteArray) ++ x2) ++ (⟨#[58]⟩ : ByteArray), false))) else (some (((⟨#[58]⟩ : ByteArray) ++ x2) ++ (⟨#[58]⟩ : ByteArray), false))) else (some (((⟨#[58]⟩ : ByteArray) ++ x2) ++ (⟨#[58]⟩ : ByteArray), false)))) else (none)) else (none)) else (some ((⟨#[]⟩ : ByteArray), false))))))))
def glacisref05_Value.l0 : Nat → ByteArray → ByteArray → Int → Option (ByteArray × Bool)
 | 0, _, _, _ => none
 | k + 1, x2, x9, x10 => if x10 < (x2.size : Int) then (if 0 ≤ x10 then (if (bt x2 x10) < 32 then (glacisref05_Value.j3 k x2 x9 x10 true) else (glacisref05_Value.j3 k x2 x9 x10 (decide ((bt x2 x10) > 126)))) else (none)) else (if 1 + x9.size ≤ 9223372036854775807 then (if ((⟨#[34]⟩ : ByteArray) ++ x9).size + 1 ≤ 9223372036854775807 then (some (((⟨#[34]⟩ : ByteArray) ++ x9) ++ (⟨#[34]⟩ : ByteArray), true)) else (none)) else (none))
def glacisref05_Value.j3 : Nat → ByteArray → ByteArray → Int → Bool → Option (ByteArray × Bool)
 | 0, _, _, _, _ => none
 | k + 1, x2, x9, x10, x85 => if x85 = true then (some ((⟨#[]⟩ : ByteArray), false)) else (if 0 ≤ x10 then (if x10 < (x2.size : Int) then (if (bt x2 x10) = 34 then (if x9.size + 1 ≤ 9223372036854775807 then (if x10 ≤ (wrap64 (x10 + 1)) then (if (wrap64 (x10 + 1)) ≤ (x2.size : Int) then (if (x9 ++ (⟨#[92]⟩ : ByteArray)).size + (x2.extract (x10 : Int).toNat ((wrap64 (x10 + 1)) : Int).toNat).size ≤ 9223372036854775807 then (glacisref05_Value.l0 k x2 ((x9 ++ (⟨#[92]⟩ : ByteArray)) ++ (x2.extract (x10 : Int).toNat ((wrap64 (x10 + 1)) : Int).toNat)) (wrap64 (x10 + 1))) else (none)) else (none)) else (none)) else (none)) else (if (bt x2 x10) = 92 then (if x9.size + 1 ≤ 9223372036854775807 then (if x10 ≤ (wrap64 (x10 + 1)) then (if (wrap64 (x10 + 1)) ≤ (x2.size : Int) then (if (x9 ++ (⟨#[92]⟩ : ByteArray)).size + (x2.extract (x10 : Int).toNat ((wrap64 (x10 + 1)) : Int).toNat).size ≤ 9223372036854775807 then (glacisref05_Value.l0 k x2 ((x9 ++ (⟨#[92]⟩ : ByteArray)) ++ (x2.extract (x10 : Int).toNat ((wrap64 (x10 + 1)) : Int).toNat)) (wrap64 (x10 + 1))) else (none)) else (none)) else (none)) else (none)) else (if x10 ≤ (wrap64 (x10 + 1)) then (if (wrap64 (x10 + 1)) ≤ (x2.size : Int) then (if x9.size + (x2.extract (x10 : Int).toNat ((wrap64 (x10 + 1)) : Int).toNat).size ≤ 9223372036854775807 then (glacisref05_Value.l0 k x2 (x9 ++ (x2.extract (x10 : Int).toNat ((wrap64 (x10 + 1)) : Int).toNat)) (wrap64 (x10 + 1))) else (none)) else (none)) else (none)))) else (none)) else (none))
end
def glacisref05_Value.f (k : Nat) (a0 : Int) (a1 : Int) (a2 : ByteArray) : Option (ByteArray × Bool) := if a0 = 1 then (glacisref05_Value.j0 k a0 a1 a2 true) else (if a0 = 2 then (glacisref05_Value.j0 k a0 a1 a2 true) else (glacisref05_Value.j0 k a0 a1 a2 (a0 == 6)))
theorem glacisref05_Value.calls (k : Nat) (a0 : Int) (a1 : Int) (a2 : ByteArray) (r1 : ByteArray) (r2 : Bool) (w : World) (hT_ : Aside0 (TabW w)) (h : glacisref05_Value.f k a0 a1 a2 = some (r1, r2)) :
  Calls Tryz.prog 67 #[.int .i64 a0, .int .i64 a1, .string a2] w fun e w' => e = .returned (.tuple #[.string r1, .bool r2]) ∧ Below w.heap.size w w' := by
 have hu60 := Tryz.underlying60
 have HB := Aside0.mk (Below.refl w.heap.size w)
 have H : (if a0 = 1 then (glacisref05_Value.j0 k a0 a1 a2 true) else (if a0 = 2 then (glacisref05_Value.j0 k a0 a1 a2 true) else (glacisref05_Value.j0 k a0 a1 a2 (a0 == 6)))) = some (r1, r2) := h
 clear h
 have HC4 := Aside0.mk H
 clear H
 go_enter Tryz.func67, Tryz.ntmps67
 go_upto_region 1 with (fail)
 repeat (go_quiet (fail); go_upto_region 1 with (fail))
 go_cut [8] (fun v8 wc => ∃ (kq : Nat) (x8_3 : Bool), v8 = .bool x8_3 ∧ Aside0 (glacisref05_Value.j0 kq a0 a1 a2 x8_3 = some (r1, r2)) ∧ Aside0 (kq ≤ k) ∧ Aside0 (Below w.heap.size w wc))
 case first =>
  have H := HC4.out
  clear HC4
  by_cases c5 : a0 = 1
  ·rw [if_pos c5] at H
   obtain ⟨c5b0, c5b1⟩ := eT_ c5
   clear c5
   (first | rw [c5b0] | (simp only [i64_w, i32_w]; rw [c5b0]) | skip)
   have H' := Aside0.mk H
   clear H
   go_wp2
   repeat (go_quiet (fail); try go_wp2)
   go_meet
   case rel => exact ⟨_, (true), (by first | rfl | simp [*]), H', ⟨by first | omega | exact Nat.le_refl _⟩, ⟨bl_ HB.out⟩⟩
  rw [if_neg c5] at H
  obtain ⟨c5b0, c5b1⟩ := eF_ c5
  (first | rw [c5b0] | (simp only [i64_w, i32_w]; rw [c5b0]) | skip)
  by_cases c6 : a0 = 2
  ·rw [if_pos c6] at H
   obtain ⟨c6b0, c6b1⟩ := eT_ c6
   clear c6
   have H' := Aside0.mk H
   clear H
   go_wp2
   repeat (go_quiet (fail); try go_wp2)
   go_meet
   case rel => exact ⟨_, (true), (by first | rfl | simp [*]), H', ⟨by first | omega | exact Nat.le_refl _⟩, ⟨bl_ HB.out⟩⟩
  rw [if_neg c6] at H
  obtain ⟨c6b0, c6b1⟩ := eF_ c6
  have H' := Aside0.mk H
  clear H
  go_wp2
  repeat (go_quiet (fail); try go_wp2)
  go_meet
  case rel => exact ⟨_, ((a0 == 6)), (by first | rfl | simp [*]), H', ⟨by first | omega | exact Nat.le_refl _⟩, ⟨bl_ HB.out⟩⟩
 case rest =>
  clear HC4
  (try clear p2)
  obtain ⟨kq, x8_3, rfl, HA, HJ3, HB⟩ := hcut
  cases kq with
  | zero => exact absurd HA.out (by simp [glacisref05_Value.j0])
  | succ kj3 =>
   have H := HA.out
   clear HA
   simp only [glacisref05_Value.j0] at H
   have HC7 := Aside0.mk H
   clear H
   go_upto_region 2 with (fail)
   repeat (go_quiet (fail); go_upto_region 2 with (fail))
   go_cut [47] (fun v47 wc => ∃ (kq : Nat) (x47_6 : Bool), v47 = .bool x47_6 ∧ Aside0 (glacisref05_Value.j1 kq a0 a1 a2 x47_6 = some (r1, r2)) ∧ Aside0 (kq ≤ kj3) ∧ Aside0 (Below w.heap.size w wc))
   case first =>
    have H := HC7.out
    clear HC7
    by_cases c8 : x8_3 = true
    ·subst c8
     rw [if_pos rfl] at H
     by_cases c9 : a2.toList = ([] : List UInt8)
     ·rw [if_pos c9] at H
      obtain ⟨c9b0, c9b1⟩ := eT_ c9
      clear c9
      (first | rw [c9b0] | (simp only [i64_w, i32_w]; rw [c9b0]) | skip)
      by_cases c10 : a1 < (-999999999999999)
      ·rw [if_pos c10] at H
       have c10b0 := decide_eq_true c10
       clear c10
       have H' := Aside0.mk H
       clear H
       go_wp2
       repeat (go_quiet (fail); try go_wp2)
       go_meet
       case rel => exact ⟨_, (true), (by first | rfl | simp [*]), H', ⟨by have := HJ3.out; first | omega | exact Nat.le_refl _⟩, ⟨bl_ HB.out⟩⟩
      rw [if_neg c10] at H
      have c10b0 := decide_eq_false c10
      clear c10
      have H' := Aside0.mk H
      clear H
      go_wp2
      repeat (go_quiet (fail); try go_wp2)
      go_meet
      case rel => exact ⟨_, (decide (a1 > 999999999999999)), (by first | rfl | simp [*]), H', ⟨by have := HJ3.out; first | omega | exact Nat.le_refl _⟩, ⟨bl_ HB.out⟩⟩
     rw [if_neg c9] at H
     obtain ⟨c9b0, c9b1⟩ := eF_ c9
     (first | rw [c9b0] | (simp only [i64_w, i32_w]; rw [c9b0]) | skip)
     have H' := Aside0.mk H
     clear H
     go_wp2
     repeat (go_quiet (fail); try go_wp2)
     go_meet
     case rel => exact ⟨_, (true), (by first | rfl | simp [*]), H', ⟨by have := HJ3.out; first | omega | exact Nat.le_refl _⟩, ⟨bl_ HB.out⟩⟩
    replace c8 := Bool.eq_false_iff.mpr c8
    subst c8
    rw [if_neg (show ¬ (false = true) by decide)] at H
    by_cases c11 : a1 = 0
    ·rw [if_pos c11] at H
     obtain ⟨c11b0, c11b1⟩ := eT_ c11
     clear c11
     by_cases c12 : a1 < (-999999999999999)
     ·rw [if_pos c12] at H
      have c12b0 := decide_eq_true c12
      clear c12
      have H' := Aside0.mk H
      clear H
      go_wp2
      repeat (go_quiet (fail); try go_wp2)
      go_meet
      case rel => exact ⟨_, (true), (by first | rfl | simp [*]), H', ⟨by have := HJ3.out; first | omega | exact Nat.le_refl _⟩, ⟨bl_ HB.out⟩⟩
     rw [if_neg c12] at H
     have c12b0 := decide_eq_false c12
     clear c12
     have H' := Aside0.mk H
     clear H
     go_wp2
     repeat (go_quiet (fail); try go_wp2)
     go_meet
     case rel => exact ⟨_, (decide (a1 > 999999999999999)), (by first | rfl | simp [*]), H', ⟨by have := HJ3.out; first | omega | exact Nat.le_refl _⟩, ⟨bl_ HB.out⟩⟩
    rw [if_neg c11] at H
    obtain ⟨c11b0, c11b1⟩ := eF_ c11
    have H' := Aside0.mk H
    clear H
    go_wp2
    repeat (go_quiet (fail); try go_wp2)
    go_meet
    case rel => exact ⟨_, (true), (by first | rfl | simp [*]), H', ⟨by have := HJ3.out; first | omega | exact Nat.le_refl _⟩, ⟨bl_ HB.out⟩⟩
   case rest =>
    clear HC7
    (try clear c1)
    obtain ⟨kq, x47_6, rfl, HA, HJ6, HB⟩ := hcut
    cases kq with
    | zero => exact absurd HA.out (by simp [glacisref05_Value.j1])
    | succ kj6 =>
     have H := HA.out
     clear HA
     simp only [glacisref05_Value.j1] at H
     by_cases c13 : x47_6 = true
     ·subst c13
      rw [if_pos rfl] at H
      simp only [Option.some.injEq, Prod.mk.injEq] at H
      obtain ⟨rfl, rfl⟩ := H
      go_wp2
      repeat (go_quiet (fail); try go_wp2)
      go_ret2
      exact ⟨by first | rfl | simp [*, errW_none, errW_some, q_ne_nil], bl_ HB.out⟩
     replace c13 := Bool.eq_false_iff.mpr c13
     subst c13
     rw [if_neg (show ¬ (false = true) by decide)] at H
     by_cases c14 : a0 = 1
     ·rw [if_pos c14] at H
      obtain ⟨c14b0, c14b1⟩ := eT_ c14
      clear c14
      replace H := Option.bind_eq_some_iff.mp H
      obtain ⟨t527, A150, H⟩ := H
      (try dsimp only at H)
      have A15 := Aside0.mk A150
      clear A150
      simp only [Option.some.injEq, Prod.mk.injEq] at H
      obtain ⟨rfl, rfl⟩ := H
      go_wp2_with (first | (go_at_call 68; (with_reducible refine (strconv_Itoa.calls a1 t527 _ (tab_ hT_ ?hTab) A15.out).mono ?_); (case hTab => exact (bl_ HB.out)); rintro e w16 ⟨rfl, hb⟩; replace HB := bs_ HB hb; (try clear hb)))
      repeat (go_quiet (first | (go_at_call 68; (with_reducible refine (strconv_Itoa.calls a1 t527 _ (tab_ hT_ ?hTab) A15.out).mono ?_); (case hTab => exact (bl_ HB.out)); rintro e w16 ⟨rfl, hb⟩; replace HB := bs_ HB hb; (try clear hb))); try go_wp2_with (first | (go_at_call 68; (with_reducible refine (strconv_Itoa.calls a1 t527 _ (tab_ hT_ ?hTab) A15.out).mono ?_); (case hTab => exact (bl_ HB.out)); rintro e w16 ⟨rfl, hb⟩; replace HB := bs_ HB hb; (try clear hb))))
      go_ret2
      exact ⟨by first | rfl | simp [*, errW_none, errW_some, q_ne_nil], bl_ HB.out⟩
     rw [if_neg c14] at H
     obtain ⟨c14b0, c14b1⟩ := eF_ c14
     by_cases c17 : a0 = 2
     ·rw [if_pos c17] at H
      obtain ⟨c17b0, c17b1⟩ := eT_ c17
      clear c17
      replace H := Option.bind_eq_some_iff.mp H
      obtain ⟨t528, A180, H⟩ := H
      (try dsimp only at H)
      have A18 := Aside0.mk A180
      clear A180
      simp only [Option.some.injEq, Prod.mk.injEq] at H
      obtain ⟨rfl, rfl⟩ := H
      go_wp2_with (first | (go_at_call 97; (with_reducible refine (glacisref05_decimal.calls kj6 a1 t528 _ (tab_ hT_ ?hTab) A18.out).mono ?_); (case hTab => exact (bl_ HB.out)); rintro e w19 ⟨rfl, hb⟩; replace HB := bs_ HB hb; (try clear hb)))
      repeat (go_quiet (first | (go_at_call 97; (with_reducible refine (glacisref05_decimal.calls kj6 a1 t528 _ (tab_ hT_ ?hTab) A18.out).mono ?_); (case hTab => exact (bl_ HB.out)); rintro e w19 ⟨rfl, hb⟩; replace HB := bs_ HB hb; (try clear hb))); try go_wp2_with (first | (go_at_call 97; (with_reducible refine (glacisref05_decimal.calls kj6 a1 t528 _ (tab_ hT_ ?hTab) A18.out).mono ?_); (case hTab => exact (bl_ HB.out)); rintro e w19 ⟨rfl, hb⟩; replace HB := bs_ HB hb; (try clear hb))))
      go_ret2
      exact ⟨by first | rfl | simp [*, errW_none, errW_some, q_ne_nil], bl_ HB.out⟩
     rw [if_neg c17] at H
     obtain ⟨c17b0, c17b1⟩ := eF_ c17
     by_cases c20 : a0 = 6
     ·rw [if_pos c20] at H
      obtain ⟨c20b0, c20b1⟩ := eT_ c20
      clear c20
      replace H := Option.bind_eq_some_iff.mp H
      obtain ⟨t529, A210, H⟩ := H
      (try dsimp only at H)
      have A21 := Aside0.mk A210
      clear A210
      replace H := ifs_ H; obtain ⟨c22, H⟩ := H
      have c22b0 := eq_true c22
      have c22b1 := decide_eq_true c22
      try have c22b2 : (9223372036854775807 < 1 + t529.size) = False := eq_false (Nat.not_lt.2 c22)
      by_cases c23 : a1 = 0
      ·rw [if_pos c23] at H
       obtain ⟨c23b0, c23b1⟩ := eT_ c23
       clear c23
       simp only [Option.some.injEq, Prod.mk.injEq] at H
       obtain ⟨rfl, rfl⟩ := H
       go_wp2_with (first | (go_at_call 68; (with_reducible refine (strconv_Itoa.calls a1 t529 _ (tab_ hT_ ?hTab) A21.out).mono ?_); (case hTab => exact (bl_ HB.out)); rintro e w24 ⟨rfl, hb⟩; replace HB := bs_ HB hb; (try clear hb)))
       repeat (go_quiet (first | (go_at_call 68; (with_reducible refine (strconv_Itoa.calls a1 t529 _ (tab_ hT_ ?hTab) A21.out).mono ?_); (case hTab => exact (bl_ HB.out)); rintro e w24 ⟨rfl, hb⟩; replace HB := bs_ HB hb; (try clear hb))); try go_wp2_with (first | (go_at_call 68; (with_reducible refine (strconv_Itoa.calls a1 t529 _ (tab_ hT_ ?hTab) A21.out).mono ?_); (case hTab => exact (bl_ HB.out)); rintro e w24 ⟨rfl, hb⟩; replace HB := bs_ HB hb; (try clear hb))))
       go_ret2
       exact ⟨by first | rfl | simp [*, errW_none, errW_some, q_ne_nil], bl_ HB.out⟩
      rw [if_neg c23] at H
      obtain ⟨c23b0, c23b1⟩ := eF_ c23
      simp only [Option.some.injEq, Prod.mk.injEq] at H
      obtain ⟨rfl, rfl⟩ := H
      go_wp2_with (first | (go_at_call 68; (with_reducible refine (strconv_Itoa.calls a1 t529 _ (tab_ hT_ ?hTab) A21.out).mono ?_); (case hTab => exact (bl_ HB.out)); rintro e w25 ⟨rfl, hb⟩; replace HB := bs_ HB hb; (try clear hb)))
      repeat (go_quiet (first | (go_at_call 68; (with_reducible refine (strconv_Itoa.calls a1 t529 _ (tab_ hT_ ?hTab) A21.out).mono ?_); (case hTab => exact (bl_ HB.out)); rintro e w25 ⟨rfl, hb⟩; replace HB := bs_ HB hb; (try clear hb))); try go_wp2_with (first | (go_at_call 68; (with_reducible refine (strconv_Itoa.calls a1 t529 _ (tab_ hT_ ?hTab) A21.out).mono ?_); (case hTab => exact (bl_ HB.out)); rintro e w25 ⟨rfl, hb⟩; replace HB := bs_ HB hb; (try clear hb))))
      go_ret2
      exact ⟨by first | rfl | simp [*, errW_none, errW_some, q_ne_nil], bl_ HB.out⟩
     rw [if_neg c20] at H
     obtain ⟨c20b0, c20b1⟩ := eF_ c20
     by_cases c26 : a0 = 3
     rotate_left
     ·rw [if_neg c26] at H
      obtain ⟨c26b0, c26b1⟩ := eF_ c26
      by_cases c56 : a0 = 4
      ·rw [if_pos c56] at H
       obtain ⟨c56b0, c56b1⟩ := eT_ c56
       clear c56
       replace H := Option.bind_eq_some_iff.mp H
       obtain ⟨⟨t530, t531, t532, t533, t534, t535⟩, A570, H⟩ := H
       (try dsimp only at H)
       have A57 := Aside0.mk A570
       clear A570
       by_cases c58 : t535 = true
       ·subst c58
        rw [if_pos rfl] at H
        by_cases c59 : t534.toList = ([] : List UInt8)
        ·rw [if_pos c59] at H
         obtain ⟨c59b0, c59b1⟩ := eT_ c59
         clear c59
         simp only [Option.some.injEq, Prod.mk.injEq] at H
         obtain ⟨rfl, rfl⟩ := H
         go_wp2_with (first | (go_at_call 98; (with_reducible refine (glacisref05_value.calls kj6 a2 t530 t531 t532 t533 t534 true _ A57.out).mono ?_); rintro e w60 ⟨rfl, hb⟩; replace HB := bs_ HB hb; (try clear hb)) | ((with_reducible refine gate_dst (N := 11) rfl ?_); refine box_event ?hg (N := 11) ?hd (cs := #[.string ⟨#[]⟩, .int .i64 0, .int .i64 0, .string ⟨#[]⟩]) (t := 60) ?hr ?_; (case hd => rfl); (case hg => rfl); (case hr => first | (go_simp; done) | (go_simp; rfl)); intro gb536 hg w61 hbox hb; have BK536 := Aside0.mk (hbox); have GW536 := Aside0.mk ((hg_ hg (bl_ HB.out))); have GE536 := Aside0.mk ((hg_ hg (bl_ HB.out))); replace HB := bs_ HB hb; clear hb hbox hg; obtain ⟨hcz62_0, hcz62_1, hcz62_2, hcz62_3⟩ := c4_ BK536.out; obtain ⟨hfz62_0, hfz62_1, hfz62_2, hfz62_3⟩ := f4_ BK536.out))
         repeat (go_quiet (first | (go_at_call 98; (with_reducible refine (glacisref05_value.calls kj6 a2 t530 t531 t532 t533 t534 true _ A57.out).mono ?_); rintro e w60 ⟨rfl, hb⟩; replace HB := bs_ HB hb; (try clear hb)) | ((with_reducible refine gate_dst (N := 11) rfl ?_); refine box_event ?hg (N := 11) ?hd (cs := #[.string ⟨#[]⟩, .int .i64 0, .int .i64 0, .string ⟨#[]⟩]) (t := 60) ?hr ?_; (case hd => rfl); (case hg => rfl); (case hr => first | (go_simp; done) | (go_simp; rfl)); intro gb536 hg w61 hbox hb; have BK536 := Aside0.mk (hbox); have GW536 := Aside0.mk ((hg_ hg (bl_ HB.out))); have GE536 := Aside0.mk ((hg_ hg (bl_ HB.out))); replace HB := bs_ HB hb; clear hb hbox hg; obtain ⟨hcz62_0, hcz62_1, hcz62_2, hcz62_3⟩ := c4_ BK536.out; obtain ⟨hfz62_0, hfz62_1, hfz62_2, hfz62_3⟩ := f4_ BK536.out)); try go_wp2_with (first | (go_at_call 98; (with_reducible refine (glacisref05_value.calls kj6 a2 t530 t531 t532 t533 t534 true _ A57.out).mono ?_); rintro e w60 ⟨rfl, hb⟩; replace HB := bs_ HB hb; (try clear hb)) | ((with_reducible refine gate_dst (N := 11) rfl ?_); refine box_event ?hg (N := 11) ?hd (cs := #[.string ⟨#[]⟩, .int .i64 0, .int .i64 0, .string ⟨#[]⟩]) (t := 60) ?hr ?_; (case hd => rfl); (case hg => rfl); (case hr => first | (go_simp; done) | (go_simp; rfl)); intro gb536 hg w61 hbox hb; have BK536 := Aside0.mk (hbox); have GW536 := Aside0.mk ((hg_ hg (bl_ HB.out))); have GE536 := Aside0.mk ((hg_ hg (bl_ HB.out))); replace HB := bs_ HB hb; clear hb hbox hg; obtain ⟨hcz62_0, hcz62_1, hcz62_2, hcz62_3⟩ := c4_ BK536.out; obtain ⟨hfz62_0, hfz62_1, hfz62_2, hfz62_3⟩ := f4_ BK536.out)))
         go_ret2
         exact ⟨by first | rfl | simp [*, errW_none, errW_some, q_ne_nil], by repeat (first | (with_reducible first | exact HB.out | apply below_alloc | apply pw_below_drewN | apply below_drew1 | refine below_set ?_ GE536.out) | exact HB.out)⟩
        rw [if_neg c59] at H
        obtain ⟨c59b0, c59b1⟩ := eF_ c59
        simp only [Option.some.injEq, Prod.mk.injEq] at H
        obtain ⟨rfl, rfl⟩ := H
        go_wp2_with (first | (go_at_call 98; (with_reducible refine (glacisref05_value.calls kj6 a2 t530 t531 t532 t533 t534 true _ A57.out).mono ?_); rintro e w63 ⟨rfl, hb⟩; replace HB := bs_ HB hb; (try clear hb)) | ((with_reducible refine gate_dst (N := 11) rfl ?_); refine box_event ?hg (N := 11) ?hd (cs := #[.string ⟨#[]⟩, .int .i64 0, .int .i64 0, .string ⟨#[]⟩]) (t := 60) ?hr ?_; (case hd => rfl); (case hg => rfl); (case hr => first | (go_simp; done) | (go_simp; rfl)); intro gb536 hg w64 hbox hb; have BK536 := Aside0.mk (hbox); have GW536 := Aside0.mk ((hg_ hg (bl_ HB.out))); have GE536 := Aside0.mk ((hg_ hg (bl_ HB.out))); replace HB := bs_ HB hb; clear hb hbox hg; obtain ⟨hcz65_0, hcz65_1, hcz65_2, hcz65_3⟩ := c4_ BK536.out; obtain ⟨hfz65_0, hfz65_1, hfz65_2, hfz65_3⟩ := f4_ BK536.out))
        repeat (go_quiet (first | (go_at_call 98; (with_reducible refine (glacisref05_value.calls kj6 a2 t530 t531 t532 t533 t534 true _ A57.out).mono ?_); rintro e w63 ⟨rfl, hb⟩; replace HB := bs_ HB hb; (try clear hb)) | ((with_reducible refine gate_dst (N := 11) rfl ?_); refine box_event ?hg (N := 11) ?hd (cs := #[.string ⟨#[]⟩, .int .i64 0, .int .i64 0, .string ⟨#[]⟩]) (t := 60) ?hr ?_; (case hd => rfl); (case hg => rfl); (case hr => first | (go_simp; done) | (go_simp; rfl)); intro gb536 hg w64 hbox hb; have BK536 := Aside0.mk (hbox); have GW536 := Aside0.mk ((hg_ hg (bl_ HB.out))); have GE536 := Aside0.mk ((hg_ hg (bl_ HB.out))); replace HB := bs_ HB hb; clear hb hbox hg; obtain ⟨hcz65_0, hcz65_1, hcz65_2, hcz65_3⟩ := c4_ BK536.out; obtain ⟨hfz65_0, hfz65_1, hfz65_2, hfz65_3⟩ := f4_ BK536.out)); try go_wp2_with (first | (go_at_call 98; (with_reducible refine (glacisref05_value.calls kj6 a2 t530 t531 t532 t533 t534 true _ A57.out).mono ?_); rintro e w63 ⟨rfl, hb⟩; replace HB := bs_ HB hb; (try clear hb)) | ((with_reducible refine gate_dst (N := 11) rfl ?_); refine box_event ?hg (N := 11) ?hd (cs := #[.string ⟨#[]⟩, .int .i64 0, .int .i64 0, .string ⟨#[]⟩]) (t := 60) ?hr ?_; (case hd => rfl); (case hg => rfl); (case hr => first | (go_simp; done) | (go_simp; rfl)); intro gb536 hg w64 hbox hb; have BK536 := Aside0.mk (hbox); have GW536 := Aside0.mk ((hg_ hg (bl_ HB.out))); have GE536 := Aside0.mk ((hg_ hg (bl_ HB.out))); replace HB := bs_ HB hb; clear hb hbox hg; obtain ⟨hcz65_0, hcz65_1, hcz65_2, hcz65_3⟩ := c4_ BK536.out; obtain ⟨hfz65_0, hfz65_1, hfz65_2, hfz65_3⟩ := f4_ BK536.out)))
        go_ret2
        exact ⟨by first | rfl | simp [*, errW_none, errW_some, q_ne_nil], by repeat (first | (with_reducible first | exact HB.out | apply below_alloc | apply pw_below_drewN | apply below_drew1 | refine below_set ?_ GE536.out) | exact HB.out)⟩
       replace c58 := Bool.eq_false_iff.mpr c58
       subst c58
       rw [if_neg (show ¬ (false = true) by decide)] at H
       simp only [Option.some.injEq, Prod.mk.injEq] at H
       obtain ⟨rfl, rfl⟩ := H
       go_wp2_with (first | (go_at_call 98; (with_reducible refine (glacisref05_value.calls kj6 a2 t530 t531 t532 t533 t534 false _ A57.out).mono ?_); rintro e w66 ⟨rfl, hb⟩; replace HB := bs_ HB hb; (try clear hb)) | ((with_reducible refine gate_dst (N := 11) rfl ?_); refine box_event ?hg (N := 11) ?hd (cs := #[.string ⟨#[]⟩, .int .i64 0, .int .i64 0, .string ⟨#[]⟩]) (t := 60) ?hr ?_; (case hd => rfl); (case hg => rfl); (case hr => first | (go_simp; done) | (go_simp; rfl)); intro gb536 hg w67 hbox hb; have BK536 := Aside0.mk (hbox); have GW536 := Aside0.mk ((hg_ hg (bl_ HB.out))); have GE536 := Aside0.mk ((hg_ hg (bl_ HB.out))); replace HB := bs_ HB hb; clear hb hbox hg; obtain ⟨hcz68_0, hcz68_1, hcz68_2, hcz68_3⟩ := c4_ BK536.out; obtain ⟨hfz68_0, hfz68_1, hfz68_2, hfz68_3⟩ := f4_ BK536.out))
       repeat (go_quiet (first | (go_at_call 98; (with_reducible refine (glacisref05_value.calls kj6 a2 t530 t531 t532 t533 t534 false _ A57.out).mono ?_); rintro e w66 ⟨rfl, hb⟩; replace HB := bs_ HB hb; (try clear hb)) | ((with_reducible refine gate_dst (N := 11) rfl ?_); refine box_event ?hg (N := 11) ?hd (cs := #[.string ⟨#[]⟩, .int .i64 0, .int .i64 0, .string ⟨#[]⟩]) (t := 60) ?hr ?_; (case hd => rfl); (case hg => rfl); (case hr => first | (go_simp; done) | (go_simp; rfl)); intro gb536 hg w67 hbox hb; have BK536 := Aside0.mk (hbox); have GW536 := Aside0.mk ((hg_ hg (bl_ HB.out))); have GE536 := Aside0.mk ((hg_ hg (bl_ HB.out))); replace HB := bs_ HB hb; clear hb hbox hg; obtain ⟨hcz68_0, hcz68_1, hcz68_2, hcz68_3⟩ := c4_ BK536.out; obtain ⟨hfz68_0, hfz68_1, hfz68_2, hfz68_3⟩ := f4_ BK536.out)); try go_wp2_with (first | (go_at_call 98; (with_reducible refine (glacisref05_value.calls kj6 a2 t530 t531 t532 t533 t534 false _ A57.out).mono ?_); rintro e w66 ⟨rfl, hb⟩; replace HB := bs_ HB hb; (try clear hb)) | ((with_reducible refine gate_dst (N := 11) rfl ?_); refine box_event ?hg (N := 11) ?hd (cs := #[.string ⟨#[]⟩, .int .i64 0, .int .i64 0, .string ⟨#[]⟩]) (t := 60) ?hr ?_; (case hd => rfl); (case hg => rfl); (case hr => first | (go_simp; done) | (go_simp; rfl)); intro gb536 hg w67 hbox hb; have BK536 := Aside0.mk (hbox); have GW536 := Aside0.mk ((hg_ hg (bl_ HB.out))); have GE536 := Aside0.mk ((hg_ hg (bl_ HB.out))); replace HB := bs_ HB hb; clear hb hbox hg; obtain ⟨hcz68_0, hcz68_1, hcz68_2, hcz68_3⟩ := c4_ BK536.out; obtain ⟨hfz68_0, hfz68_1, hfz68_2, hfz68_3⟩ := f4_ BK536.out)))
       go_ret2
       exact ⟨by first | rfl | simp [*, errW_none, errW_some, q_ne_nil], by repeat (first | (with_reducible first | exact HB.out | apply below_alloc | apply pw_below_drewN | apply below_drew1 | refine below_set ?_ GE536.out) | exact HB.out)⟩
      rw [if_neg c56] at H
      obtain ⟨c56b0, c56b1⟩ := eF_ c56
      by_cases c69 : a0 = 5
      rotate_left
      ·rw [if_neg c69] at H
       obtain ⟨c69b0, c69b1⟩ := eF_ c69
       simp only [Option.some.injEq, Prod.mk.injEq] at H
       obtain ⟨rfl, rfl⟩ := H
       go_wp2
       repeat (go_quiet (fail); try go_wp2)
       go_ret2
       exact ⟨by first | rfl | simp [*, errW_none, errW_some, q_ne_nil], bl_ HB.out⟩
      rw [if_pos c69] at H
      obtain ⟨c69b0, c69b1⟩ := eT_ c69
      clear c69
      replace H := ifs_ H; obtain ⟨c70, H⟩ := H
      have c70b0 := eq_true c70
      have c70b1 := decide_eq_true c70
      try have c70b2 : (9223372036854775807 < 1 + a2.size) = False := eq_false (Nat.not_lt.2 c70)
      replace H := ifs_ H; obtain ⟨c71, H⟩ := H
      have c71b0 := eq_true c71
      have c71b1 := decide_eq_true c71
      try have c71b2 : (9223372036854775807 < ((⟨#[58]⟩ : ByteArray) ++ a2).size + 1) = False := eq_false (Nat.not_lt.2 c71)
      try (have c71d : (9223372036854775807 < 1 + a2.size + 1) = False := eq_false (by have h_ := c71; simp only [ByteArray.size_append] at h_; exact Nat.not_lt.2 h_))
      replace H := Option.bind_eq_some_iff.mp H
      obtain ⟨⟨t537, t538, t539, t540, t541, t542⟩, A720, H⟩ := H
      (try dsimp only at H)
      have A72 := Aside0.mk A720
      clear A720
      by_cases c73 : t542 = true
      ·subst c73
       rw [if_pos rfl] at H
       by_cases c74 : t541.toList = ([] : List UInt8)
       ·rw [if_pos c74] at H
        obtain ⟨c74b0, c74b1⟩ := eT_ c74
        clear c74
        by_cases c75 : t538 = 5
        ·rw [if_pos c75] at H
         obtain ⟨c75b0, c75b1⟩ := eT_ c75
         clear c75
         simp only [Option.some.injEq, Prod.mk.injEq] at H
         obtain ⟨rfl, rfl⟩ := H
         go_wp2_with (first | (go_at_call 98; (with_reducible refine (glacisref05_value.calls kj6 (((⟨#[58]⟩ : ByteArray) ++ a2) ++ (⟨#[58]⟩ : ByteArray)) t537 t538 t539 t540 t541 true _ A72.out).mono ?_); rintro e w76 ⟨rfl, hb⟩; replace HB := bs_ HB hb; (try clear hb)) | ((with_reducible refine gate_dst (N := 14) rfl ?_); refine box_event ?hg (N := 14) ?hd (cs := #[.string ⟨#[]⟩, .int .i64 0, .int .i64 0, .string ⟨#[]⟩]) (t := 60) ?hr ?_; (case hd => rfl); (case hg => rfl); (case hr => first | (go_simp; done) | (go_simp; rfl)); intro gb543 hg w77 hbox hb; have BK543 := Aside0.mk (hbox); have GW543 := Aside0.mk ((hg_ hg (bl_ HB.out))); have GE543 := Aside0.mk ((hg_ hg (bl_ HB.out))); replace HB := bs_ HB hb; clear hb hbox hg; obtain ⟨hcz78_0, hcz78_1, hcz78_2, hcz78_3⟩ := c4_ BK543.out; obtain ⟨hfz78_0, hfz78_1, hfz78_2, hfz78_3⟩ := f4_ BK543.out))
         repeat (go_quiet (first | (go_at_call 98; (with_reducible refine (glacisref05_value.calls kj6 (((⟨#[58]⟩ : ByteArray) ++ a2) ++ (⟨#[58]⟩ : ByteArray)) t537 t538 t539 t540 t541 true _ A72.out).mono ?_); rintro e w76 ⟨rfl, hb⟩; replace HB := bs_ HB hb; (try clear hb)) | ((with_reducible refine gate_dst (N := 14) rfl ?_); refine box_event ?hg (N := 14) ?hd (cs := #[.string ⟨#[]⟩, .int .i64 0, .int .i64 0, .string ⟨#[]⟩]) (t := 60) ?hr ?_; (case hd => rfl); (case hg => rfl); (case hr => first | (go_simp; done) | (go_simp; rfl)); intro gb543 hg w77 hbox hb; have BK543 := Aside0.mk (hbox); have GW543 := Aside0.mk ((hg_ hg (bl_ HB.out))); have GE543 := Aside0.mk ((hg_ hg (bl_ HB.out))); replace HB := bs_ HB hb; clear hb hbox hg; obtain ⟨hcz78_0, hcz78_1, hcz78_2, hcz78_3⟩ := c4_ BK543.out; obtain ⟨hfz78_0, hfz78_1, hfz78_2, hfz78_3⟩ := f4_ BK543.out)); try go_wp2_with (first | (go_at_call 98; (with_reducible refine (glacisref05_value.calls kj6 (((⟨#[58]⟩ : ByteArray) ++ a2) ++ (⟨#[58]⟩ : ByteArray)) t537 t538 t539 t540 t541 true _ A72.out).mono ?_); rintro e w76 ⟨rfl, hb⟩; replace HB := bs_ HB hb; (try clear hb)) | ((with_reducible refine gate_dst (N := 14) rfl ?_); refine box_event ?hg (N := 14) ?hd (cs := #[.string ⟨#[]⟩, .int .i64 0, .int .i64 0, .string ⟨#[]⟩]) (t := 60) ?hr ?_; (case hd => rfl); (case hg => rfl); (case hr => first | (go_simp; done) | (go_simp; rfl)); intro gb543 hg w77 hbox hb; have BK543 := Aside0.mk (hbox); have GW543 := Aside0.mk ((hg_ hg (bl_ HB.out))); have GE543 := Aside0.mk ((hg_ hg (bl_ HB.out))); replace HB := bs_ HB hb; clear hb hbox hg; obtain ⟨hcz78_0, hcz78_1, hcz78_2, hcz78_3⟩ := c4_ BK543.out; obtain ⟨hfz78_0, hfz78_1, hfz78_2, hfz78_3⟩ := f4_ BK543.out)))
         go_ret2
         exact ⟨by first | rfl | simp [*, errW_none, errW_some, q_ne_nil], by repeat (first | (with_reducible first | exact HB.out | apply below_alloc | apply pw_below_drewN | apply below_drew1 | refine below_set ?_ GE543.out) | exact HB.out)⟩
        rw [if_neg c75] at H
        obtain ⟨c75b0, c75b1⟩ := eF_ c75
        simp only [Option.some.injEq, Prod.mk.injEq] at H
        obtain ⟨rfl, rfl⟩ := H
        go_wp2_with (first | (go_at_call 98; (with_reducible refine (glacisref05_value.calls kj6 (((⟨#[58]⟩ : ByteArray) ++ a2) ++ (⟨#[58]⟩ : ByteArray)) t537 t538 t539 t540 t541 true _ A72.out).mono ?_); rintro e w79 ⟨rfl, hb⟩; replace HB := bs_ HB hb; (try clear hb)) | ((with_reducible refine gate_dst (N := 14) rfl ?_); refine box_event ?hg (N := 14) ?hd (cs := #[.string ⟨#[]⟩, .int .i64 0, .int .i64 0, .string ⟨#[]⟩]) (t := 60) ?hr ?_; (case hd => rfl); (case hg => rfl); (case hr => first | (go_simp; done) | (go_simp; rfl)); intro gb543 hg w80 hbox hb; have BK543 := Aside0.mk (hbox); have GW543 := Aside0.mk ((hg_ hg (bl_ HB.out))); have GE543 := Aside0.mk ((hg_ hg (bl_ HB.out))); replace HB := bs_ HB hb; clear hb hbox hg; obtain ⟨hcz81_0, hcz81_1, hcz81_2, hcz81_3⟩ := c4_ BK543.out; obtain ⟨hfz81_0, hfz81_1, hfz81_2, hfz81_3⟩ := f4_ BK543.out))
        repeat (go_quiet (first | (go_at_call 98; (with_reducible refine (glacisref05_value.calls kj6 (((⟨#[58]⟩ : ByteArray) ++ a2) ++ (⟨#[58]⟩ : ByteArray)) t537 t538 t539 t540 t541 true _ A72.out).mono ?_); rintro e w79 ⟨rfl, hb⟩; replace HB := bs_ HB hb; (try clear hb)) | ((with_reducible refine gate_dst (N := 14) rfl ?_); refine box_event ?hg (N := 14) ?hd (cs := #[.string ⟨#[]⟩, .int .i64 0, .int .i64 0, .string ⟨#[]⟩]) (t := 60) ?hr ?_; (case hd => rfl); (case hg => rfl); (case hr => first | (go_simp; done) | (go_simp; rfl)); intro gb543 hg w80 hbox hb; have BK543 := Aside0.mk (hbox); have GW543 := Aside0.mk ((hg_ hg (bl_ HB.out))); have GE543 := Aside0.mk ((hg_ hg (bl_ HB.out))); replace HB := bs_ HB hb; clear hb hbox hg; obtain ⟨hcz81_0, hcz81_1, hcz81_2, hcz81_3⟩ := c4_ BK543.out; obtain ⟨hfz81_0, hfz81_1, hfz81_2, hfz81_3⟩ := f4_ BK543.out)); try go_wp2_with (first | (go_at_call 98; (with_reducible refine (glacisref05_value.calls kj6 (((⟨#[58]⟩ : ByteArray) ++ a2) ++ (⟨#[58]⟩ : ByteArray)) t537 t538 t539 t540 t541 true _ A72.out).mono ?_); rintro e w79 ⟨rfl, hb⟩; replace HB := bs_ HB hb; (try clear hb)) | ((with_reducible refine gate_dst (N := 14) rfl ?_); refine box_event ?hg (N := 14) ?hd (cs := #[.string ⟨#[]⟩, .int .i64 0, .int .i64 0, .string ⟨#[]⟩]) (t := 60) ?hr ?_; (case hd => rfl); (case hg => rfl); (case hr => first | (go_simp; done) | (go_simp; rfl)); intro gb543 hg w80 hbox hb; have BK543 := Aside0.mk (hbox); have GW543 := Aside0.mk ((hg_ hg (bl_ HB.out))); have GE543 := Aside0.mk ((hg_ hg (bl_ HB.out))); replace HB := bs_ HB hb; clear hb hbox hg; obtain ⟨hcz81_0, hcz81_1, hcz81_2, hcz81_3⟩ := c4_ BK543.out; obtain ⟨hfz81_0, hfz81_1, hfz81_2, hfz81_3⟩ := f4_ BK543.out)))
        go_ret2
        exact ⟨by first | rfl | simp [*, errW_none, errW_some, q_ne_nil], by repeat (first | (with_reducible first | exact HB.out | apply below_alloc | apply pw_below_drewN | apply below_drew1 | refine below_set ?_ GE543.out) | exact HB.out)⟩
       rw [if_neg c74] at H
       obtain ⟨c74b0, c74b1⟩ := eF_ c74
       simp only [Option.some.injEq, Prod.mk.injEq] at H
       obtain ⟨rfl, rfl⟩ := H
       go_wp2_with (first | (go_at_call 98; (with_reducible refine (glacisref05_value.calls kj6 (((⟨#[58]⟩ : ByteArray) ++ a2) ++ (⟨#[58]⟩ : ByteArray)) t537 t538 t539 t540 t541 true _ A72.out).mono ?_); rintro e w82 ⟨rfl, hb⟩; replace HB := bs_ HB hb; (try clear hb)) | ((with_reducible refine gate_dst (N := 14) rfl ?_); refine box_event ?hg (N := 14) ?hd (cs := #[.string ⟨#[]⟩, .int .i64 0, .int .i64 0, .string ⟨#[]⟩]) (t := 60) ?hr ?_; (case hd => rfl); (case hg => rfl); (case hr => first | (go_simp; done) | (go_simp; rfl)); intro gb543 hg w83 hbox hb; have BK543 := Aside0.mk (hbox); have GW543 := Aside0.mk ((hg_ hg (bl_ HB.out))); have GE543 := Aside0.mk ((hg_ hg (bl_ HB.out))); replace HB := bs_ HB hb; clear hb hbox hg; obtain ⟨hcz84_0, hcz84_1, hcz84_2, hcz84_3⟩ := c4_ BK543.out; obtain ⟨hfz84_0, hfz84_1, hfz84_2, hfz84_3⟩ := f4_ BK543.out))
       repeat (go_quiet (first | (go_at_call 98; (with_reducible refine (glacisref05_value.calls kj6 (((⟨#[58]⟩ : ByteArray) ++ a2) ++ (⟨#[58]⟩ : ByteArray)) t537 t538 t539 t540 t541 true _ A72.out).mono ?_); rintro e w82 ⟨rfl, hb⟩; replace HB := bs_ HB hb; (try clear hb)) | ((with_reducible refine gate_dst (N := 14) rfl ?_); refine box_event ?hg (N := 14) ?hd (cs := #[.string ⟨#[]⟩, .int .i64 0, .int .i64 0, .string ⟨#[]⟩]) (t := 60) ?hr ?_; (case hd => rfl); (case hg => rfl); (case hr => first | (go_simp; done) | (go_simp; rfl)); intro gb543 hg w83 hbox hb; have BK543 := Aside0.mk (hbox); have GW543 := Aside0.mk ((hg_ hg (bl_ HB.out))); have GE543 := Aside0.mk ((hg_ hg (bl_ HB.out))); replace HB := bs_ HB hb; clear hb hbox hg; obtain ⟨hcz84_0, hcz84_1, hcz84_2, hcz84_3⟩ := c4_ BK543.out; obtain ⟨hfz84_0, hfz84_1, hfz84_2, hfz84_3⟩ := f4_ BK543.out)); try go_wp2_with (first | (go_at_call 98; (with_reducible refine (glacisref05_value.calls kj6 (((⟨#[58]⟩ : ByteArray) ++ a2) ++ (⟨#[58]⟩ : ByteArray)) t537 t538 t539 t540 t541 true _ A72.out).mono ?_); rintro e w82 ⟨rfl, hb⟩; replace HB := bs_ HB hb; (try clear hb)) | ((with_reducible refine gate_dst (N := 14) rfl ?_); refine box_event ?hg (N := 14) ?hd (cs := #[.string ⟨#[]⟩, .int .i64 0, .int .i64 0, .string ⟨#[]⟩]) (t := 60) ?hr ?_; (case hd => rfl); (case hg => rfl); (case hr => first | (go_simp; done) | (go_simp; rfl)); intro gb543 hg w83 hbox hb; have BK543 := Aside0.mk (hbox); have GW543 := Aside0.mk ((hg_ hg (bl_ HB.out))); have GE543 := Aside0.mk ((hg_ hg (bl_ HB.out))); replace HB := bs_ HB hb; clear hb hbox hg; obtain ⟨hcz84_0, hcz84_1, hcz84_2, hcz84_3⟩ := c4_ BK543.out; obtain ⟨hfz84_0, hfz84_1, hfz84_2, hfz84_3⟩ := f4_ BK543.out)))
       go_ret2
       exact ⟨by first | rfl | simp [*, errW_none, errW_some, q_ne_nil], by repeat (first | (with_reducible first | exact HB.out | apply below_alloc | apply pw_below_drewN | apply below_drew1 | refine below_set ?_ GE543.out) | exact HB.out)⟩
      replace c73 := Bool.eq_false_iff.mpr c73
      subst c73
      rw [if_neg (show ¬ (false = true) by decide)] at H
      simp only [Option.some.injEq, Prod.mk.injEq] at H
      obtain ⟨rfl, rfl⟩ := H
      go_wp2_with (first | (go_at_call 98; (with_reducible refine (glacisref05_value.calls kj6 (((⟨#[58]⟩ : ByteArray) ++ a2) ++ (⟨#[58]⟩ : ByteArray)) t537 t538 t539 t540 t541 false _ A72.out).mono ?_); rintro e w85 ⟨rfl, hb⟩; replace HB := bs_ HB hb; (try clear hb)) | ((with_reducible refine gate_dst (N := 14) rfl ?_); refine box_event ?hg (N := 14) ?hd (cs := #[.string ⟨#[]⟩, .int .i64 0, .int .i64 0, .string ⟨#[]⟩]) (t := 60) ?hr ?_; (case hd => rfl); (case hg => rfl); (case hr => first | (go_simp; done) | (go_simp; rfl)); intro gb543 hg w86 hbox hb; have BK543 := Aside0.mk (hbox); have GW543 := Aside0.mk ((hg_ hg (bl_ HB.out))); have GE543 := Aside0.mk ((hg_ hg (bl_ HB.out))); replace HB := bs_ HB hb; clear hb hbox hg; obtain ⟨hcz87_0, hcz87_1, hcz87_2, hcz87_3⟩ := c4_ BK543.out; obtain ⟨hfz87_0, hfz87_1, hfz87_2, hfz87_3⟩ := f4_ BK543.out))
      repeat (go_quiet (first | (go_at_call 98; (with_reducible refine (glacisref05_value.calls kj6 (((⟨#[58]⟩ : ByteArray) ++ a2) ++ (⟨#[58]⟩ : ByteArray)) t537 t538 t539 t540 t541 false _ A72.out).mono ?_); rintro e w85 ⟨rfl, hb⟩; replace HB := bs_ HB hb; (try clear hb)) | ((with_reducible refine gate_dst (N := 14) rfl ?_); refine box_event ?hg (N := 14) ?hd (cs := #[.string ⟨#[]⟩, .int .i64 0, .int .i64 0, .string ⟨#[]⟩]) (t := 60) ?hr ?_; (case hd => rfl); (case hg => rfl); (case hr => first | (go_simp; done) | (go_simp; rfl)); intro gb543 hg w86 hbox hb; have BK543 := Aside0.mk (hbox); have GW543 := Aside0.mk ((hg_ hg (bl_ HB.out))); have GE543 := Aside0.mk ((hg_ hg (bl_ HB.out))); replace HB := bs_ HB hb; clear hb hbox hg; obtain ⟨hcz87_0, hcz87_1, hcz87_2, hcz87_3⟩ := c4_ BK543.out; obtain ⟨hfz87_0, hfz87_1, hfz87_2, hfz87_3⟩ := f4_ BK543.out)); try go_wp2_with (first | (go_at_call 98; (with_reducible refine (glacisref05_value.calls kj6 (((⟨#[58]⟩ : ByteArray) ++ a2) ++ (⟨#[58]⟩ : ByteArray)) t537 t538 t539 t540 t541 false _ A72.out).mono ?_); rintro e w85 ⟨rfl, hb⟩; replace HB := bs_ HB hb; (try clear hb)) | ((with_reducible refine gate_dst (N := 14) rfl ?_); refine box_event ?hg (N := 14) ?hd (cs := #[.string ⟨#[]⟩, .int .i64 0, .int .i64 0, .string ⟨#[]⟩]) (t := 60) ?hr ?_; (case hd => rfl); (case hg => rfl); (case hr => first | (go_simp; done) | (go_simp; rfl)); intro gb543 hg w86 hbox hb; have BK543 := Aside0.mk (hbox); have GW543 := Aside0.mk ((hg_ hg (bl_ HB.out))); have GE543 := Aside0.mk ((hg_ hg (bl_ HB.out))); replace HB := bs_ HB hb; clear hb hbox hg; obtain ⟨hcz87_0, hcz87_1, hcz87_2, hcz87_3⟩ := c4_ BK543.out; obtain ⟨hfz87_0, hfz87_1, hfz87_2, hfz87_3⟩ := f4_ BK543.out)))
      go_ret2
      exact ⟨by first | rfl | simp [*, errW_none, errW_some, q_ne_nil], by repeat (first | (with_reducible first | exact HB.out | apply below_alloc | apply pw_below_drewN | apply below_drew1 | refine below_set ?_ GE543.out) | exact HB.out)⟩
     rw [if_pos c26] at H
     obtain ⟨c26b0, c26b1⟩ := eT_ c26
     clear c26
     have H' := Aside0.mk H
     clear H
     go_wp2
     repeat (go_quiet (fail); try go_wp2)
     go_loopg [9, 10] kj6 (fun kq v9 v10 w' => ∃ (x9_3 : ByteArray) (x10_3 : Int), v9 = .string x9_3 ∧ v10 = .int .i64 x10_3 ∧ Aside0 (glacisref05_Value.l0 kq a2 x9_3 x10_3 = some (r1, r2)) ∧ Aside0 (kq ≤ kj6) ∧ Aside0 (Below w.heap.size w w'))
     case atStart => exact ⟨((⟨#[]⟩ : ByteArray)), (0), (by first | rfl | simp [*]), (by first | rfl | simp [*]), H', ⟨Nat.le_refl _⟩, ⟨bl_ HB.out⟩⟩
     case round =>
      clear H'
      (try clear c1)
      obtain ⟨x9_3, x10_3, rfl, rfl, HA, HK3, HB⟩ := hrel
      cases gk with
      | zero => exact absurd HA.out (by simp [glacisref05_Value.l0])
      | succ k3 =>
       have H := HA.out
       clear HA
       simp only [glacisref05_Value.l0] at H
       by_cases c27 : x10_3 < (a2.size : Int)
       rotate_left
       ·rw [if_neg c27] at H
        have c27b0 := decide_eq_false c27
        clear c27
        replace H := ifs_ H; obtain ⟨c54, H⟩ := H
        have c54b0 := eq_true c54
        have c54b1 := decide_eq_true c54
        try have c54b2 : (9223372036854775807 < 1 + x9_3.size) = False := eq_false (Nat.not_lt.2 c54)
        replace H := ifs_ H; obtain ⟨c55, H⟩ := H
        have c55b0 := eq_true c55
        have c55b1 := decide_eq_true c55
        try have c55b2 : (9223372036854775807 < ((⟨#[34]⟩ : ByteArray) ++ x9_3).size + 1) = False := eq_false (Nat.not_lt.2 c55)
        try (have c55d : (9223372036854775807 < 1 + x9_3.size + 1) = False := eq_false (by have h_ := c55; simp only [ByteArray.size_append] at h_; exact Nat.not_lt.2 h_))
        simp only [Option.some.injEq, Prod.mk.injEq] at H
        obtain ⟨rfl, rfl⟩ := H
        go_wp2
        repeat (go_quiet (fail); try go_wp2)
        go_ret2
        exact ⟨by first | rfl | simp [*, errW_none, errW_some, q_ne_nil], bl_ HB.out⟩
       rw [if_pos c27] at H
       have c27b0 := decide_eq_true c27
       clear c27
       have HC28 := Aside0.mk H
       clear H
       go_upto_region 16 with (fail)
       repeat (go_quiet (fail); go_upto_region 16 with (fail))
       go_cut [85] (fun v85 wc => ∃ (kq : Nat) (x85_27 : Bool), v85 = .bool x85_27 ∧ Aside0 (glacisref05_Value.j3 kq a2 x9_3 x10_3 x85_27 = some (r1, r2)) ∧ Aside0 (kq ≤ k3) ∧ Aside0 (Below w.heap.size w wc))
       case first =>
        have H := HC28.out
        clear HC28
        replace H := ifs_ H; obtain ⟨c29, H⟩ := H
        have c29b0 := decide_eq_true c29
        clear c29
        (first | rw [c29b0] | (simp only [i64_w, i32_w]; rw [c29b0]) | skip)
        by_cases c31 : (bt a2 x10_3) < 32
        ·rw [if_pos c31] at H
         have c31b0 := decide_eq_true c31
         clear c31
         have H' := Aside0.mk H
         clear H
         have p30 : 0 ≤ (x10_3 : Int) := of_decide_eq_true (by assumption)
         have q30 : x10_3 < (a2.size : Int) := of_decide_eq_true (by assumption)
         have hx30 := bt_at a2 x10_3
         replace p30 := eq_true p30
         replace q30 := eq_true q30
         go_wp2
         repeat (go_quiet (fail); try go_wp2)
         go_meet
         case rel => exact ⟨_, (true), (by first | rfl | simp [*]), H', ⟨by have := HJ3.out; have := HJ6.out; have := HK3.out; first | omega | exact Nat.le_refl _⟩, ⟨bl_ HB.out⟩⟩
        rw [if_neg c31] at H
        have c31b0 := decide_eq_false c31
        clear c31
        have H' := Aside0.mk H
        clear H
        have p30 : 0 ≤ (x10_3 : Int) := of_decide_eq_true (by assumption)
        have q30 : x10_3 < (a2.size : Int) := of_decide_eq_true (by assumption)
        have hx30 := bt_at a2 x10_3
        replace p30 := eq_true p30
        replace q30 := eq_true q30
        have p32 : 0 ≤ (x10_3 : Int) := of_decide_eq_true (by assumption)
        have q32 : x10_3 < (a2.size : Int) := of_decide_eq_true (by assumption)
        have hx32 := bt_at a2 x10_3
        replace p32 := eq_true p32
        replace q32 := eq_true q32
        go_wp2
        repeat (go_quiet (fail); try go_wp2)
        go_meet
        case rel => exact ⟨_, (decide ((bt a2 x10_3) > 126)), (by first | rfl | simp [*]), H', ⟨by have := HJ3.out; have := HJ6.out; have := HK3.out; first | omega | exact Nat.le_refl _⟩, ⟨bl_ HB.out⟩⟩
       case rest =>
        clear HC28
        (try clear c1)
        obtain ⟨kq, x85_27, rfl, HA, HJ27, HB⟩ := hcut
        cases kq with
        | zero => exact absurd HA.out (by simp [glacisref05_Value.j3])
        | succ kj27 =>
         have H := HA.out
         clear HA
         simp only [glacisref05_Value.j3] at H
         by_cases c33 : x85_27 = true
         ·subst c33
          rw [if_pos rfl] at H
          simp only [Option.some.injEq, Prod.mk.injEq] at H
          obtain ⟨rfl, rfl⟩ := H
          go_wp2
          repeat (go_quiet (fail); try go_wp2)
          go_ret2
          exact ⟨by first | rfl | simp [*, errW_none, errW_some, q_ne_nil], bl_ HB.out⟩
         replace c33 := Bool.eq_false_iff.mpr c33
         subst c33
         rw [if_neg (show ¬ (false = true) by decide)] at H
         replace H := ifs_ H; obtain ⟨c34, H⟩ := H
         have c34b0 := decide_eq_true c34
         clear c34
         replace H := ifs_ H; obtain ⟨c35, H⟩ := H
         have c35b0 := decide_eq_true c35
         clear c35
         by_cases c37 : (bt a2 x10_3) = 34
         ·rw [if_pos c37] at H
          obtain ⟨c37b0, c37b1⟩ := eT_ c37
          clear c37
          replace H := ifs_ H; obtain ⟨c38, H⟩ := H
          have c38b0 := eq_true c38
          have c38b1 := decide_eq_true c38
          try have c38b2 : (9223372036854775807 < x9_3.size + 1) = False := eq_false (Nat.not_lt.2 c38)
          have c39b0 := eq_true (of_decide_eq_true (by assumption) : 0 ≤ x10_3)
          replace H := ifs_ H; obtain ⟨c40, H⟩ := H
          have c40b0 := eq_true c40
          have c40b1 := decide_eq_true c40
          replace H := ifs_ H; obtain ⟨c41, H⟩ := H
          have c41b0 := eq_true c41
          have c41b1 := decide_eq_true c41
          replace H := ifs_ H; obtain ⟨c42, H⟩ := H
          have c42b0 := eq_true c42
          have c42b1 := decide_eq_true c42
          try have c42b2 : (9223372036854775807 < (x9_3 ++ (⟨#[92]⟩ : ByteArray)).size + (a2.extract (x10_3 : Int).toNat ((wrap64 (x10_3 + 1)) : Int).toNat).size) = False := eq_false (Nat.not_lt.2 c42)
          have H' := Aside0.mk H
          clear H
          have p36 : 0 ≤ (x10_3 : Int) := of_decide_eq_true (by assumption)
          have q36 : x10_3 < (a2.size : Int) := of_decide_eq_true (by assumption)
          have hx36 := bt_at a2 x10_3
          replace p36 := eq_true p36
          replace q36 := eq_true q36
          go_wp2
          repeat (go_quiet (fail); try go_wp2)
          go_roundg kj27
          case measure => have := HJ3.out; have := HJ6.out; have := HK3.out; have := HJ27.out; omega
          case rel => exact ⟨((x9_3 ++ (⟨#[92]⟩ : ByteArray)) ++ (a2.extract (x10_3 : Int).toNat ((wrap64 (x10_3 + 1)) : Int).toNat)), (wrap64 (x10_3 + 1)), (by first | rfl | simp [*]), (by first | rfl | simp [*]), H', ⟨by have := HJ3.out; have := HJ6.out; have := HK3.out; have := HJ27.out; omega⟩, ⟨bl_ HB.out⟩⟩
         rw [if_neg c37] at H
         obtain ⟨c37b0, c37b1⟩ := eF_ c37
         by_cases c44 : (bt a2 x10_3) = 92
         ·rw [if_pos c44] at H
          obtain ⟨c44b0, c44b1⟩ := eT_ c44
          clear c44
          replace H := ifs_ H; obtain ⟨c45, H⟩ := H
          have c45b0 := eq_true c45
          have c45b1 := decide_eq_true c45
          try have c45b2 : (9223372036854775807 < x9_3.size + 1) = False := eq_false (Nat.not_lt.2 c45)
          have c46b0 := eq_true (of_decide_eq_true (by assumption) : 0 ≤ x10_3)
          replace H := ifs_ H; obtain ⟨c47, H⟩ := H
          have c47b0 := eq_true c47
          have c47b1 := decide_eq_true c47
          replace H := ifs_ H; obtain ⟨c48, H⟩ := H
          have c48b0 := eq_true c48
          have c48b1 := decide_eq_true c48
          replace H := ifs_ H; obtain ⟨c49, H⟩ := H
          have c49b0 := eq_true c49
          have c49b1 := decide_eq_true c49
          try have c49b2 : (9223372036854775807 < (x9_3 ++ (⟨#[92]⟩ : ByteArray)).size + (a2.extract (x10_3 : Int).toNat ((wrap64 (x10_3 + 1)) : Int).toNat).size) = False := eq_false (Nat.not_lt.2 c49)
          have H' := Aside0.mk H
          clear H
          have p36 : 0 ≤ (x10_3 : Int) := of_decide_eq_true (by assumption)
          have q36 : x10_3 < (a2.size : Int) := of_decide_eq_true (by assumption)
          have hx36 := bt_at a2 x10_3
          replace p36 := eq_true p36
          replace q36 := eq_true q36
          have p43 : 0 ≤ (x10_3 : Int) := of_decide_eq_true (by assumption)
          have q43 : x10_3 < (a2.size : Int) := of_decide_eq_true (by assumption)
          have hx43 := bt_at a2 x10_3
          replace p43 := eq_true p43
          replace q43 := eq_true q43
          go_wp2
          repeat (go_quiet (fail); try go_wp2)
          go_roundg kj27
          case measure => have := HJ3.out; have := HJ6.out; have := HK3.out; have := HJ27.out; omega
          case rel => exact ⟨((x9_3 ++ (⟨#[92]⟩ : ByteArray)) ++ (a2.extract (x10_3 : Int).toNat ((wrap64 (x10_3 + 1)) : Int).toNat)), (wrap64 (x10_3 + 1)), (by first | rfl | simp [*]), (by first | rfl | simp [*]), H', ⟨by have := HJ3.out; have := HJ6.out; have := HK3.out; have := HJ27.out; omega⟩, ⟨bl_ HB.out⟩⟩
         rw [if_neg c44] at H
         obtain ⟨c44b0, c44b1⟩ := eF_ c44
         have c50b0 := eq_true (of_decide_eq_true (by assumption) : 0 ≤ x10_3)
         replace H := ifs_ H; obtain ⟨c51, H⟩ := H
         have c51b0 := eq_true c51
         have c51b1 := decide_eq_true c51
         replace H := ifs_ H; obtain ⟨c52, H⟩ := H
         have c52b0 := eq_true c52
         have c52b1 := decide_eq_true c52
         replace H := ifs_ H; obtain ⟨c53, H⟩ := H
         have c53b0 := eq_true c53
         have c53b1 := decide_eq_true c53
         try have c53b2 : (9223372036854775807 < x9_3.size + (a2.extract (x10_3 : Int).toNat ((wrap64 (x10_3 + 1)) : Int).toNat).size) = False := eq_false (Nat.not_lt.2 c53)
         have H' := Aside0.mk H
         clear H
         have p36 : 0 ≤ (x10_3 : Int) := of_decide_eq_true (by assumption)
         have q36 : x10_3 < (a2.size : Int) := of_decide_eq_true (by assumption)
         have hx36 := bt_at a2 x10_3
         replace p36 := eq_true p36
         replace q36 := eq_true q36
         have p43 : 0 ≤ (x10_3 : Int) := of_decide_eq_true (by assumption)
         have q43 : x10_3 < (a2.size : Int) := of_decide_eq_true (by assumption)
         have hx43 := bt_at a2 x10_3
         replace p43 := eq_true p43
         replace q43 := eq_true q43
         go_wp2
         repeat (go_quiet (fail); try go_wp2)
         go_roundg kj27
         case measure => have := HJ3.out; have := HJ6.out; have := HK3.out; have := HJ27.out; omega
         case rel => exact ⟨(x9_3 ++ (a2.extract (x10_3 : Int).toNat ((wrap64 (x10_3 + 1)) : Int).toNat)), (wrap64 (x10_3 + 1)), (by first | rfl | simp [*]), (by first | rfl | simp [*]), H', ⟨by have := HJ3.out; have := HJ6.out; have := HK3.out; have := HJ27.out; omega⟩, ⟨bl_ HB.out⟩⟩
mutual
def glacisref05_Tail.l0 : Nat → List (S60) → ByteArray → Int → Option (ByteArray × Int)
 | 0, _, _, _ => none
 | k + 1, x0, x4, x5 => if x5 < (x0.length : Int) then (if 0 ≤ x5 then ((glacisref05_Key.f k ((rd_T60 x0 x5).f0)).bind fun bt545 => ((glacisref05_Value.f k ((rd_T60 x0 x5).f1) ((rd_T60 x0 x5).f2) ((rd_T60 x0 x5).f3)).bind fun bt551 => (if bt545.2.2 = 0 then (if bt545.2.1.toList = ([] : List UInt8) then (glacisref05_Tail.j1 k x0 x4 x5 bt545.1 bt551.1 (!bt551.2)) else (glacisref05_Tail.j1 k x0 x4 x5 bt545.1 bt551.1 true)) else (glacisref05_Tail.j1 k x0 x4 x5 bt545.1 bt551.1 true)))) else (none)) else (some (x4, 0))
def glacisref05_Tail.j1 : Nat → List (S60) → ByteArray → Int → ByteArray → ByteArray → Bool → Option (ByteArray × Int)
 | 0, _, _, _, _, _, _ => none
 | k + 1, x0, x4, x5, x6, x9, x56 => if x56 = true then (some ((⟨#[]⟩ : ByteArray), 50)) else (glacisref05_Tail.l1 k x0 x4 x5 x6 x9 0)
def glacisref05_Tail.l1 : Nat → List (S60) → ByteArray → Int → ByteArray → ByteArray → Int → Option (ByteArray × Int)
 | 0, _, _, _, _, _, _ => none
 | k + 1, x0, x4, x5, x6, x9, x11 => if x11 < x5 then (if 0 ≤ x11 then (if x11 < (x0.length : Int) then (if ((rd_T60 x0 x11).f0).toList = x6.toList then (some ((⟨#[]⟩ : ByteArray), 50)) else (glacisref05_Tail.l1 k x0 x4 x5 x6 x9 (wrap64 (x11 + 1)))) else (none)) else (none)) else (if x4.size + 1 ≤ 9223372036854775807 then (if (x4 ++ (⟨#[59]⟩ : ByteArray)).size + x6.size ≤ 9223372036854775807 then (if 0 ≤ x5 then (if x5 < (x0.length : Int) then (if ((rd_T60 x0 x5).f1) = 6 then (if ((rd_T60 x0 x5).f2) = 1 then (glacisref05_Tail.l0 k x0 ((x4 ++ (⟨#[59]⟩ : ByteArray)) ++ x6) (wrap64 (x5 + 1))) else (if ((x4 ++ (⟨#[59]⟩ : ByteArray)) ++ x6).size + 1 ≤ 9223372036854775807 then (if (((x4 ++ (⟨#[59]⟩ : ByteArray)) ++ x6) ++ (⟨#[61]⟩ : ByteArray)).size + x9.size ≤ 9223372036854775807 then (glacisref05_Tail.l0 k x0 ((((x4 ++ (⟨#[59]⟩ : ByteArray)) ++ x6) ++ (⟨#[61]⟩ : ByteArray)) ++ x9) (wrap64 (x5 + 1))) else (none)) else (none))) else (if ((x4 ++ (⟨#[59]⟩ : ByteArray)) ++ x6).size + 1 ≤ 9223372036854775807 then (if (((x4 ++ (⟨#[59]⟩ : ByteArray)) ++ x6) ++ (⟨#[61]⟩ : ByteArray)).size + x9.size ≤ 9223372036854775807 then (glacisref05_Tail.l0 k x0 ((((x4 ++ (⟨#[59]⟩ : ByteArray)) ++ x6) ++ (⟨#[61]⟩ : ByteArray)) ++ x9) (wrap64 (x5 + 1))) else (none)) else (none))) else (none)) else (none)) else (none)) else (none))
end
def glacisref05_Tail.f (k : Nat) (l0 : List (S60)) : Option (ByteArray × Int) := glacisref05_Tail.l0 k l0 (⟨#[]⟩ : ByteArray) 0
def glacisref05_Tail.T6 : Bool × List (List Nat × List Nat) := (true, [([], []), ([], []), ([0, 1], [0, 1]), ([2], [2]), ([3], [3]), ([], []), ([], []), ([5, 6], [5, 6]), ([7], [7]), ([8], [8]), ([], []), ([], []), ([10, 11], [10, 11]), ([12], [12]), ([13], [13]), ([4, 9, 14], [4, 9, 14]), ([15], [15]), ([16], [16]), ([16], [16]), ([17, 15, 0, 1, 2, 3, 4, 5, 6, 7, 8, 9, 10, 11, 12, 13, 14, 15, 16, 17], [17]), ([18, 19, 0, 1, 2, 3, 4, 5, 6, 7, 8, 9, 10, 11, 12, 13, 14, 15, 16, 17, 18, 19], [18])])
def glacisref05_Tail.B6 : List Nat := [0, 0, 3, 7, 15, 0, 0, 96, 224, 480, 0, 0, 3072, 7168, 15360, 32767, 65535, 131071, 131071, 262143, 1048575]
theorem glacisref05_Tail.tab6 : rtab .any (opsOf Tryz.f37 6) = glacisref05_Tail.T6 := by kernel_rfl
theorem glacisref05_Tail.bits6 : waitsOk glacisref05_Tail.T6.2 glacisref05_Tail.B6 = true := by kernel_rfl
theorem glacisref05_Tail.calls (k : Nat) (A0 : Option Addr) (c0 : Nat) (l0 : List (S60)) (r1 : ByteArray) (r2 : Int) (w : World) (hT_ : Aside0 (TabW w)) (hr0 : Kd.C k60 w A0 l0.length l0) (hc0 : l0.length ≤ c0) (h : glacisref05_Tail.f k l0 = some (r1, r2)) :
  Calls Tryz.prog 37 #[.slice A0 l0.length c0] w fun e w' => e = .returned (.tuple #[.string r1, .int .i64 r2]) ∧ Below w.heap.size w w' := by
 have HR0 := Aside0.mk hr0
 have HC0 := Aside0.mk hc0
 clear hr0 hc0
 have HB := Aside0.mk (Below.refl w.heap.size w)
 have H : (glacisref05_Tail.l0 k l0 (⟨#[]⟩ : ByteArray) 0) = some (r1, r2) := h
 clear h
 have H' := Aside0.mk H
 clear H
 go_enter Tryz.func37, Tryz.ntmps37
 go_wp2
 go_loopg [4, 5] k (fun kq v4 v5 w' => ∃ (x4_1 : ByteArray) (x5_1 : Int), v4 = .string x4_1 ∧ v5 = .int .i64 x5_1 ∧ Aside0 (glacisref05_Tail.l0 kq l0 x4_1 x5_1 = some (r1, r2)) ∧ Aside0 (kq ≤ k) ∧ Aside0 (Below w.heap.size w w'))
 case atStart => exact ⟨((⟨#[]⟩ : ByteArray)), (0), (by first | rfl | simp [*]), (by first | rfl | simp [*]), H', ⟨Nat.le_refl _⟩, ⟨bl_ HB.out⟩⟩
 case round =>
  clear H'
  obtain ⟨x4_1, x5_1, rfl, rfl, HA, HK1, HB⟩ := hrel
  cases gk with
  | zero => exact absurd HA.out (by simp [glacisref05_Tail.l0])
  | succ k1 =>
   have H := HA.out
   clear HA
   simp only [glacisref05_Tail.l0] at H
   by_cases c2 : x5_1 < (l0.length : Int)
   rotate_left
   ·rw [if_neg c2] at H
    have c2b0 := decide_eq_false c2
    clear c2
    simp only [Option.some.injEq, Prod.mk.injEq] at H
    obtain ⟨rfl, rfl⟩ := H
    go_wp2
    go_ret2
    exact ⟨by first | rfl | simp [*, errW_none, errW_some, q_ne_nil], bl_ HB.out⟩
   rw [if_pos c2] at H
   have c2b0 := decide_eq_true c2
   clear c2
   replace H := ifs_ H; obtain ⟨c3, H⟩ := H
   have c3b0 := decide_eq_true c3
   clear c3
   replace H := Option.bind_eq_some_iff.mp H
   obtain ⟨⟨t545, t546, t547⟩, A40, H⟩ := H
   (try dsimp only at H)
   have A4 := Aside0.mk A40
   clear A40
   replace H := Option.bind_eq_some_iff.mp H
   obtain ⟨⟨t551, t552⟩, A50, H⟩ := H
   (try dsimp only at H)
   have A5 := Aside0.mk A50
   clear A50
   have HC6 := Aside0.mk H
   clear H
   have p544 : 0 ≤ (x5_1 : Int) := of_decide_eq_true (by assumption)
   have q544 : x5_1 < (l0.length : Int) := of_decide_eq_true (by assumption)
   obtain ⟨ad544, e544, hx544_0, hx544_1, hx544_2, hx544_3⟩ := at_T60 HR0.out x5_1 p544 q544
   cases e544
   obtain ⟨hx544_0, hx544_1, hx544_2, hx544_3⟩ := lb4_ HB.out hx544_0 hx544_1 hx544_2 hx544_3
   replace p544 := eq_true p544
   replace q544 := eq_true q544
   try go_wp2_with (first | ((with_reducible refine gate_callee (f := 36) rfl ?_); refine goesL_ (some 24) rfl rfl Tryz.func36 (by kernel_rfl) rfl #[.string ((rd_T60 l0 x5_1).f0)] rfl (by simp only [List.map_toArray, List.map_cons, List.map_nil] <;> rfl) ?_; (with_reducible refine (glacisref05_Key.calls k1 ((rd_T60 l0 x5_1).f0) t545 t546 t547 _ A4.out).mono ?_); rintro e w' ⟨rfl, ⟨nd, rfl⟩⟩; refine ⟨_, rfl, ?_⟩))
   (try (rw [drewN_self wr]; generalize hq_ : World.drewN wr _ = wr; have l_ := lq_ hq_; replace HB := Aside0.mk (bl_ (W := wr) HB.out); clear hq_ l_))
   have n0_ := Aside0.mk (below_drew1 HB.out)
   clear HB
   have HB := n0_
   clear n0_
   have p548 : 0 ≤ (x5_1 : Int) := of_decide_eq_true (by assumption)
   have q548 : x5_1 < (l0.length : Int) := of_decide_eq_true (by assumption)
   obtain ⟨ad548, e548, hx548_0, hx548_1, hx548_2, hx548_3⟩ := at_T60 HR0.out x5_1 p548 q548
   have hw548_3 := hx548_3
   have hw548_2 := hx548_2
   have hw548_1 := hx548_1
   have hw548_0 := hx548_0
   obtain rfl : ad544 = ad548 := (by injection e548)
   obtain ⟨hx548_0, hx548_1, hx548_2, hx548_3⟩ := lb4_ HB.out hx548_0 hx548_1 hx548_2 hx548_3
   replace p548 := eq_true p548
   replace q548 := eq_true q548
   have p549 : 0 ≤ (x5_1 : Int) := of_decide_eq_true (by assumption)
   have q549 : x5_1 < (l0.length : Int) := of_decide_eq_true (by assumption)
   obtain ⟨ad549, e549, hx549_0, hx549_1, hx549_2, hx549_3⟩ := at_T60 HR0.out x5_1 p549 q549
   have hw549_3 := hx549_3
   have hw549_2 := hx549_2
   have hw549_1 := hx549_1
   have hw549_0 := hx549_0
   obtain rfl : ad544 = ad549 := (by injection e549)
   obtain ⟨hx549_0, hx549_1, hx549_2, hx549_3⟩ := lb4_ HB.out hx549_0 hx549_1 hx549_2 hx549_3
   replace p549 := eq_true p549
   replace q549 := eq_true q549
   have p550 : 0 ≤ (x5_1 : Int) := of_decide_eq_true (by assumption)
   have q550 : x5_1 < (l0.length : Int) := of_decide_eq_true (by assumption)
   obtain ⟨ad550, e550, hx550_0, hx550_1, hx550_2, hx550_3⟩ := at_T60 HR0.out x5_1 p550 q550
   have hw550_3 := hx550_3
   have hw550_2 := hx550_2
   have hw550_1 := hx550_1
   have hw550_0 := hx550_0
   obtain rfl : ad544 = ad550 := (by injection e550)
   obtain ⟨hx550_0, hx550_1, hx550_2, hx550_3⟩ := lb4_ HB.out hx550_0 hx550_1 hx550_2 hx550_3
   replace p550 := eq_true p550
   replace q550 := eq_true q550
   refine start_ (n := 21) (S := fun w' => w'.cell? (ad544.add ((x5_1).toNat * 4)) = some (.string ((rd_T60 l0 x5_1).f0)) ∧ w'.cell? ⟨(ad544.add ((x5_1).toNat * 4)).block, (ad544.add ((x5_1).toNat * 4)).off + 1, none⟩ = some (.int .i64 ((rd_T60 l0 x5_1).f1)) ∧ w'.cell? ⟨(ad544.add ((x5_1).toNat * 4)).block, (ad544.add ((x5_1).toNat * 4)).off + 2, none⟩ = some (.int .i64 ((rd_T60 l0 x5_1).f2)) ∧ w'.cell? ⟨(ad544.add ((x5_1).toNat * 4)).block, (ad544.add ((x5_1).toNat * 4)).off + 3, none⟩ = some (.string ((rd_T60 l0 x5_1).f3)) ∧ w'.cell? (ad544.add ((x5_1).toNat * 4)) = some (.string ((rd_T60 l0 x5_1).f0)) ∧ w'.cell? ⟨(ad544.add ((x5_1).toNat * 4)).block, (ad544.add ((x5_1).toNat * 4)).off + 1, none⟩ = some (.int .i64 ((rd_T60 l0 x5_1).f1)) ∧ w'.cell? ⟨(ad544.add ((x5_1).toNat * 4)).block, (ad544.add ((x5_1).toNat * 4)).off + 2, none⟩ = some (.int .i64 ((rd_T60 l0 x5_1).f2)) ∧ w'.cell? ⟨(ad544.add ((x5_1).toNat * 4)).block, (ad544.add ((x5_1).toNat * 4)).off + 3, none⟩ = some (.string ((rd_T60 l0 x5_1).f3)) ∧ w'.cell? (ad544.add ((x5_1).toNat * 4)) = some (.string ((rd_T60 l0 x5_1).f0)) ∧ w'.cell? ⟨(ad544.add ((x5_1).toNat * 4)).block, (ad544.add ((x5_1).toNat * 4)).off + 1, none⟩ = some (.int .i64 ((rd_T60 l0 x5_1).f1)) ∧ w'.cell? ⟨(ad544.add ((x5_1).toNat * 4)).block, (ad544.add ((x5_1).toNat * 4)).off + 2, none⟩ = some (.int .i64 ((rd_T60 l0 x5_1).f2)) ∧ w'.cell? ⟨(ad544.add ((x5_1).toNat * 4)).block, (ad544.add ((x5_1).toNat * 4)).off + 3, none⟩ = some (.string ((rd_T60 l0 x5_1).f3))) (ds := []) #[false,false,false,false,false,false,false,false,false,false,false,false,false,false,false,false,false,false,false,false,false] (by kernel_rfl) rfl rfl ⟨(lc_ HB.out hw548_0), (lc_ HB.out hw548_1), (lc_ HB.out hw548_2), (lc_ HB.out hw548_3), (lc_ HB.out hw549_0), (lc_ HB.out hw549_1), (lc_ HB.out hw549_2), (lc_ HB.out hw549_3), (lc_ HB.out hw550_0), (lc_ HB.out hw550_1), (lc_ HB.out hw550_2), (lc_ HB.out hw550_3)⟩ (fun hHeld => ?_); refine with_tabW glacisref05_Tail.tab6 glacisref05_Tail.bits6 (fun HT_ HW_ => ?_)
   generalize wr.drew = w7 at HB hx548_0 hx548_1 hx548_2 hx548_3 hx549_0 hx549_1 hx549_2 hx549_3 hx550_0 hx550_1 hx550_2 hx550_3 hHeld ⊢
   refine pure_ (i := 0) (N := some 29) (v := ?_) (a' := ?_) #[true,false,false,false,false,false,false,false,false,false,false,false,false,false,false,false,false,false,false,false,false] rfl rfl (any_of HT_.out (by kernel_rfl)) (fun _ _ _ h => h) (Or.inl ⟨by rfl, ?_⟩) ?_ ?_; rotate_left; (intro w'; go_simp; with_reducible rfl); rotate_left; (simp only [Act.put, List.setIfInBounds_toArray, List.set_cons_zero, List.set_cons_succ, i64_w, i32_w]; rfl)
   refine pure_ (i := 1) (N := some 30) (v := ?_) (a' := ?_) #[true,true,false,false,false,false,false,false,false,false,false,false,false,false,false,false,false,false,false,false,false] rfl rfl (any_of HT_.out (by kernel_rfl)) (fun _ _ _ h => h) (Or.inl ⟨by rfl, ?_⟩) ?_ ?_; rotate_left; (intro w'; go_simp; with_reducible rfl); rotate_left; (simp only [Act.put, List.setIfInBounds_toArray, List.set_cons_zero, List.set_cons_succ, i64_w, i32_w]; rfl)
   refine pure_ (i := 2) (N := some 31) (v := ?_) (a' := ?_) #[true,true,true,false,false,false,false,false,false,false,false,false,false,false,false,false,false,false,false,false,false] rfl rfl (any_of HT_.out (by kernel_rfl)) (fun _ _ _ h => h) (Or.inl ⟨by rfl, ?_⟩) ?_ ?_; rotate_left; (intro w'; go_simp; with_reducible rfl); rotate_left; (simp only [Act.put, List.setIfInBounds_toArray, List.set_cons_zero, List.set_cons_succ, i64_w, i32_w]; rfl)
   refine pure_ (i := 3) (N := some 32) (v := ?_) (a' := ?_) #[true,true,true,true,false,false,false,false,false,false,false,false,false,false,false,false,false,false,false,false,false] rfl rfl (any_of HT_.out (by kernel_rfl)) (fun _ _ _ h => h) (Or.inl ⟨by rfl, ?_⟩) ?_ ?_; rotate_left; (intro w'; go_simp; with_reducible rfl); rotate_left; (simp only [Act.put, List.setIfInBounds_toArray, List.set_cons_zero, List.set_cons_succ, i64_w, i32_w]; rfl)
   refine pure_ (i := 5) (N := some 34) (v := ?_) (a' := ?_) #[true,true,true,true,false,true,false,false,false,false,false,false,false,false,false,false,false,false,false,false,false] rfl rfl (any_of HT_.out (by kernel_rfl)) (fun _ _ _ h => h) (Or.inl ⟨by rfl, ?_⟩) ?_ ?_; rotate_left; (intro w'; go_simp; with_reducible rfl); rotate_left; (simp only [Act.put, List.setIfInBounds_toArray, List.set_cons_zero, List.set_cons_succ, i64_w, i32_w]; rfl)
   refine pure_ (i := 6) (N := some 35) (v := ?_) (a' := ?_) #[true,true,true,true,false,true,true,false,false,false,false,false,false,false,false,false,false,false,false,false,false] rfl rfl (any_of HT_.out (by kernel_rfl)) (fun _ _ _ h => h) (Or.inl ⟨by rfl, ?_⟩) ?_ ?_; rotate_left; (intro w'; go_simp; with_reducible rfl); rotate_left; (simp only [Act.put, List.setIfInBounds_toArray, List.set_cons_zero, List.set_cons_succ, i64_w, i32_w]; rfl)
   refine pure_ (i := 7) (N := some 36) (v := ?_) (a' := ?_) #[true,true,true,true,false,true,true,true,false,false,false,false,false,false,false,false,false,false,false,false,false] rfl rfl (any_of HT_.out (by kernel_rfl)) (fun _ _ _ h => h) (Or.inl ⟨by rfl, ?_⟩) ?_ ?_; rotate_left; (intro w'; go_simp; with_reducible rfl); rotate_left; (simp only [Act.put, List.setIfInBounds_toArray, List.set_cons_zero, List.set_cons_succ, i64_w, i32_w]; rfl)
   refine pure_ (i := 8) (N := some 37) (v := ?_) (a' := ?_) #[true,true,true,true,false,true,true,true,true,false,false,false,false,false,false,false,false,false,false,false,false] rfl rfl (any_of HT_.out (by kernel_rfl)) (fun _ _ _ h => h) (Or.inl ⟨by rfl, ?_⟩) ?_ ?_; rotate_left; (intro w'; go_simp; with_reducible rfl); rotate_left; (simp only [Act.put, List.setIfInBounds_toArray, List.set_cons_zero, List.set_cons_succ, i64_w, i32_w]; rfl)
   refine pure_ (i := 10) (N := some 39) (v := ?_) (a' := ?_) #[true,true,true,true,false,true,true,true,true,false,true,false,false,false,false,false,false,false,false,false,false] rfl rfl (any_of HT_.out (by kernel_rfl)) (fun _ _ _ h => h) (Or.inl ⟨by rfl, ?_⟩) ?_ ?_; rotate_left; (intro w'; go_simp; with_reducible rfl); rotate_left; (simp only [Act.put, List.setIfInBounds_toArray, List.set_cons_zero, List.set_cons_succ, i64_w, i32_w]; rfl)
   refine pure_ (i := 11) (N := some 40) (v := ?_) (a' := ?_) #[true,true,true,true,false,true,true,true,true,false,true,true,false,false,false,false,false,false,false,false,false] rfl rfl (any_of HT_.out (by kernel_rfl)) (fun _ _ _ h => h) (Or.inl ⟨by rfl, ?_⟩) ?_ ?_; rotate_left; (intro w'; go_simp; with_reducible rfl); rotate_left; (simp only [Act.put, List.setIfInBounds_toArray, List.set_cons_zero, List.set_cons_succ, i64_w, i32_w]; rfl)
   refine pure_ (i := 12) (N := some 41) (v := ?_) (a' := ?_) #[true,true,true,true,false,true,true,true,true,false,true,true,true,false,false,false,false,false,false,false,false] rfl rfl (any_of HT_.out (by kernel_rfl)) (fun _ _ _ h => h) (Or.inl ⟨by rfl, ?_⟩) ?_ ?_; rotate_left; (intro w'; go_simp; with_reducible rfl); rotate_left; (simp only [Act.put, List.setIfInBounds_toArray, List.set_cons_zero, List.set_cons_succ, i64_w, i32_w]; rfl)
   refine pure_ (i := 13) (N := some 42) (v := ?_) (a' := ?_) #[true,true,true,true,false,true,true,true,true,false,true,true,true,true,false,false,false,false,false,false,false] rfl rfl (any_of HT_.out (by kernel_rfl)) (fun _ _ _ h => h) (Or.inl ⟨by rfl, ?_⟩) ?_ ?_; rotate_left; (intro w'; go_simp; with_reducible rfl); rotate_left; (simp only [Act.put, List.setIfInBounds_toArray, List.set_cons_zero, List.set_cons_succ, i64_w, i32_w]; rfl)
   refine take_ (i := 4) (N := some 33) (v := ?_) (a' := ?_) #[true,true,true,true,true,true,true,true,true,false,true,true,true,true,false,false,false,false,false,false,false] rfl rfl (take_ofW HT_.out HW_.out (by kernel_rfl)) (fun _ _ _ h => h) (Or.inl ⟨by rfl, ?_⟩) hHeld ?_ ?_
   rotate_left
   ·rintro w' ⟨s0, s1, s2, s3, s4, s5, s6, s7, s8, s9, s10, s11⟩
    go_simp
    with_reducible rfl
   rotate_left
   ·simp only [Act.put, List.setIfInBounds_toArray, List.set_cons_zero, List.set_cons_succ, i64_w, i32_w]
    rfl
   refine take_ (i := 9) (N := some 38) (v := ?_) (a' := ?_) #[true,true,true,true,true,true,true,true,true,true,true,true,true,true,false,false,false,false,false,false,false] rfl rfl (take_ofW HT_.out HW_.out (by kernel_rfl)) (fun _ _ _ h => h) (Or.inl ⟨by rfl, ?_⟩) hHeld ?_ ?_
   rotate_left
   ·rintro w' ⟨s0, s1, s2, s3, s4, s5, s6, s7, s8, s9, s10, s11⟩
    go_simp
    with_reducible rfl
   rotate_left
   ·simp only [Act.put, List.setIfInBounds_toArray, List.set_cons_zero, List.set_cons_succ, i64_w, i32_w]
    rfl
   refine take_ (i := 14) (N := some 43) (v := ?_) (a' := ?_) #[true,true,true,true,true,true,true,true,true,true,true,true,true,true,true,false,false,false,false,false,false] rfl rfl (take_ofW HT_.out HW_.out (by kernel_rfl)) (fun _ _ _ h => h) (Or.inl ⟨by rfl, ?_⟩) hHeld ?_ ?_
   rotate_left
   ·rintro w' ⟨s0, s1, s2, s3, s4, s5, s6, s7, s8, s9, s10, s11⟩
    go_simp
    with_reducible rfl
   rotate_left
   ·simp only [Act.put, List.setIfInBounds_toArray, List.set_cons_zero, List.set_cons_succ, i64_w, i32_w]
    rfl
   refine one_ (i := 15) (N := some 44) #[true,true,true,true,true,true,true,true,true,true,true,true,true,true,true,true,false,false,false,false,false] rfl rfl (one_of HT_.out (by kernel_rfl)) (by decide) (fun K hK => ?_)
   refine goes_ Tryz.func67 (by kernel_rfl) rfl #[.int .i64 ((rd_T60 l0 x5_1).f1), .int .i64 ((rd_T60 l0 x5_1).f2), .string ((rd_T60 l0 x5_1).f3)] (by rfl) rfl rfl (by simp only [List.map_toArray, List.map_cons, List.map_nil] <;> rfl) ?_
   with_reducible refine (glacisref05_Value.calls k1 ((rd_T60 l0 x5_1).f1) ((rd_T60 l0 x5_1).f2) ((rd_T60 l0 x5_1).f3) t551 t552 _ (tab_ hT_ ?hTab) A5.out).mono ?_
   case hTab => exact (bl_ HB.out)
   rintro e w8 ⟨rfl, hb⟩
   refine ⟨_, rfl, ?_⟩
   have n0_ := bs_ HB hb
   clear HB
   have HB := n0_
   clear n0_
   (try clear hb)
   (try clear hb2)
   (try clear hk)
   (try clear hi)
   refine hK.out _ _ ⟨(lc_ HB.out hw548_0), (lc_ HB.out hw548_1), (lc_ HB.out hw548_2), (lc_ HB.out hw548_3), (lc_ HB.out hw549_0), (lc_ HB.out hw549_1), (lc_ HB.out hw549_2), (lc_ HB.out hw549_3), (lc_ HB.out hw550_0), (lc_ HB.out hw550_1), (lc_ HB.out hw550_2), (lc_ HB.out hw550_3)⟩ (fun hHeld => ?_)
   clear hK K
   refine norm_ (a' := ?_) ?_ ?_
   rotate_left
   ·show Act.put _ (some 44) _ = _
    simp only [Act.put, List.setIfInBounds_toArray, List.set_cons_zero, List.set_cons_succ, i64_w, i32_w]
    rfl
   refine pure_ (i := 16) (N := some 28) (v := ?_) (a' := ?_) #[true,true,true,true,true,true,true,true,true,true,true,true,true,true,true,true,true,false,false,false,false] rfl rfl (any_of HT_.out (by kernel_rfl)) (fun _ _ _ h => h) (Or.inl ⟨by rfl, ?_⟩) ?_ ?_; rotate_left; (intro w'; go_simp; with_reducible rfl); rotate_left; (simp only [Act.put, List.setIfInBounds_toArray, List.set_cons_zero, List.set_cons_succ, i64_w, i32_w]; rfl)
   refine pure_ (i := 17) (N := some 45) (v := ?_) (a' := ?_) #[true,true,true,true,true,true,true,true,true,true,true,true,true,true,true,true,true,true,false,false,false] rfl rfl (any_of HT_.out (by kernel_rfl)) (fun _ _ _ h => h) (Or.inl ⟨by rfl, ?_⟩) ?_ ?_; rotate_left; (intro w'; go_simp; with_reducible rfl); rotate_left; (simp only [Act.put, List.setIfInBounds_toArray, List.set_cons_zero, List.set_cons_succ, i64_w, i32_w]; rfl)
   refine pure_ (i := 18) (N := some 46) (v := ?_) (a' := ?_) #[true,true,true,true,true,true,true,true,true,true,true,true,true,true,true,true,true,true,true,false,false] rfl rfl (any_of HT_.out (by kernel_rfl)) (fun _ _ _ h => h) (Or.inl ⟨by rfl, ?_⟩) ?_ ?_; rotate_left; (intro w'; go_simp; with_reducible rfl); rotate_left; (simp only [Act.put, List.setIfInBounds_toArray, List.set_cons_zero, List.set_cons_succ, i64_w, i32_w]; rfl)
   refine pure_ (i := 19) (N := some 9) (v := ?_) (a' := ?_) #[true,true,true,true,true,true,true,true,true,true,true,true,true,true,true,true,true,true,true,true,false] rfl rfl (any_of HT_.out (by kernel_rfl)) (fun _ _ _ h => h) (Or.inl ⟨by rfl, ?_⟩) ?_ ?_; rotate_left; (intro w'; go_simp; with_reducible rfl); rotate_left; (simp only [Act.put, List.setIfInBounds_toArray, List.set_cons_zero, List.set_cons_succ, i64_w, i32_w]; rfl)
   refine pure_ (i := 20) (N := some 10) (v := ?_) (a' := ?_) #[true,true,true,true,true,true,true,true,true,true,true,true,true,true,true,true,true,true,true,true,true] rfl rfl (any_of HT_.out (by kernel_rfl)) (fun _ _ _ h => h) (Or.inl ⟨by rfl, ?_⟩) ?_ ?_; rotate_left; (intro w'; go_simp; with_reducible rfl); rotate_left; (simp only [Act.put, List.setIfInBounds_toArray, List.set_cons_zero, List.set_cons_succ, i64_w, i32_w]; rfl)
   refine done_ (done_of HT_.out (by kernel_rfl)) ?_
   go_upto_region 7 with (fail)
   go_cut [56] (fun v56 wc => ∃ (kq : Nat) (x56_5 : Bool), v56 = .bool x56_5 ∧ Aside0 (glacisref05_Tail.j1 kq l0 x4_1 x5_1 t545 t551 x56_5 = some (r1, r2)) ∧ Aside0 (kq ≤ k1) ∧ Aside0 (Below w.heap.size w wc))
   case first =>
    have H := HC6.out
    clear HC6
    by_cases c9 : t547 = 0
    ·rw [if_pos c9] at H
     obtain ⟨c9b0, c9b1⟩ := eT_ c9
     clear c9
     (first | rw [c9b0] | (simp only [i64_w, i32_w]; rw [c9b0]) | skip)
     by_cases c10 : t546.toList = ([] : List UInt8)
     ·rw [if_pos c10] at H
      obtain ⟨c10b0, c10b1⟩ := eT_ c10
      clear c10
      have H' := Aside0.mk H
      clear H
      go_wp2
      go_meet
      case rel => exact ⟨_, (!t552), (by first | rfl | simp [*]), H', ⟨by have := HK1.out; first | omega | exact Nat.le_refl _⟩, ⟨bl_ HB.out⟩⟩
     rw [if_neg c10] at H
     obtain ⟨c10b0, c10b1⟩ := eF_ c10
     have H' := Aside0.mk H
     clear H
     go_wp2
     go_meet
     case rel => exact ⟨_, (true), (by first | rfl | simp [*]), H', ⟨by have := HK1.out; first | omega | exact Nat.le_refl _⟩, ⟨bl_ HB.out⟩⟩
    rw [if_neg c9] at H
    obtain ⟨c9b0, c9b1⟩ := eF_ c9
    (first | rw [c9b0] | (simp only [i64_w, i32_w]; rw [c9b0]) | skip)
    have H' := Aside0.mk H
    clear H
    go_wp2
    go_meet
    case rel => exact ⟨_, (true), (by first | rfl | simp [*]), H', ⟨by have := HK1.out; first | omega | exact Nat.le_refl _⟩, ⟨bl_ HB.out⟩⟩
   case rest =>
    clear HC6
    (try clear c1)
    obtain ⟨kq, x56_5, rfl, HA, HJ5, HB⟩ := hcut
    cases kq with
    | zero => exact absurd HA.out (by simp [glacisref05_Tail.j1])
    | succ kj5 =>
     have H := HA.out
     clear HA
     simp only [glacisref05_Tail.j1] at H
     by_cases c11 : x56_5 = true
     ·subst c11
      rw [if_pos rfl] at H
      simp only [Option.some.injEq, Prod.mk.injEq] at H
      obtain ⟨rfl, rfl⟩ := H
      go_wp2
      go_ret2
      exact ⟨by first | rfl | simp [*, errW_none, errW_some, q_ne_nil], bl_ HB.out⟩
     replace c11 := Bool.eq_false_iff.mpr c11
     subst c11
     rw [if_neg (show ¬ (false = true) by decide)] at H
     have H' := Aside0.mk H
     clear H
     go_wp2
     go_loopg [11] kj5 (fun kq v11 w' => ∃ (x11_3 : Int), v11 = .int .i64 x11_3 ∧ Aside0 (glacisref05_Tail.l1 kq l0 x4_1 x5_1 t545 t551 x11_3 = some (r1, r2)) ∧ Aside0 (kq ≤ kj5) ∧ Aside0 (Below w.heap.size w w'))
     case atStart => exact ⟨(0), (by first | rfl | simp [*]), H', ⟨Nat.le_refl _⟩, ⟨bl_ HB.out⟩⟩
     case round =>
      clear H'
      (try clear c1)
      obtain ⟨x11_3, rfl, HA, HK3, HB⟩ := hrel
      cases gk with
      | zero => exact absurd HA.out (by simp [glacisref05_Tail.l1])
      | succ k3 =>
       have H := HA.out
       clear HA
       simp only [glacisref05_Tail.l1] at H
       by_cases c12 : x11_3 < x5_1
       ·rw [if_pos c12] at H
        have c12b0 := decide_eq_true c12
        clear c12
        replace H := ifs_ H; obtain ⟨c13, H⟩ := H
        have c13b0 := decide_eq_true c13
        clear c13
        replace H := ifs_ H; obtain ⟨c14, H⟩ := H
        have c14b0 := decide_eq_true c14
        clear c14
        by_cases c15 : ((rd_T60 l0 x11_3).f0).toList = t545.toList
        ·rw [if_pos c15] at H
         obtain ⟨c15b0, c15b1⟩ := eT_ c15
         clear c15
         simp only [Option.some.injEq, Prod.mk.injEq] at H
         obtain ⟨rfl, rfl⟩ := H
         have p553 : 0 ≤ (x11_3 : Int) := of_decide_eq_true (by assumption)
         have q553 : x11_3 < (l0.length : Int) := of_decide_eq_true (by assumption)
         obtain ⟨ad553, e553, hx553_0, hx553_1, hx553_2, hx553_3⟩ := at_T60 HR0.out x11_3 p553 q553
         obtain rfl : ad544 = ad553 := (by injection e553)
         obtain ⟨hx553_0, hx553_1, hx553_2, hx553_3⟩ := lb4_ HB.out hx553_0 hx553_1 hx553_2 hx553_3
         replace p553 := eq_true p553
         replace q553 := eq_true q553
         go_wp2
         go_ret2
         exact ⟨by first | rfl | simp [*, errW_none, errW_some, q_ne_nil], bl_ HB.out⟩
        rw [if_neg c15] at H
        obtain ⟨c15b0, c15b1⟩ := eF_ c15
        have H' := Aside0.mk H
        clear H
        have p553 : 0 ≤ (x11_3 : Int) := of_decide_eq_true (by assumption)
        have q553 : x11_3 < (l0.length : Int) := of_decide_eq_true (by assumption)
        obtain ⟨ad553, e553, hx553_0, hx553_1, hx553_2, hx553_3⟩ := at_T60 HR0.out x11_3 p553 q553
        obtain rfl : ad544 = ad553 := (by injection e553)
        obtain ⟨hx553_0, hx553_1, hx553_2, hx553_3⟩ := lb4_ HB.out hx553_0 hx553_1 hx553_2 hx553_3
        replace p553 := eq_true p553
        replace q553 := eq_true q553
        go_wp2
        go_roundg k3
        case measure => have := HK1.out; have := HJ5.out; have := HK3.out; omega
        case rel => exact ⟨(wrap64 (x11_3 + 1)), (by first | rfl | simp [*]), H', ⟨by have := HK1.out; have := HJ5.out; have := HK3.out; omega⟩, ⟨bl_ HB.out⟩⟩
       rw [if_neg c12] at H
       have c12b0 := decide_eq_false c12
       clear c12
       replace H := ifs_ H; obtain ⟨c16, H⟩ := H
       have c16b0 := eq_true c16
       have c16b1 := decide_eq_true c16
       try have c16b2 : (9223372036854775807 < x4_1.size + 1) = False := eq_false (Nat.not_lt.2 c16)
       replace H := ifs_ H; obtain ⟨c17, H⟩ := H
       have c17b0 := eq_true c17
       have c17b1 := decide_eq_true c17
       try have c17b2 : (9223372036854775807 < (x4_1 ++ (⟨#[59]⟩ : ByteArray)).size + t545.size) = False := eq_false (Nat.not_lt.2 c17)
       try (have c17d : (9223372036854775807 < x4_1.size + 1 + t545.size) = False := eq_false (by have h_ := c17; simp only [ByteArray.size_append] at h_; exact Nat.not_lt.2 h_))
       replace H := ifs_ H; obtain ⟨c18, H⟩ := H
       have c18b0 := decide_eq_true c18
       clear c18
       replace H := ifs_ H; obtain ⟨c19, H⟩ := H
       have c19b0 := decide_eq_true c19
       clear c19
       by_cases c20 : ((rd_T60 l0 x5_1).f1) = 6
       rotate_left
       ·rw [if_neg c20] at H
        obtain ⟨c20b0, c20b1⟩ := eF_ c20
        replace H := ifs_ H; obtain ⟨c24, H⟩ := H
        have c24b0 := eq_true c24
        have c24b1 := decide_eq_true c24
        try have c24b2 : (9223372036854775807 < ((x4_1 ++ (⟨#[59]⟩ : ByteArray)) ++ t545).size + 1) = False := eq_false (Nat.not_lt.2 c24)
        try (have c24d : (9223372036854775807 < x4_1.size + 1 + t545.size + 1) = False := eq_false (by have h_ := c24; simp only [ByteArray.size_append] at h_; exact Nat.not_lt.2 h_))
        replace H := ifs_ H; obtain ⟨c25, H⟩ := H
        have c25b0 := eq_true c25
        have c25b1 := decide_eq_true c25
        try have c25b2 : (9223372036854775807 < (((x4_1 ++ (⟨#[59]⟩ : ByteArray)) ++ t545) ++ (⟨#[61]⟩ : ByteArray)).size + t551.size) = False := eq_false (Nat.not_lt.2 c25)
        try (have c25d : (9223372036854775807 < x4_1.size + 1 + t545.size + 1 + t551.size) = False := eq_false (by have h_ := c25; simp only [ByteArray.size_append] at h_; exact Nat.not_lt.2 h_))
        have H' := Aside0.mk H
        clear H
        have p554 : 0 ≤ (x5_1 : Int) := of_decide_eq_true (by assumption)
        have q554 : x5_1 < (l0.length : Int) := of_decide_eq_true (by assumption)
        obtain ⟨ad554, e554, hx554_0, hx554_1, hx554_2, hx554_3⟩ := at_T60 HR0.out x5_1 p554 q554
        obtain rfl : ad544 = ad554 := (by injection e554)
        obtain ⟨hx554_0, hx554_1, hx554_2, hx554_3⟩ := lb4_ HB.out hx554_0 hx554_1 hx554_2 hx554_3
        replace p554 := eq_true p554
        replace q554 := eq_true q554
        go_wp2
        go_roundg k3
        case measure => have := HK1.out; have := HJ5.out; have := HK3.out; omega
        case rel => exact ⟨((((x4_1 ++ (⟨#[59]⟩ : ByteArray)) ++ t545) ++ (⟨#[61]⟩ : ByteArray)) ++ t551), (wrap64 (x5_1 + 1)), (by first | rfl | simp [*]), (by first | rfl | simp [*]), H', ⟨by have := HK1.out; have := HJ5.out; have := HK3.out; omega⟩, ⟨bl_ HB.out⟩⟩
       rw [if_pos c20] at H
       obtain ⟨c20b0, c20b1⟩ := eT_ c20
       clear c20
       by_cases c21 : ((rd_T60 l0 x5_1).f2) = 1
       ·rw [if_pos c21] at H
        obtain ⟨c21b0, c21b1⟩ := eT_ c21
        clear c21
        have H' := Aside0.mk H
        clear H
        have p554 : 0 ≤ (x5_1 : Int) := of_decide_eq_true (by assumption)
        have q554 : x5_1 < (l0.length : Int) := of_decide_eq_true (by assumption)
        obtain ⟨ad554, e554, hx554_0, hx554_1, hx554_2, hx554_3⟩ := at_T60 HR0.out x5_1 p554 q554
        obtain rfl : ad544 = ad554 := (by injection e554)
        obtain ⟨hx554_0, hx554_1, hx554_2, hx554_3⟩ := lb4_ HB.out hx554_0 hx554_1 hx554_2 hx554_3
        replace p554 := eq_true p554
        replace q554 := eq_true q554
        have p555 : 0 ≤ (x5_1 : Int) := of_decide_eq_true (by assumption)
        have q555 : x5_1 < (l0.length : Int) := of_decide_eq_true (by assumption)
        obtain ⟨ad555, e555, hx555_0, hx555_1, hx555_2, hx555_3⟩ := at_T60 HR0.out x5_1 p555 q555
        obtain rfl : ad544 = ad555 := (by injection e555)
        obtain ⟨hx555_0, hx555_1, hx555_2, hx555_3⟩ := lb4_ HB.out hx555_0 hx555_1 hx555_2 hx555_3
        replace p555 := eq_true p555
        replace q555 := eq_true q555
        go_wp2
        go_roundg k3
        case measure => have := HK1.out; have := HJ5.out; have := HK3.out; omega
        case rel => exact ⟨((x4_1 ++ (⟨#[59]⟩ : ByteArray)) ++ t545), (wrap64 (x5_1 + 1)), (by first | rfl | simp [*]), (by first | rfl | simp [*]), H', ⟨by have := HK1.out; have := HJ5.out; have := HK3.out; omega⟩, ⟨bl_ HB.out⟩⟩
       rw [if_neg c21] at H
       obtain ⟨c21b0, c21b1⟩ := eF_ c21
       replace H := ifs_ H; obtain ⟨c22, H⟩ := H
       have c22b0 := eq_true c22
       have c22b1 := decide_eq_true c22
       try have c22b2 : (9223372036854775807 < ((x4_1 ++ (⟨#[59]⟩ : ByteArray)) ++ t545).size + 1) = False := eq_false (Nat.not_lt.2 c22)
       try (have c22d : (9223372036854775807 < x4_1.size + 1 + t545.size + 1) = False := eq_false (by have h_ := c22; simp only [ByteArray.size_append] at h_; exact Nat.not_lt.2 h_))
       replace H := ifs_ H; obtain ⟨c23, H⟩ := H
       have c23b0 := eq_true c23
       have c23b1 := decide_eq_true c23
       try have c23b2 : (9223372036854775807 < (((x4_1 ++ (⟨#[59]⟩ : ByteArray)) ++ t545) ++ (⟨#[61]⟩ : ByteArray)).size + t551.size) = False := eq_false (Nat.not_lt.2 c23)
       try (have c23d : (9223372036854775807 < x4_1.size + 1 + t545.size + 1 + t551.size) = False := eq_false (by have h_ := c23; simp only [ByteArray.size_append] at h_; exact Nat.not_lt.2 h_))
       have H' := Aside0.mk H
       clear H
       have p554 : 0 ≤ (x5_1 : Int) := of_decide_eq_true (by assumption)
       have q554 : x5_1 < (l0.length : Int) := of_decide_eq_true (by assumption)
       obtain ⟨ad554, e554, hx554_0, hx554_1, hx554_2, hx554_3⟩ := at_T60 HR0.out x5_1 p554 q554
       obtain rfl : ad544 = ad554 := (by injection e554)
       obtain ⟨hx554_0, hx554_1, hx554_2, hx554_3⟩ := lb4_ HB.out hx554_0 hx554_1 hx554_2 hx554_3
       replace p554 := eq_true p554
       replace q554 := eq_true q554
       have p555 : 0 ≤ (x5_1 : Int) := of_decide_eq_true (by assumption)
       have q555 : x5_1 < (l0.length : Int) := of_decide_eq_true (by assumption)
       obtain ⟨ad555, e555, hx555_0, hx555_1, hx555_2, hx555_3⟩ := at_T60 HR0.out x5_1 p555 q555
       obtain rfl : ad544 = ad555 := (by injection e555)
       obtain ⟨hx555_0, hx555_1, hx555_2, hx555_3⟩ := lb4_ HB.out hx555_0 hx555_1 hx555_2 hx555_3
       replace p555 := eq_true p555
       replace q555 := eq_true q555
       go_wp2
       go_roundg k3
       case measure => have := HK1.out; have := HJ5.out; have := HK3.out; omega
       case rel => exact ⟨((((x4_1 ++ (⟨#[59]⟩ : ByteArray)) ++ t545) ++ (⟨#[61]⟩ : ByteArray)) ++ t551), (wrap64 (x5_1 + 1)), (by first | rfl | simp [*]), (by first | rfl | simp [*]), H', ⟨by have := HK1.out; have := HJ5.out; have := HK3.out; omega⟩, ⟨bl_ HB.out⟩⟩
def glacisref05_Text.f (k : Nat) (a0_0 : Int) (a0_1 : Int) (a0_2 : ByteArray) (l0_3 : List (S60)) : Option (ByteArray × Int) := (glacisref05_Value.f k a0_0 a0_1 a0_2).bind fun bt557 => ((glacisref05_Tail.f k l0_3).bind fun bt559 => (if bt557.2 = true then (if bt559.2 = 0 then (if bt557.1.size + bt559.1.size ≤ 9223372036854775807 then (some (bt557.1 ++ bt559.1, 0)) else (none)) else (some ((⟨#[]⟩ : ByteArray), 50))) else (some ((⟨#[]⟩ : ByteArray), 50))))
theorem glacisref05_Text.calls (k : Nat) (a0_0 : Int) (a0_1 : Int) (a0_2 : ByteArray) (A0_3 : Option Addr) (c0_3 : Nat) (l0_3 : List (S60)) (r1 : ByteArray) (r2 : Int) (w : World) (hT_ : Aside0 (TabW w)) (hr0_3 : Kd.C k60 w A0_3 l0_3.length l0_3) (hc0_3 : l0_3.length ≤ c0_3) (h : glacisref05_Text.f k a0_0 a0_1 a0_2 l0_3 = some (r1, r2)) :
  Calls Tryz.prog 62 #[.agg #[.int .i64 a0_0, .int .i64 a0_1, .string a0_2, .slice A0_3 l0_3.length c0_3]] w fun e w' => e = .returned (.tuple #[.string r1, .int .i64 r2]) ∧ Below w.heap.size w w' := by
 have hu31 := Tryz.underlying31
 have HR0_3 := Aside0.mk hr0_3
 have HC0_3 := Aside0.mk hc0_3
 clear hr0_3 hc0_3
 have HB := Aside0.mk (Below.refl w.heap.size w)
 have H : ((glacisref05_Value.f k a0_0 a0_1 a0_2).bind fun bt557 => ((glacisref05_Tail.f k l0_3).bind fun bt559 => (if bt557.2 = true then (if bt559.2 = 0 then (if bt557.1.size + bt559.1.size ≤ 9223372036854775807 then (some (bt557.1 ++ bt559.1, 0)) else (none)) else (some ((⟨#[]⟩ : ByteArray), 50))) else (some ((⟨#[]⟩ : ByteArray), 50))))) = some (r1, r2) := h
 clear h
 replace H := Option.bind_eq_some_iff.mp H
 obtain ⟨⟨t557, t558⟩, A20, H⟩ := H
 (try dsimp only at H)
 have A2 := Aside0.mk A20
 clear A20
 replace H := Option.bind_eq_some_iff.mp H
 obtain ⟨⟨t559, t560⟩, A30, H⟩ := H
 (try dsimp only at H)
 have A3 := Aside0.mk A30
 clear A30
 by_cases c4 : t558 = true
 ·subst c4
  rw [if_pos rfl] at H
  by_cases c5 : t560 = 0
  ·rw [if_pos c5] at H
   obtain ⟨c5b0, c5b1⟩ := eT_ c5
   clear c5
   replace H := ifs_ H; obtain ⟨c6, H⟩ := H
   have c6b0 := eq_true c6
   have c6b1 := decide_eq_true c6
   try have c6b2 : (9223372036854775807 < t557.size + t559.size) = False := eq_false (Nat.not_lt.2 c6)
   simp only [Option.some.injEq, Prod.mk.injEq] at H
   obtain ⟨rfl, rfl⟩ := H
   go_enter Tryz.func62, Tryz.ntmps62
   go_wp2_with (first | ((with_reducible refine gate_dst (N := 1) rfl ?_); refine box_event ?hg (N := 1) ?hd (cs := #[.int .i64 a0_0, .int .i64 a0_1, .string a0_2, .slice A0_3 l0_3.length c0_3]) (t := 31) ?hr ?_; (case hd => rfl); (case hg => rfl); (case hr => first | (go_simp; done) | (go_simp; rfl)); intro gb556 hg w7 hbox hb; have BK556 := Aside0.mk (hbox); have GW556 := Aside0.mk ((hg_ hg (bl_ HB.out))); have GE556 := Aside0.mk ((hg_ hg (bl_ HB.out))); replace HB := bs_ HB hb; clear hb hbox hg; obtain ⟨hcz8_0, hcz8_1, hcz8_2, hcz8_3⟩ := c4_ BK556.out; obtain ⟨hfz8_0, hfz8_1, hfz8_2, hfz8_3⟩ := f4_ BK556.out) | ((with_reducible refine gate_callee (f := 67) rfl ?_); refine goesL_ (some 15) rfl rfl Tryz.func67 (by kernel_rfl) rfl #[.int .i64 a0_0, .int .i64 a0_1, .string a0_2] rfl (by simp only [List.map_toArray, List.map_cons, List.map_nil] <;> rfl) ?_; (with_reducible refine (glacisref05_Value.calls k a0_0 a0_1 a0_2 t557 true _ (tab_ hT_ ?hTab) A2.out).mono ?_); (case hTab => exact (bl_ HB.out)); rintro e w9 ⟨rfl, hb⟩; refine ⟨_, rfl, ?_⟩; replace BK556 := kb_ BK556 hb; replace HB := bs_ HB hb; (try clear hb); obtain ⟨hcz10_0, hcz10_1, hcz10_2, hcz10_3⟩ := c4_ BK556.out; obtain ⟨hfz10_0, hfz10_1, hfz10_2, hfz10_3⟩ := f4_ BK556.out) | ((with_reducible refine gate_callee (f := 37) rfl ?_); refine goesL_ (some 21) rfl rfl Tryz.func37 (by kernel_rfl) rfl #[.slice A0_3 l0_3.length c0_3] rfl (by simp only [List.map_toArray, List.map_cons, List.map_nil] <;> rfl) ?_; (with_reducible refine (glacisref05_Tail.calls k _ _ l0_3 t559 t560 _ (tab_ hT_ ?hTab) ?side1 ?side2 A3.out).mono ?_); (case hTab => exact (bl_ HB.out)); (case side1 => exact cl_ (Kd.C_below HR0_3.out HB.out)); (case side2 => exact HC0_3.out); rintro e w11 ⟨rfl, hb⟩; refine ⟨_, rfl, ?_⟩; replace BK556 := kb_ BK556 hb; replace HB := bs_ HB hb; (try clear hb)))
   go_ret2
   exact ⟨by first | rfl | simp [*, errW_none, errW_some, q_ne_nil], by repeat (first | (with_reducible first | exact HB.out | apply below_alloc | apply pw_below_drewN | apply below_drew1 | refine below_set ?_ GE556.out) | exact HB.out)⟩
  rw [if_neg c5] at H
  obtain ⟨c5b0, c5b1⟩ := eF_ c5
  simp only [Option.some.injEq, Prod.mk.injEq] at H
  obtain ⟨rfl, rfl⟩ := H
  go_enter Tryz.func62, Tryz.ntmps62
  go_wp2_with (first | ((with_reducible refine gate_dst (N := 1) rfl ?_); refine box_event ?hg (N := 1) ?hd (cs := #[.int .i64 a0_0, .int .i64 a0_1, .string a0_2, .slice A0_3 l0_3.length c0_3]) (t := 31) ?hr ?_; (case hd => rfl); (case hg => rfl); (case hr => first | (go_simp; done) | (go_simp; rfl)); intro gb556 hg w12 hbox hb; have BK556 := Aside0.mk (hbox); have GW556 := Aside0.mk ((hg_ hg (bl_ HB.out))); have GE556 := Aside0.mk ((hg_ hg (bl_ HB.out))); replace HB := bs_ HB hb; clear hb hbox hg; obtain ⟨hcz13_0, hcz13_1, hcz13_2, hcz13_3⟩ := c4_ BK556.out; obtain ⟨hfz13_0, hfz13_1, hfz13_2, hfz13_3⟩ := f4_ BK556.out) | ((with_reducible refine gate_callee (f := 67) rfl ?_); refine goesL_ (some 15) rfl rfl Tryz.func67 (by kernel_rfl) rfl #[.int .i64 a0_0, .int .i64 a0_1, .string a0_2] rfl (by simp only [List.map_toArray, List.map_cons, List.map_nil] <;> rfl) ?_; (with_reducible refine (glacisref05_Value.calls k a0_0 a0_1 a0_2 t557 true _ (tab_ hT_ ?hTab) A2.out).mono ?_); (case hTab => exact (bl_ HB.out)); rintro e w14 ⟨rfl, hb⟩; refine ⟨_, rfl, ?_⟩; replace BK556 := kb_ BK556 hb; replace HB := bs_ HB hb; (try clear hb); obtain ⟨hcz15_0, hcz15_1, hcz15_2, hcz15_3⟩ := c4_ BK556.out; obtain ⟨hfz15_0, hfz15_1, hfz15_2, hfz15_3⟩ := f4_ BK556.out) | ((with_reducible refine gate_callee (f := 37) rfl ?_); refine goesL_ (some 21) rfl rfl Tryz.func37 (by kernel_rfl) rfl #[.slice A0_3 l0_3.length c0_3] rfl (by simp only [List.map_toArray, List.map_cons, List.map_nil] <;> rfl) ?_; (with_reducible refine (glacisref05_Tail.calls k _ _ l0_3 t559 t560 _ (tab_ hT_ ?hTab) ?side1 ?side2 A3.out).mono ?_); (case hTab => exact (bl_ HB.out)); (case side1 => exact cl_ (Kd.C_below HR0_3.out HB.out)); (case side2 => exact HC0_3.out); rintro e w16 ⟨rfl, hb⟩; refine ⟨_, rfl, ?_⟩; replace BK556 := kb_ BK556 hb; replace HB := bs_ HB hb; (try clear hb)))
  go_ret2
  exact ⟨by first | rfl | simp [*, errW_none, errW_some, q_ne_nil], by repeat (first | (with_reducible first | exact HB.out | apply below_alloc | apply pw_below_drewN | apply below_drew1 | refine below_set ?_ GE556.out) | exact HB.out)⟩
 replace c4 := Bool.eq_false_iff.mpr c4
 subst c4
 rw [if_neg (show ¬ (false = true) by decide)] at H
 simp only [Option.some.injEq, Prod.mk.injEq] at H
 obtain ⟨rfl, rfl⟩ := H
 go_enter Tryz.func62, Tryz.ntmps62
 go_wp2_with (first | ((with_reducible refine gate_dst (N := 1) rfl ?_); refine box_event ?hg (N := 1) ?hd (cs := #[.int .i64 a0_0, .int .i64 a0_1, .string a0_2, .slice A0_3 l0_3.length c0_3]) (t := 31) ?hr ?_; (case hd => rfl); (case hg => rfl); (case hr => first | (go_simp; done) | (go_simp; rfl)); intro gb556 hg w17 hbox hb; have BK556 := Aside0.mk (hbox); have GW556 := Aside0.mk ((hg_ hg (bl_ HB.out))); have GE556 := Aside0.mk ((hg_ hg (bl_ HB.out))); replace HB := bs_ HB hb; clear hb hbox hg; obtain ⟨hcz18_0, hcz18_1, hcz18_2, hcz18_3⟩ := c4_ BK556.out; obtain ⟨hfz18_0, hfz18_1, hfz18_2, hfz18_3⟩ := f4_ BK556.out) | ((with_reducible refine gate_callee (f := 67) rfl ?_); refine goesL_ (some 15) rfl rfl Tryz.func67 (by kernel_rfl) rfl #[.int .i64 a0_0, .int .i64 a0_1, .string a0_2] rfl (by simp only [List.map_toArray, List.map_cons, List.map_nil] <;> rfl) ?_; (with_reducible refine (glacisref05_Value.calls k a0_0 a0_1 a0_2 t557 false _ (tab_ hT_ ?hTab) A2.out).mono ?_); (case hTab => exact (bl_ HB.out)); rintro e w19 ⟨rfl, hb⟩; refine ⟨_, rfl, ?_⟩; replace BK556 := kb_ BK556 hb; replace HB := bs_ HB hb; (try clear hb); obtain ⟨hcz20_0, hcz20_1, hcz20_2, hcz20_3⟩ := c4_ BK556.out; obtain ⟨hfz20_0, hfz20_1, hfz20_2, hfz20_3⟩ := f4_ BK556.out) | ((with_reducible refine gate_callee (f := 37) rfl ?_); refine goesL_ (some 21) rfl rfl Tryz.func37 (by kernel_rfl) rfl #[.slice A0_3 l0_3.length c0_3] rfl (by simp only [List.map_toArray, List.map_cons, List.map_nil] <;> rfl) ?_; (with_reducible refine (glacisref05_Tail.calls k _ _ l0_3 t559 t560 _ (tab_ hT_ ?hTab) ?side1 ?side2 A3.out).mono ?_); (case hTab => exact (bl_ HB.out)); (case side1 => exact cl_ (Kd.C_below HR0_3.out HB.out)); (case side2 => exact HC0_3.out); rintro e w21 ⟨rfl, hb⟩; refine ⟨_, rfl, ?_⟩; replace BK556 := kb_ BK556 hb; replace HB := bs_ HB hb; (try clear hb)))
 go_ret2
 exact ⟨by first | rfl | simp [*, errW_none, errW_some, q_ne_nil], by repeat (first | (with_reducible first | exact HB.out | apply below_alloc | apply pw_below_drewN | apply below_drew1 | refine below_set ?_ GE556.out) | exact HB.out)⟩
def glacisref06_bare.f (a0_0 : Int) (a0_1 : Int) (a0_2 : ByteArray) (l0_3 : List (S60)) : Option (Bool) := if a0_0 = 0 then (if a0_1 = 0 then (if a0_2.toList = ([] : List UInt8) then (some ((l0_3.length : Int) == 0)) else (some false)) else (some false)) else (some false)
theorem glacisref06_bare.calls (a0_0 : Int) (a0_1 : Int) (a0_2 : ByteArray) (A0_3 : Option Addr) (c0_3 : Nat) (l0_3 : List (S60)) (r : Bool) (w : World) (hr0_3 : Kd.C k60 w A0_3 l0_3.length l0_3) (hc0_3 : l0_3.length ≤ c0_3) (h : glacisref06_bare.f a0_0 a0_1 a0_2 l0_3 = some r) :
  Calls Tryz.prog 63 #[.agg #[.int .i64 a0_0, .int .i64 a0_1, .string a0_2, .slice A0_3 l0_3.length c0_3]] w fun e w' => e = .returned (.bool r) ∧ Below w.heap.size w w' := by
 have hu31 := Tryz.underlying31
 have HR0_3 := Aside0.mk hr0_3
 have HC0_3 := Aside0.mk hc0_3
 clear hr0_3 hc0_3
 have HB := Aside0.mk (Below.refl w.heap.size w)
 have H : (if a0_0 = 0 then (if a0_1 = 0 then (if a0_2.toList = ([] : List UInt8) then (some ((l0_3.length : Int) == 0)) else (some false)) else (some false)) else (some false)) = some r := h
 clear h
 by_cases c2 : a0_0 = 0
 rotate_left
 ·rw [if_neg c2] at H
  obtain ⟨c2b0, c2b1⟩ := eF_ c2
  obtain rfl := Option.some.inj H
  go_enter Tryz.func63, Tryz.ntmps63
  go_wp2_with (first | ((with_reducible refine gate_dst (N := 1) rfl ?_); (try (refine gate_guard (by rfl) ?_; dsimp only)); refine box_event ?hg (N := 1) ?hd (cs := #[.int .i64 a0_0, .int .i64 a0_1, .string a0_2, .slice A0_3 l0_3.length c0_3]) (t := 31) ?hr ?_; (case hd => rfl); (case hg => rfl); (case hr => first | (go_simp; done) | (go_simp; rfl)); intro gb561 hg w11 hbox hb; have BK561 := Aside0.mk (hbox); have GW561 := Aside0.mk ((hg_ hg (bl_ HB.out))); have GE561 := Aside0.mk ((hg_ hg (bl_ HB.out))); replace HB := bs_ HB hb; clear hb hbox hg; obtain ⟨hcz12_0, hcz12_1, hcz12_2, hcz12_3⟩ := c4_ BK561.out; obtain ⟨hfz12_0, hfz12_1, hfz12_2, hfz12_3⟩ := f4_ BK561.out))
  go_ret
  exact ⟨by first | rfl | simp [*, errW_none, errW_some, q_ne_nil], by repeat (first | (with_reducible first | exact HB.out | apply below_alloc | apply pw_below_drewN | apply below_drew1 | refine below_set ?_ GE561.out) | exact HB.out)⟩
 rw [if_pos c2] at H
 obtain ⟨c2b0, c2b1⟩ := eT_ c2
 clear c2
 by_cases c3 : a0_1 = 0
 ·rw [if_pos c3] at H
  obtain ⟨c3b0, c3b1⟩ := eT_ c3
  clear c3
  by_cases c4 : a0_2.toList = ([] : List UInt8)
  ·rw [if_pos c4] at H
   obtain ⟨c4b0, c4b1⟩ := eT_ c4
   clear c4
   obtain rfl := Option.some.inj H
   go_enter Tryz.func63, Tryz.ntmps63
   go_wp2_with (first | ((with_reducible refine gate_dst (N := 1) rfl ?_); (try (refine gate_guard (by rfl) ?_; dsimp only)); refine box_event ?hg (N := 1) ?hd (cs := #[.int .i64 a0_0, .int .i64 a0_1, .string a0_2, .slice A0_3 l0_3.length c0_3]) (t := 31) ?hr ?_; (case hd => rfl); (case hg => rfl); (case hr => first | (go_simp; done) | (go_simp; rfl)); intro gb561 hg w5 hbox hb; have BK561 := Aside0.mk (hbox); have GW561 := Aside0.mk ((hg_ hg (bl_ HB.out))); have GE561 := Aside0.mk ((hg_ hg (bl_ HB.out))); replace HB := bs_ HB hb; clear hb hbox hg; obtain ⟨hcz6_0, hcz6_1, hcz6_2, hcz6_3⟩ := c4_ BK561.out; obtain ⟨hfz6_0, hfz6_1, hfz6_2, hfz6_3⟩ := f4_ BK561.out))
   go_ret
   exact ⟨by first | rfl | simp [*, errW_none, errW_some, q_ne_nil], by repeat (first | (with_reducible first | exact HB.out | apply below_alloc | apply pw_below_drewN | apply below_drew1 | refine below_set ?_ GE561.out) | exact HB.out)⟩
  rw [if_neg c4] at H
  obtain ⟨c4b0, c4b1⟩ := eF_ c4
  obtain rfl := Option.some.inj H
  go_enter Tryz.func63, Tryz.ntmps63
  go_wp2_with (first | ((with_reducible refine gate_dst (N := 1) rfl ?_); (try (refine gate_guard (by rfl) ?_; dsimp only)); refine box_event ?hg (N := 1) ?hd (cs := #[.int .i64 a0_0, .int .i64 a0_1, .string a0_2, .slice A0_3 l0_3.length c0_3]) (t := 31) ?hr ?_; (case hd => rfl); (case hg => rfl); (case hr => first | (go_simp; done) | (go_simp; rfl)); intro gb561 hg w7 hbox hb; have BK561 := Aside0.mk (hbox); have GW561 := Aside0.mk ((hg_ hg (bl_ HB.out))); have GE561 := Aside0.mk ((hg_ hg (bl_ HB.out))); replace HB := bs_ HB hb; clear hb hbox hg; obtain ⟨hcz8_0, hcz8_1, hcz8_2, hcz8_3⟩ := c4_ BK561.out; obtain ⟨hfz8_0, hfz8_1, hfz8_2, hfz8_3⟩ := f4_ BK561.out))
  go_ret
  exact ⟨by first | rfl | simp [*, errW_none, errW_some, q_ne_nil], by repeat (first | (with_reducible first | exact HB.out | apply below_alloc | apply pw_below_drewN | apply below_drew1 | refine below_set ?_ GE561.out) | exact HB.out)⟩
 rw [if_neg c3] at H
 obtain ⟨c3b0, c3b1⟩ := eF_ c3
 obtain rfl := Option.some.inj H
 go_enter Tryz.func63, Tryz.ntmps63
 go_wp2_with (first | ((with_reducible refine gate_dst (N := 1) rfl ?_); (try (refine gate_guard (by rfl) ?_; dsimp only)); refine box_event ?hg (N := 1) ?hd (cs := #[.int .i64 a0_0, .int .i64 a0_1, .string a0_2, .slice A0_3 l0_3.length c0_3]) (t := 31) ?hr ?_; (case hd => rfl); (case hg => rfl); (case hr => first | (go_simp; done) | (go_simp; rfl)); intro gb561 hg w9 hbox hb; have BK561 := Aside0.mk (hbox); have GW561 := Aside0.mk ((hg_ hg (bl_ HB.out))); have GE561 := Aside0.mk ((hg_ hg (bl_ HB.out))); replace HB := bs_ HB hb; clear hb hbox hg; obtain ⟨hcz10_0, hcz10_1, hcz10_2, hcz10_3⟩ := c4_ BK561.out; obtain ⟨hfz10_0, hfz10_1, hfz10_2, hfz10_3⟩ := f4_ BK561.out))
 go_ret
 exact ⟨by first | rfl | simp [*, errW_none, errW_some, q_ne_nil], by repeat (first | (with_reducible first | exact HB.out | apply below_alloc | apply pw_below_drewN | apply below_drew1 | refine below_set ?_ GE561.out) | exact HB.out)⟩
def glacisref06_text.l0 : Nat → ByteArray → Int → ByteArray → Bool → Int → Int → ByteArray → List (S60) → List (S31) → List (S60) → Option (ByteArray × Bool)
 | 0, _, _, _, _, _, _, _, _, _, _ => none
 | k + 1, x7, x8, x563000, x563001, x563002, x563003, x563004, x563005, x563006, x563007 => if x8 < (x563006.length : Int) then (if 0 ≤ x8 then ((glacisref05_Text.f k ((rd_T31 x563006 x8).f0) ((rd_T31 x563006 x8).f1) ((rd_T31 x563006 x8).f2) ((rd_T31 x563006 x8).f3)).bind fun bt569 => (if bt569.2 = 0 then (if x8 > 0 then (if x7.size + 1 ≤ 9223372036854775807 then (if (x7 ++ (⟨#[32]⟩ : ByteArray)).size + bt569.1.size ≤ 9223372036854775807 then (glacisref06_text.l0 k ((x7 ++ (⟨#[32]⟩ : ByteArray)) ++ bt569.1) (wrap64 (x8 + 1)) x563000 x563001 x563002 x563003 x563004 x563005 x563006 x563007) else (none)) else (none)) else (if x7.size + bt569.1.size ≤ 9223372036854775807 then (glacisref06_text.l0 k (x7 ++ bt569.1) (wrap64 (x8 + 1)) x563000 x563001 x563002 x563003 x563004 x563005 x563006 x563007) else (none))) else (some ((⟨#[]⟩ : ByteArray), false)))) else (none)) else ((glacisref05_Tail.f k x563007).bind fun bt566 => (if x7.size + 1 ≤ 9223372036854775807 then (if (x7 ++ (⟨#[41]⟩ : ByteArray)).size + bt566.1.size ≤ 9223372036854775807 then (some ((x7 ++ (⟨#[41]⟩ : ByteArray)) ++ bt566.1, (bt566.2 == 0))) else (none)) else (none)))
def glacisref06_text.f (k : Nat) (a0_0 : ByteArray) (a0_1 : Bool) (a0_2 : Int) (a0_3 : Int) (a0_4 : ByteArray) (l0_5 : List (S60)) (l0_6 : List (S31)) (l0_7 : List (S60)) : Option (ByteArray × Bool) := if a0_1 = true then ((glacisref06_bare.f a0_2 a0_3 a0_4 l0_5).bind fun t565 => (if t565 = true then (glacisref06_text.l0 k (⟨#[40]⟩ : ByteArray) 0 a0_0 a0_1 a0_2 a0_3 a0_4 l0_5 l0_6 l0_7) else (some ((⟨#[]⟩ : ByteArray), false)))) else ((glacisref05_Text.f k a0_2 a0_3 a0_4 l0_5).bind fun bt563 => (if bt563.2 = 0 then (if (l0_6.length : Int) = 0 then (some (bt563.1, ((l0_7.length : Int) == 0))) else (some (bt563.1, false))) else (some (bt563.1, false))))
theorem glacisref06_text.calls (k : Nat) (a0_0 : ByteArray) (a0_1 : Bool) (a0_2 : Int) (a0_3 : Int) (a0_4 : ByteArray) (A0_5 : Option Addr) (c0_5 : Nat) (l0_5 : List (S60)) (A0_6 : Option Addr) (c0_6 : Nat) (l0_6 : List (S31)) (A0_7 : Option Addr) (c0_7 : Nat) (l0_7 : List (S60)) (r1 : ByteArray) (r2 : Bool) (w : World) (hT_ : Aside0 (TabW w)) (hr0_5 : Kd.C k60 w A0_5 l0_5.length l0_5) (hc0_5 : l0_5.length ≤ c0_5) (hr0_6 : Kd.C k31 w A0_6 l0_6.length l0_6) (hc0_6 : l0_6.length ≤ c0_6) (hr0_7 : Kd.C k60 w A0_7 l0_7.length l0_7) (hc0_7 : l0_7.length ≤ c0_7) (h : glacisref06_text.f k a0_0 a0_1 a0_2 a0_3 a0_4 l0_5 l0_6 l0_7 = some (r1, r2)) :
  Calls Tryz.prog 34 #[.agg #[.string a0_0, .bool a0_1, .int .i64 a0_2, .int .i64 a0_3, .string a0_4, .slice A0_5 l0_5.length c0_5, .slice A0_6 l0_6.length c0_6, .slice A0_7 l0_7.length c0_7]] w fun e w' => e = .returned (.tuple #[.string r1, .bool r2]) ∧ Below w.heap.size w w' := by
 have hu34 := Tryz.underlying34
 have hu31 := Tryz.underlying31
 have HR0_5 := Aside0.mk hr0_5
 have HC0_5 := Aside0.mk hc0_5
 clear hr0_5 hc0_5
 have HR0_6 := Aside0.mk hr0_6
 have HC0_6 := Aside0.mk hc0_6
 clear hr0_6 hc0_6
 have HR0_7 := Aside0.mk hr0_7
 have HC0_7 := Aside0.mk hc0_7
 clear hr0_7 hc0_7
 have HB := Aside0.mk (Below.refl w.heap.size w)
 have H : (if a0_1 = true then ((glacisref06_bare.f a0_2 a0_3 a0_4 l0_5).bind fun t565 => (if t565 = true then (glacisref06_text.l0 k (⟨#[40]⟩ : ByteArray) 0 a0_0 a0_1 a0_2 a0_3 a0_4 l0_5 l0_6 l0_7) else (some ((⟨#[]⟩ : ByteArray), false)))) else ((glacisref05_Text.f k a0_2 a0_3 a0_4 l0_5).bind fun bt563 => (if bt563.2 = 0 then (if (l0_6.length : Int) = 0 then (some (bt563.1, ((l0_7.length : Int) == 0))) else (some (bt563.1, false))) else (some (bt563.1, false))))) = some (r1, r2) := h
 clear h
 by_cases c2 : a0_1 = true
 rotate_left
 ·replace c2 := Bool.eq_false_iff.mpr c2
  subst c2
  rw [if_neg (show ¬ (false = true) by decide)] at H
  replace H := Option.bind_eq_some_iff.mp H
  obtain ⟨⟨t563, t564⟩, A300, H⟩ := H
  (try dsimp only at H)
  have A30 := Aside0.mk A300
  clear A300
  by_cases c31 : t564 = 0
  ·rw [if_pos c31] at H
   obtain ⟨c31b0, c31b1⟩ := eT_ c31
   clear c31
   by_cases c32 : (l0_6.length : Int) = 0
   ·rw [if_pos c32] at H
    obtain ⟨c32b0, c32b1⟩ := eT_ c32
    clear c32
    simp only [Option.some.injEq, Prod.mk.injEq] at H
    obtain ⟨rfl, rfl⟩ := H
    go_enter Tryz.func34, Tryz.ntmps34
    go_wp2_with (first | ((with_reducible refine gate_dst (N := 1) rfl ?_); (try (refine gate_guard (by rfl) ?_; dsimp only)); refine box_event ?hg (N := 1) ?hd (cs := #[.string a0_0, .bool false, .int .i64 a0_2, .int .i64 a0_3, .string a0_4, .slice A0_5 l0_5.length c0_5, .slice A0_6 l0_6.length c0_6, .slice A0_7 l0_7.length c0_7]) (t := 34) ?hr ?_; (case hd => rfl); (case hg => rfl); (case hr => first | (go_simp; done) | (go_simp; rfl)); intro gb562 hg w33 hbox hb; have BK562 := Aside0.mk (hbox); have GW562 := Aside0.mk ((hg_ hg (bl_ HB.out))); have GE562 := Aside0.mk ((hg_ hg (bl_ HB.out))); replace HB := bs_ HB hb; clear hb hbox hg; obtain ⟨hcz34_0, hcz34_1, hcz34_2, hcz34_3, hcz34_4, hcz34_5, hcz34_6, hcz34_7⟩ := c8_ BK562.out; obtain ⟨hfz34_0, hfz34_1, hfz34_2, hfz34_3, hfz34_4, hfz34_5, hfz34_6, hfz34_7⟩ := f8_ BK562.out) | (go_at_call 62; (with_reducible refine (glacisref05_Text.calls k a0_2 a0_3 a0_4 _ _ l0_5 t563 t564 _ (tab_ hT_ ?hTab) ?side1 ?side2 A30.out).mono ?_); (case hTab => exact (bl_ HB.out)); (case side1 => exact cl_ (Kd.C_below HR0_5.out HB.out)); (case side2 => exact HC0_5.out); rintro e w35 ⟨rfl, hb⟩; replace BK562 := kb_ BK562 hb; replace HB := bs_ HB hb; (try clear hb); obtain ⟨hcz36_0, hcz36_1, hcz36_2, hcz36_3, hcz36_4, hcz36_5, hcz36_6, hcz36_7⟩ := c8_ BK562.out; obtain ⟨hfz36_0, hfz36_1, hfz36_2, hfz36_3, hfz36_4, hfz36_5, hfz36_6, hfz36_7⟩ := f8_ BK562.out))
    repeat (go_quiet (first | ((with_reducible refine gate_dst (N := 1) rfl ?_); (try (refine gate_guard (by rfl) ?_; dsimp only)); refine box_event ?hg (N := 1) ?hd (cs := #[.string a0_0, .bool false, .int .i64 a0_2, .int .i64 a0_3, .string a0_4, .slice A0_5 l0_5.length c0_5, .slice A0_6 l0_6.length c0_6, .slice A0_7 l0_7.length c0_7]) (t := 34) ?hr ?_; (case hd => rfl); (case hg => rfl); (case hr => first | (go_simp; done) | (go_simp; rfl)); intro gb562 hg w33 hbox hb; have BK562 := Aside0.mk (hbox); have GW562 := Aside0.mk ((hg_ hg (bl_ HB.out))); have GE562 := Aside0.mk ((hg_ hg (bl_ HB.out))); replace HB := bs_ HB hb; clear hb hbox hg; obtain ⟨hcz34_0, hcz34_1, hcz34_2, hcz34_3, hcz34_4, hcz34_5, hcz34_6, hcz34_7⟩ := c8_ BK562.out; obtain ⟨hfz34_0, hfz34_1, hfz34_2, hfz34_3, hfz34_4, hfz34_5, hfz34_6, hfz34_7⟩ := f8_ BK562.out) | (go_at_call 62; (with_reducible refine (glacisref05_Text.calls k a0_2 a0_3 a0_4 _ _ l0_5 t563 t564 _ (tab_ hT_ ?hTab) ?side1 ?side2 A30.out).mono ?_); (case hTab => exact (bl_ HB.out)); (case side1 => exact cl_ (Kd.C_below HR0_5.out HB.out)); (case side2 => exact HC0_5.out); rintro e w35 ⟨rfl, hb⟩; replace BK562 := kb_ BK562 hb; replace HB := bs_ HB hb; (try clear hb); obtain ⟨hcz36_0, hcz36_1, hcz36_2, hcz36_3, hcz36_4, hcz36_5, hcz36_6, hcz36_7⟩ := c8_ BK562.out; obtain ⟨hfz36_0, hfz36_1, hfz36_2, hfz36_3, hfz36_4, hfz36_5, hfz36_6, hfz36_7⟩ := f8_ BK562.out)); try go_wp2_with (first | ((with_reducible refine gate_dst (N := 1) rfl ?_); (try (refine gate_guard (by rfl) ?_; dsimp only)); refine box_event ?hg (N := 1) ?hd (cs := #[.string a0_0, .bool false, .int .i64 a0_2, .int .i64 a0_3, .string a0_4, .slice A0_5 l0_5.length c0_5, .slice A0_6 l0_6.length c0_6, .slice A0_7 l0_7.length c0_7]) (t := 34) ?hr ?_; (case hd => rfl); (case hg => rfl); (case hr => first | (go_simp; done) | (go_simp; rfl)); intro gb562 hg w33 hbox hb; have BK562 := Aside0.mk (hbox); have GW562 := Aside0.mk ((hg_ hg (bl_ HB.out))); have GE562 := Aside0.mk ((hg_ hg (bl_ HB.out))); replace HB := bs_ HB hb; clear hb hbox hg; obtain ⟨hcz34_0, hcz34_1, hcz34_2, hcz34_3, hcz34_4, hcz34_5, hcz34_6, hcz34_7⟩ := c8_ BK562.out; obtain ⟨hfz34_0, hfz34_1, hfz34_2, hfz34_3, hfz34_4, hfz34_5, hfz34_6, hfz34_7⟩ := f8_ BK562.out) | (go_at_call 62; (with_reducible refine (glacisref05_Text.calls k a0_2 a0_3 a0_4 _ _ l0_5 t563 t564 _ (tab_ hT_ ?hTab) ?side1 ?side2 A30.out).mono ?_); (case hTab => exact (bl_ HB.out)); (case side1 => exact cl_ (Kd.C_below HR0_5.out HB.out)); (case side2 => exact HC0_5.out); rintro e w35 ⟨rfl, hb⟩; replace BK562 := kb_ BK562 hb; replace HB := bs_ HB hb; (try clear hb); obtain ⟨hcz36_0, hcz36_1, hcz36_2, hcz36_3, hcz36_4, hcz36_5, hcz36_6, hcz36_7⟩ := c8_ BK562.out; obtain ⟨hfz36_0, hfz36_1, hfz36_2, hfz36_3, hfz36_4, hfz36_5, hfz36_6, hfz36_7⟩ := f8_ BK562.out)))
    go_ret2
    exact ⟨by first | rfl | simp [*, errW_none, errW_some, q_ne_nil], by repeat (first | (with_reducible first | exact HB.out | apply below_alloc | apply pw_below_drewN | apply below_drew1 | refine below_set ?_ GE562.out) | exact HB.out)⟩
   rw [if_neg c32] at H
   obtain ⟨c32b0, c32b1⟩ := eF_ c32
   have c32b2 : ¬ (l0_6 = []) := fun h_ => c32 (by rw [h_]; rfl)
   simp only [Option.some.injEq, Prod.mk.injEq] at H
   obtain ⟨rfl, rfl⟩ := H
   go_enter Tryz.func34, Tryz.ntmps34
   go_wp2_with (first | ((with_reducible refine gate_dst (N := 1) rfl ?_); (try (refine gate_guard (by rfl) ?_; dsimp only)); refine box_event ?hg (N := 1) ?hd (cs := #[.string a0_0, .bool false, .int .i64 a0_2, .int .i64 a0_3, .string a0_4, .slice A0_5 l0_5.length c0_5, .slice A0_6 l0_6.length c0_6, .slice A0_7 l0_7.length c0_7]) (t := 34) ?hr ?_; (case hd => rfl); (case hg => rfl); (case hr => first | (go_simp; done) | (go_simp; rfl)); intro gb562 hg w37 hbox hb; have BK562 := Aside0.mk (hbox); have GW562 := Aside0.mk ((hg_ hg (bl_ HB.out))); have GE562 := Aside0.mk ((hg_ hg (bl_ HB.out))); replace HB := bs_ HB hb; clear hb hbox hg; obtain ⟨hcz38_0, hcz38_1, hcz38_2, hcz38_3, hcz38_4, hcz38_5, hcz38_6, hcz38_7⟩ := c8_ BK562.out; obtain ⟨hfz38_0, hfz38_1, hfz38_2, hfz38_3, hfz38_4, hfz38_5, hfz38_6, hfz38_7⟩ := f8_ BK562.out) | (go_at_call 62; (with_reducible refine (glacisref05_Text.calls k a0_2 a0_3 a0_4 _ _ l0_5 t563 t564 _ (tab_ hT_ ?hTab) ?side1 ?side2 A30.out).mono ?_); (case hTab => exact (bl_ HB.out)); (case side1 => exact cl_ (Kd.C_below HR0_5.out HB.out)); (case side2 => exact HC0_5.out); rintro e w39 ⟨rfl, hb⟩; replace BK562 := kb_ BK562 hb; replace HB := bs_ HB hb; (try clear hb); obtain ⟨hcz40_0, hcz40_1, hcz40_2, hcz40_3, hcz40_4, hcz40_5, hcz40_6, hcz40_7⟩ := c8_ BK562.out; obtain ⟨hfz40_0, hfz40_1, hfz40_2, hfz40_3, hfz40_4, hfz40_5, hfz40_6, hfz40_7⟩ := f8_ BK562.out))
   repeat (go_quiet (first | ((with_reducible refine gate_dst (N := 1) rfl ?_); (try (refine gate_guard (by rfl) ?_; dsimp only)); refine box_event ?hg (N := 1) ?hd (cs := #[.string a0_0, .bool false, .int .i64 a0_2, .int .i64 a0_3, .string a0_4, .slice A0_5 l0_5.length c0_5, .slice A0_6 l0_6.length c0_6, .slice A0_7 l0_7.length c0_7]) (t := 34) ?hr ?_; (case hd => rfl); (case hg => rfl); (case hr => first | (go_simp; done) | (go_simp; rfl)); intro gb562 hg w37 hbox hb; have BK562 := Aside0.mk (hbox); have GW562 := Aside0.mk ((hg_ hg (bl_ HB.out))); have GE562 := Aside0.mk ((hg_ hg (bl_ HB.out))); replace HB := bs_ HB hb; clear hb hbox hg; obtain ⟨hcz38_0, hcz38_1, hcz38_2, hcz38_3, hcz38_4, hcz38_5, hcz38_6, hcz38_7⟩ := c8_ BK562.out; obtain ⟨hfz38_0, hfz38_1, hfz38_2, hfz38_3, hfz38_4, hfz38_5, hfz38_6, hfz38_7⟩ := f8_ BK562.out) | (go_at_call 62; (with_reducible refine (glacisref05_Text.calls k a0_2 a0_3 a0_4 _ _ l0_5 t563 t564 _ (tab_ hT_ ?hTab) ?side1 ?side2 A30.out).mono ?_); (case hTab => exact (bl_ HB.out)); (case side1 => exact cl_ (Kd.C_below HR0_5.out HB.out)); (case side2 => exact HC0_5.out); rintro e w39 ⟨rfl, hb⟩; replace BK562 := kb_ BK562 hb; replace HB := bs_ HB hb; (try clear hb); obtain ⟨hcz40_0, hcz40_1, hcz40_2, hcz40_3, hcz40_4, hcz40_5, hcz40_6, hcz40_7⟩ := c8_ BK562.out; obtain ⟨hfz40_0, hfz40_1, hfz40_2, hfz40_3, hfz40_4, hfz40_5, hfz40_6, hfz40_7⟩ := f8_ BK562.out)); try go_wp2_with (first | ((with_reducible refine gate_dst (N := 1) rfl ?_); (try (refine gate_guard (by rfl) ?_; dsimp only)); refine box_event ?hg (N := 1) ?hd (cs := #[.string a0_0, .bool false, .int .i64 a0_2, .int .i64 a0_3, .string a0_4, .slice A0_5 l0_5.length c0_5, .slice A0_6 l0_6.length c0_6, .slice A0_7 l0_7.length c0_7]) (t := 34) ?hr ?_; (case hd => rfl); (case hg => rfl); (case hr => first | (go_simp; done) | (go_simp; rfl)); intro gb562 hg w37 hbox hb; have BK562 := Aside0.mk (hbox); have GW562 := Aside0.mk ((hg_ hg (bl_ HB.out))); have GE562 := Aside0.mk ((hg_ hg (bl_ HB.out))); replace HB := bs_ HB hb; clear hb hbox hg; obtain ⟨hcz38_0, hcz38_1, hcz38_2, hcz38_3, hcz38_4, hcz38_5, hcz38_6, hcz38_7⟩ := c8_ BK562.out; obtain ⟨hfz38_0, hfz38_1, hfz38_2, hfz38_3, hfz38_4, hfz38_5, hfz38_6, hfz38_7⟩ := f8_ BK562.out) | (go_at_call 62; (with_reducible refine (glacisref05_Text.calls k a0_2 a0_3 a0_4 _ _ l0_5 t563 t564 _ (tab_ hT_ ?hTab) ?side1 ?side2 A30.out).mono ?_); (case hTab => exact (bl_ HB.out)); (case side1 => exact cl_ (Kd.C_below HR0_5.out HB.out)); (case side2 => exact HC0_5.out); rintro e w39 ⟨rfl, hb⟩; replace BK562 := kb_ BK562 hb; replace HB := bs_ HB hb; (try clear hb); obtain ⟨hcz40_0, hcz40_1, hcz40_2, hcz40_3, hcz40_4, hcz40_5, hcz40_6, hcz40_7⟩ := c8_ BK562.out; obtain ⟨hfz40_0, hfz40_1, hfz40_2, hfz40_3, hfz40_4, hfz40_5, hfz40_6, hfz40_7⟩ := f8_ BK562.out)))
   go_ret2
   exact ⟨by first | rfl | simp [*, errW_none, errW_some, q_ne_nil], by repeat (first | (with_reducible first | exact HB.out | apply below_alloc | apply pw_below_drewN | apply below_drew1 | refine below_set ?_ GE562.out) | exact HB.out)⟩
  rw [if_neg c31] at H
  obtain ⟨c31b0, c31b1⟩ := eF_ c31
  simp only [Option.some.injEq, Prod.mk.injEq] at H
  obtain ⟨rfl, rfl⟩ := H
  go_enter Tryz.func34, Tryz.ntmps34
  go_wp2_with (first | ((with_reducible refine gate_dst (N := 1) rfl ?_); (try (refine gate_guard (by rfl) ?_; dsimp only)); refine box_event ?hg (N := 1) ?hd (cs := #[.string a0_0, .bool false, .int .i64 a0_2, .int .i64 a0_3, .string a0_4, .slice A0_5 l0_5.length c0_5, .slice A0_6 l0_6.length c0_6, .slice A0_7 l0_7.length c0_7]) (t := 34) ?hr ?_; (case hd => rfl); (case hg => rfl); (case hr => first | (go_simp; done) | (go_simp; rfl)); intro gb562 hg w41 hbox hb; have BK562 := Aside0.mk (hbox); have GW562 := Aside0.mk ((hg_ hg (bl_ HB.out))); have GE562 := Aside0.mk ((hg_ hg (bl_ HB.out))); replace HB := bs_ HB hb; clear hb hbox hg; obtain ⟨hcz42_0, hcz42_1, hcz42_2, hcz42_3, hcz42_4, hcz42_5, hcz42_6, hcz42_7⟩ := c8_ BK562.out; obtain ⟨hfz42_0, hfz42_1, hfz42_2, hfz42_3, hfz42_4, hfz42_5, hfz42_6, hfz42_7⟩ := f8_ BK562.out) | (go_at_call 62; (with_reducible refine (glacisref05_Text.calls k a0_2 a0_3 a0_4 _ _ l0_5 t563 t564 _ (tab_ hT_ ?hTab) ?side1 ?side2 A30.out).mono ?_); (case hTab => exact (bl_ HB.out)); (case side1 => exact cl_ (Kd.C_below HR0_5.out HB.out)); (case side2 => exact HC0_5.out); rintro e w43 ⟨rfl, hb⟩; replace BK562 := kb_ BK562 hb; replace HB := bs_ HB hb; (try clear hb)))
  repeat (go_quiet (first | ((with_reducible refine gate_dst (N := 1) rfl ?_); (try (refine gate_guard (by rfl) ?_; dsimp only)); refine box_event ?hg (N := 1) ?hd (cs := #[.string a0_0, .bool false, .int .i64 a0_2, .int .i64 a0_3, .string a0_4, .slice A0_5 l0_5.length c0_5, .slice A0_6 l0_6.length c0_6, .slice A0_7 l0_7.length c0_7]) (t := 34) ?hr ?_; (case hd => rfl); (case hg => rfl); (case hr => first | (go_simp; done) | (go_simp; rfl)); intro gb562 hg w41 hbox hb; have BK562 := Aside0.mk (hbox); have GW562 := Aside0.mk ((hg_ hg (bl_ HB.out))); have GE562 := Aside0.mk ((hg_ hg (bl_ HB.out))); replace HB := bs_ HB hb; clear hb hbox hg; obtain ⟨hcz42_0, hcz42_1, hcz42_2, hcz42_3, hcz42_4, hcz42_5, hcz42_6, hcz42_7⟩ := c8_ BK562.out; obtain ⟨hfz42_0, hfz42_1, hfz42_2, hfz42_3, hfz42_4, hfz42_5, hfz42_6, hfz42_7⟩ := f8_ BK562.out) | (go_at_call 62; (with_reducible refine (glacisref05_Text.calls k a0_2 a0_3 a0_4 _ _ l0_5 t563 t564 _ (tab_ hT_ ?hTab) ?side1 ?side2 A30.out).mono ?_); (case hTab => exact (bl_ HB.out)); (case side1 => exact cl_ (Kd.C_below HR0_5.out HB.out)); (case side2 => exact HC0_5.out); rintro e w43 ⟨rfl, hb⟩; replace BK562 := kb_ BK562 hb; replace HB := bs_ HB hb; (try clear hb))); try go_wp2_with (first | ((with_reducible refine gate_dst (N := 1) rfl ?_); (try (refine gate_guard (by rfl) ?_; dsimp only)); refine box_event ?hg (N := 1) ?hd (cs := #[.string a0_0, .bool false, .int .i64 a0_2, .int .i64 a0_3, .string a0_4, .slice A0_5 l0_5.length c0_5, .slice A0_6 l0_6.length c0_6, .slice A0_7 l0_7.length c0_7]) (t := 34) ?hr ?_; (case hd => rfl); (case hg => rfl); (case hr => first | (go_simp; done) | (go_simp; rfl)); intro gb562 hg w41 hbox hb; have BK562 := Aside0.mk (hbox); have GW562 := Aside0.mk ((hg_ hg (bl_ HB.out))); have GE562 := Aside0.mk ((hg_ hg (bl_ HB.out))); replace HB := bs_ HB hb; clear hb hbox hg; obtain ⟨hcz42_0, hcz42_1, hcz42_2, hcz42_3, hcz42_4, hcz42_5, hcz42_6, hcz42_7⟩ := c8_ BK562.out; obtain ⟨hfz42_0, hfz42_1, hfz42_2, hfz42_3, hfz42_4, hfz42_5, hfz42_6, hfz42_7⟩ := f8_ BK562.out) | (go_at_call 62; (with_reducible refine (glacisref05_Text.calls k a0_2 a0_3 a0_4 _ _ l0_5 t563 t564 _ (tab_ hT_ ?hTab) ?side1 ?side2 A30.out).mono ?_); (case hTab => exact (bl_ HB.out)); (case side1 => exact cl_ (Kd.C_below HR0_5.out HB.out)); (case side2 => exact HC0_5.out); rintro e w43 ⟨rfl, hb⟩; replace BK562 := kb_ BK562 hb; replace HB := bs_ HB hb; (try clear hb))))
  go_ret2
  exact ⟨by first | rfl | simp [*, errW_none, errW_some, q_ne_nil], by repeat (first | (with_reducible first | exact HB.out | apply below_alloc | apply pw_below_drewN | apply below_drew1 | refine below_set ?_ GE562.out) | exact HB.out)⟩
 subst c2
 rw [if_pos rfl] at H
 replace H := Option.bind_eq_some_iff.mp H
 obtain ⟨t565, A30, H⟩ := H
 (try dsimp only at H)
 have A3 := Aside0.mk A30
 clear A30
 by_cases c4 : t565 = true
 rotate_left
 ·replace c4 := Bool.eq_false_iff.mpr c4
  subst c4
  rw [if_neg (show ¬ (false = true) by decide)] at H
  simp only [Option.some.injEq, Prod.mk.injEq] at H
  obtain ⟨rfl, rfl⟩ := H
  go_enter Tryz.func34, Tryz.ntmps34
  go_wp2_with (first | ((with_reducible refine gate_dst (N := 1) rfl ?_); (try (refine gate_guard (by rfl) ?_; dsimp only)); refine box_event ?hg (N := 1) ?hd (cs := #[.string a0_0, .bool true, .int .i64 a0_2, .int .i64 a0_3, .string a0_4, .slice A0_5 l0_5.length c0_5, .slice A0_6 l0_6.length c0_6, .slice A0_7 l0_7.length c0_7]) (t := 34) ?hr ?_; (case hd => rfl); (case hg => rfl); (case hr => first | (go_simp; done) | (go_simp; rfl)); intro gb562 hg w27 hbox hb; have BK562 := Aside0.mk (hbox); have GW562 := Aside0.mk ((hg_ hg (bl_ HB.out))); have GE562 := Aside0.mk ((hg_ hg (bl_ HB.out))); replace HB := bs_ HB hb; clear hb hbox hg; obtain ⟨hcz28_0, hcz28_1, hcz28_2, hcz28_3, hcz28_4, hcz28_5, hcz28_6, hcz28_7⟩ := c8_ BK562.out; obtain ⟨hfz28_0, hfz28_1, hfz28_2, hfz28_3, hfz28_4, hfz28_5, hfz28_6, hfz28_7⟩ := f8_ BK562.out) | (go_at_call 63; (with_reducible refine (glacisref06_bare.calls a0_2 a0_3 a0_4 _ _ l0_5 false _ ?side1 ?side2 A3.out).mono ?_); (case side1 => exact cl_ (Kd.C_below HR0_5.out HB.out)); (case side2 => exact HC0_5.out); rintro e w29 ⟨rfl, hb⟩; replace BK562 := kb_ BK562 hb; replace HB := bs_ HB hb; (try clear hb)))
  repeat (go_quiet (first | ((with_reducible refine gate_dst (N := 1) rfl ?_); (try (refine gate_guard (by rfl) ?_; dsimp only)); refine box_event ?hg (N := 1) ?hd (cs := #[.string a0_0, .bool true, .int .i64 a0_2, .int .i64 a0_3, .string a0_4, .slice A0_5 l0_5.length c0_5, .slice A0_6 l0_6.length c0_6, .slice A0_7 l0_7.length c0_7]) (t := 34) ?hr ?_; (case hd => rfl); (case hg => rfl); (case hr => first | (go_simp; done) | (go_simp; rfl)); intro gb562 hg w27 hbox hb; have BK562 := Aside0.mk (hbox); have GW562 := Aside0.mk ((hg_ hg (bl_ HB.out))); have GE562 := Aside0.mk ((hg_ hg (bl_ HB.out))); replace HB := bs_ HB hb; clear hb hbox hg; obtain ⟨hcz28_0, hcz28_1, hcz28_2, hcz28_3, hcz28_4, hcz28_5, hcz28_6, hcz28_7⟩ := c8_ BK562.out; obtain ⟨hfz28_0, hfz28_1, hfz28_2, hfz28_3, hfz28_4, hfz28_5, hfz28_6, hfz28_7⟩ := f8_ BK562.out) | (go_at_call 63; (with_reducible refine (glacisref06_bare.calls a0_2 a0_3 a0_4 _ _ l0_5 false _ ?side1 ?side2 A3.out).mono ?_); (case side1 => exact cl_ (Kd.C_below HR0_5.out HB.out)); (case side2 => exact HC0_5.out); rintro e w29 ⟨rfl, hb⟩; replace BK562 := kb_ BK562 hb; replace HB := bs_ HB hb; (try clear hb))); try go_wp2_with (first | ((with_reducible refine gate_dst (N := 1) rfl ?_); (try (refine gate_guard (by rfl) ?_; dsimp only)); refine box_event ?hg (N := 1) ?hd (cs := #[.string a0_0, .bool true, .int .i64 a0_2, .int .i64 a0_3, .string a0_4, .slice A0_5 l0_5.length c0_5, .slice A0_6 l0_6.length c0_6, .slice A0_7 l0_7.length c0_7]) (t := 34) ?hr ?_; (case hd => rfl); (case hg => rfl); (case hr => first | (go_simp; done) | (go_simp; rfl)); intro gb562 hg w27 hbox hb; have BK562 := Aside0.mk (hbox); have GW562 := Aside0.mk ((hg_ hg (bl_ HB.out))); have GE562 := Aside0.mk ((hg_ hg (bl_ HB.out))); replace HB := bs_ HB hb; clear hb hbox hg; obtain ⟨hcz28_0, hcz28_1, hcz28_2, hcz28_3, hcz28_4, hcz28_5, hcz28_6, hcz28_7⟩ := c8_ BK562.out; obtain ⟨hfz28_0, hfz28_1, hfz28_2, hfz28_3, hfz28_4, hfz28_5, hfz28_6, hfz28_7⟩ := f8_ BK562.out) | (go_at_call 63; (with_reducible refine (glacisref06_bare.calls a0_2 a0_3 a0_4 _ _ l0_5 false _ ?side1 ?side2 A3.out).mono ?_); (case side1 => exact cl_ (Kd.C_below HR0_5.out HB.out)); (case side2 => exact HC0_5.out); rintro e w29 ⟨rfl, hb⟩; replace BK562 := kb_ BK562 hb; replace HB := bs_ HB hb; (try clear hb))))
  go_ret2
  exact ⟨by first | rfl | simp [*, errW_none, errW_some, q_ne_nil], by repeat (first | (with_reducible first | exact HB.out | apply below_alloc | apply pw_below_drewN | apply below_drew1 | refine below_set ?_ GE562.out) | exact HB.out)⟩
 subst c4
 rw [if_pos rfl] at H
 have H' := Aside0.mk H
 clear H
 go_enter Tryz.func34, Tryz.ntmps34
 go_wp2_with (first | ((with_reducible refine gate_dst (N := 1) rfl ?_); (try (refine gate_guard (by rfl) ?_; dsimp only)); refine box_event ?hg (N := 1) ?hd (cs := #[.string a0_0, .bool true, .int .i64 a0_2, .int .i64 a0_3, .string a0_4, .slice A0_5 l0_5.length c0_5, .slice A0_6 l0_6.length c0_6, .slice A0_7 l0_7.length c0_7]) (t := 34) ?hr ?_; (case hd => rfl); (case hg => rfl); (case hr => first | (go_simp; done) | (go_simp; rfl)); intro gb562 hg w5 hbox hb; have BK562 := Aside0.mk (hbox); have GW562 := Aside0.mk ((hg_ hg (bl_ HB.out))); have GE562 := Aside0.mk ((hg_ hg (bl_ HB.out))); replace HB := bs_ HB hb; clear hb hbox hg; obtain ⟨hcz6_0, hcz6_1, hcz6_2, hcz6_3, hcz6_4, hcz6_5, hcz6_6, hcz6_7⟩ := c8_ BK562.out; obtain ⟨hfz6_0, hfz6_1, hfz6_2, hfz6_3, hfz6_4, hfz6_5, hfz6_6, hfz6_7⟩ := f8_ BK562.out) | (go_at_call 63; (with_reducible refine (glacisref06_bare.calls a0_2 a0_3 a0_4 _ _ l0_5 true _ ?side1 ?side2 A3.out).mono ?_); (case side1 => exact cl_ (Kd.C_below HR0_5.out HB.out)); (case side2 => exact HC0_5.out); rintro e w7 ⟨rfl, hb⟩; replace BK562 := kb_ BK562 hb; replace HB := bs_ HB hb; (try clear hb)))
 repeat (go_quiet (first | ((with_reducible refine gate_dst (N := 1) rfl ?_); (try (refine gate_guard (by rfl) ?_; dsimp only)); refine box_event ?hg (N := 1) ?hd (cs := #[.string a0_0, .bool true, .int .i64 a0_2, .int .i64 a0_3, .string a0_4, .slice A0_5 l0_5.length c0_5, .slice A0_6 l0_6.length c0_6, .slice A0_7 l0_7.length c0_7]) (t := 34) ?hr ?_; (case hd => rfl); (case hg => rfl); (case hr => first | (go_simp; done) | (go_simp; rfl)); intro gb562 hg w5 hbox hb; have BK562 := Aside0.mk (hbox); have GW562 := Aside0.mk ((hg_ hg (bl_ HB.out))); have GE562 := Aside0.mk ((hg_ hg (bl_ HB.out))); replace HB := bs_ HB hb; clear hb hbox hg; obtain ⟨hcz6_0, hcz6_1, hcz6_2, hcz6_3, hcz6_4, hcz6_5, hcz6_6, hcz6_7⟩ := c8_ BK562.out; obtain ⟨hfz6_0, hfz6_1, hfz6_2, hfz6_3, hfz6_4, hfz6_5, hfz6_6, hfz6_7⟩ := f8_ BK562.out) | (go_at_call 63; (with_reducible refine (glacisref06_bare.calls a0_2 a0_3 a0_4 _ _ l0_5 true _ ?side1 ?side2 A3.out).mono ?_); (case side1 => exact cl_ (Kd.C_below HR0_5.out HB.out)); (case side2 => exact HC0_5.out); rintro e w7 ⟨rfl, hb⟩; replace BK562 := kb_ BK562 hb; replace HB := bs_ HB hb; (try clear hb))); try go_wp2_with (first | ((with_reducible refine gate_dst (N := 1) rfl ?_); (try (refine gate_guard (by rfl) ?_; dsimp only)); refine box_event ?hg (N := 1) ?hd (cs := #[.string a0_0, .bool true, .int .i64 a0_2, .int .i64 a0_3, .string a0_4, .slice A0_5 l0_5.length c0_5, .slice A0_6 l0_6.length c0_6, .slice A0_7 l0_7.length c0_7]) (t := 34) ?hr ?_; (case hd => rfl); (case hg => rfl); (case hr => first | (go_simp; done) | (go_simp; rfl)); intro gb562 hg w5 hbox hb; have BK562 := Aside0.mk (hbox); have GW562 := Aside0.mk ((hg_ hg (bl_ HB.out))); have GE562 := Aside0.mk ((hg_ hg (bl_ HB.out))); replace HB := bs_ HB hb; clear hb hbox hg; obtain ⟨hcz6_0, hcz6_1, hcz6_2, hcz6_3, hcz6_4, hcz6_5, hcz6_6, hcz6_7⟩ := c8_ BK562.out; obtain ⟨hfz6_0, hfz6_1, hfz6_2, hfz6_3, hfz6_4, hfz6_5, hfz6_6, hfz6_7⟩ := f8_ BK562.out) | (go_at_call 63; (with_reducible refine (glacisref06_bare.calls a0_2 a0_3 a0_4 _ _ l0_5 true _ ?side1 ?side2 A3.out).mono ?_); (case side1 => exact cl_ (Kd.C_below HR0_5.out HB.out)); (case side2 => exact HC0_5.out); rintro e w7 ⟨rfl, hb⟩; replace BK562 := kb_ BK562 hb; replace HB := bs_ HB hb; (try clear hb))))
 go_loopg [7, 8] k (fun kq v7 v8 w' => ∃ (x7_1 : ByteArray) (x8_1 : Int), v7 = .string x7_1 ∧ v8 = .int .i64 x8_1 ∧ Aside0 (glacisref06_text.l0 kq x7_1 x8_1 a0_0 true a0_2 a0_3 a0_4 l0_5 l0_6 l0_7 = some (r1, r2)) ∧ Aside0 (kq ≤ k) ∧ Aside0 (w'.heap[gb562]? = some (.cells #[.string a0_0, .bool true, .int .i64 a0_2, .int .i64 a0_3, .string a0_4, (.slice A0_5 l0_5.length c0_5), (.slice A0_6 l0_6.length c0_6), (.slice A0_7 l0_7.length c0_7)] 34 (0, 0))) ∧ Aside0 (Below w.heap.size w w'))
 case atStart => exact ⟨((⟨#[40]⟩ : ByteArray)), (0), (by first | rfl | simp [*]), (by first | rfl | simp [*]), H', ⟨Nat.le_refl _⟩, ⟨by (repeat refine kq_ ?_); exact BK562.out⟩, ⟨by repeat (first | (with_reducible first | exact HB.out | apply below_alloc | apply pw_below_drewN | apply below_drew1 | refine below_set ?_ GE562.out) | exact HB.out)⟩⟩
 case round =>
  clear H'
  (try clear c2)
  obtain ⟨x7_1, x8_1, rfl, rfl, HA, HK1, BK562, HB⟩ := hrel
  cases gk with
  | zero => exact absurd HA.out (by simp [glacisref06_text.l0])
  | succ k1 =>
   have H := HA.out
   clear HA
   simp only [glacisref06_text.l0] at H
   by_cases c8 : x8_1 < (l0_6.length : Int)
   rotate_left
   ·rw [if_neg c8] at H
    have c8b0 := decide_eq_false c8
    clear c8
    replace H := Option.bind_eq_some_iff.mp H
    obtain ⟨⟨t566, t567⟩, A220, H⟩ := H
    (try dsimp only at H)
    have A22 := Aside0.mk A220
    clear A220
    replace H := ifs_ H; obtain ⟨c23, H⟩ := H
    have c23b0 := eq_true c23
    have c23b1 := decide_eq_true c23
    try have c23b2 : (9223372036854775807 < x7_1.size + 1) = False := eq_false (Nat.not_lt.2 c23)
    replace H := ifs_ H; obtain ⟨c24, H⟩ := H
    have c24b0 := eq_true c24
    have c24b1 := decide_eq_true c24
    try have c24b2 : (9223372036854775807 < (x7_1 ++ (⟨#[41]⟩ : ByteArray)).size + t566.size) = False := eq_false (Nat.not_lt.2 c24)
    try (have c24d : (9223372036854775807 < x7_1.size + 1 + t566.size) = False := eq_false (by have h_ := c24; simp only [ByteArray.size_append] at h_; exact Nat.not_lt.2 h_))
    simp only [Option.some.injEq, Prod.mk.injEq] at H
    obtain ⟨rfl, rfl⟩ := H
    have hcz25_0 : wr.cell? ⟨gb562, 0, none⟩ = some (.string a0_0) := (blk_cell BK562.out 0).trans rfl
    have hcz25_1 : wr.cell? ⟨gb562, 1, none⟩ = some (.bool true) := (blk_cell BK562.out 1).trans rfl
    have hcz25_2 : wr.cell? ⟨gb562, 2, none⟩ = some (.int .i64 a0_2) := (blk_cell BK562.out 2).trans rfl
    have hcz25_3 : wr.cell? ⟨gb562, 3, none⟩ = some (.int .i64 a0_3) := (blk_cell BK562.out 3).trans rfl
    have hcz25_4 : wr.cell? ⟨gb562, 4, none⟩ = some (.string a0_4) := (blk_cell BK562.out 4).trans rfl
    have hcz25_5 : wr.cell? ⟨gb562, 5, none⟩ = some (.slice A0_5 l0_5.length c0_5) := (blk_cell BK562.out 5).trans rfl
    have hcz25_6 : wr.cell? ⟨gb562, 6, none⟩ = some (.slice A0_6 l0_6.length c0_6) := (blk_cell BK562.out 6).trans rfl
    have hcz25_7 : wr.cell? ⟨gb562, 7, none⟩ = some (.slice A0_7 l0_7.length c0_7) := (blk_cell BK562.out 7).trans rfl
    have hfz25_0 := blk_frozen BK562.out 0
    have hfz25_1 := blk_frozen BK562.out 1
    have hfz25_2 := blk_frozen BK562.out 2
    have hfz25_3 := blk_frozen BK562.out 3
    have hfz25_4 := blk_frozen BK562.out 4
    have hfz25_5 := blk_frozen BK562.out 5
    have hfz25_6 := blk_frozen BK562.out 6
    have hfz25_7 := blk_frozen BK562.out 7
    go_wp2_with (first | (go_at_call 37; (with_reducible refine (glacisref05_Tail.calls k1 _ _ l0_7 t566 t567 _ (tab_ hT_ ?hTab) ?side1 ?side2 A22.out).mono ?_); (case hTab => exact (bl_ HB.out)); (case side1 => exact cl_ (Kd.C_below HR0_7.out HB.out)); (case side2 => exact HC0_7.out); rintro e w26 ⟨rfl, hb⟩; replace BK562 := kb_ BK562 hb; replace HB := bs_ HB hb; (try clear hb)))
    repeat (go_quiet (first | (go_at_call 37; (with_reducible refine (glacisref05_Tail.calls k1 _ _ l0_7 t566 t567 _ (tab_ hT_ ?hTab) ?side1 ?side2 A22.out).mono ?_); (case hTab => exact (bl_ HB.out)); (case side1 => exact cl_ (Kd.C_below HR0_7.out HB.out)); (case side2 => exact HC0_7.out); rintro e w26 ⟨rfl, hb⟩; replace BK562 := kb_ BK562 hb; replace HB := bs_ HB hb; (try clear hb))); try go_wp2_with (first | (go_at_call 37; (with_reducible refine (glacisref05_Tail.calls k1 _ _ l0_7 t566 t567 _ (tab_ hT_ ?hTab) ?side1 ?side2 A22.out).mono ?_); (case hTab => exact (bl_ HB.out)); (case side1 => exact cl_ (Kd.C_below HR0_7.out HB.out)); (case side2 => exact HC0_7.out); rintro e w26 ⟨rfl, hb⟩; replace BK562 := kb_ BK562 hb; replace HB := bs_ HB hb; (try clear hb))))
    go_ret2
    exact ⟨by first | rfl | simp [*, errW_none, errW_some, q_ne_nil], by repeat (first | (with_reducible first | exact HB.out | apply below_alloc | apply pw_below_drewN | apply below_drew1 | refine below_set ?_ GE562.out) | exact HB.out)⟩
   rw [if_pos c8] at H
   have c8b0 := decide_eq_true c8
   clear c8
   replace H := ifs_ H; obtain ⟨c9, H⟩ := H
   have c9b0 := decide_eq_true c9
   clear c9
   replace H := Option.bind_eq_some_iff.mp H
   obtain ⟨⟨t569, t570⟩, A100, H⟩ := H
   (try dsimp only at H)
   have A10 := Aside0.mk A100
   clear A100
   by_cases c11 : t570 = 0
   rotate_left
   ·rw [if_neg c11] at H
    obtain ⟨c11b0, c11b1⟩ := eF_ c11
    simp only [Option.some.injEq, Prod.mk.injEq] at H
    obtain ⟨rfl, rfl⟩ := H
    have hcz20_0 : wr.cell? ⟨gb562, 0, none⟩ = some (.string a0_0) := (blk_cell BK562.out 0).trans rfl
    have hcz20_1 : wr.cell? ⟨gb562, 1, none⟩ = some (.bool true) := (blk_cell BK562.out 1).trans rfl
    have hcz20_2 : wr.cell? ⟨gb562, 2, none⟩ = some (.int .i64 a0_2) := (blk_cell BK562.out 2).trans rfl
    have hcz20_3 : wr.cell? ⟨gb562, 3, none⟩ = some (.int .i64 a0_3) := (blk_cell BK562.out 3).trans rfl
    have hcz20_4 : wr.cell? ⟨gb562, 4, none⟩ = some (.string a0_4) := (blk_cell BK562.out 4).trans rfl
    have hcz20_5 : wr.cell? ⟨gb562, 5, none⟩ = some (.slice A0_5 l0_5.length c0_5) := (blk_cell BK562.out 5).trans rfl
    have hcz20_6 : wr.cell? ⟨gb562, 6, none⟩ = some (.slice A0_6 l0_6.length c0_6) := (blk_cell BK562.out 6).trans rfl
    have hcz20_7 : wr.cell? ⟨gb562, 7, none⟩ = some (.slice A0_7 l0_7.length c0_7) := (blk_cell BK562.out 7).trans rfl
    have hfz20_0 := blk_frozen BK562.out 0
    have hfz20_1 := blk_frozen BK562.out 1
    have hfz20_2 := blk_frozen BK562.out 2
    have hfz20_3 := blk_frozen BK562.out 3
    have hfz20_4 := blk_frozen BK562.out 4
    have hfz20_5 := blk_frozen BK562.out 5
    have hfz20_6 := blk_frozen BK562.out 6
    have hfz20_7 := blk_frozen BK562.out 7
    have p568 : 0 ≤ (x8_1 : Int) := of_decide_eq_true (by assumption)
    have q568 : x8_1 < (l0_6.length : Int) := of_decide_eq_true (by assumption)
    obtain ⟨ad568, A568_3, c568_3, e568, hx568_0, hx568_1, hx568_2, hx568_3, hl568_3, hi568_3⟩ := at_T31 HR0_6.out x8_1 p568 q568
    cases e568
    obtain ⟨hx568_0, hx568_1, hx568_2, hx568_3⟩ := lb4_ HB.out hx568_0 hx568_1 hx568_2 hx568_3
    have HR568_3 := Aside0.mk hi568_3
    have HC568_3 := Aside0.mk hl568_3
    clear hi568_3 hl568_3
    replace p568 := eq_true p568
    replace q568 := eq_true q568
    go_wp2_with (first | (go_at_call 62; (with_reducible refine (glacisref05_Text.calls k1 ((rd_T31 l0_6 x8_1).f0) ((rd_T31 l0_6 x8_1).f1) ((rd_T31 l0_6 x8_1).f2) _ _ ((rd_T31 l0_6 x8_1).f3) t569 t570 _ (tab_ hT_ ?hTab) ?side1 ?side2 A10.out).mono ?_); (case hTab => exact (bl_ HB.out)); (case side1 => exact cl_ (Kd.C_below HR568_3.out HB.out)); (case side2 => exact HC568_3.out); rintro e w21 ⟨rfl, hb⟩; replace BK562 := kb_ BK562 hb; replace HB := bs_ HB hb; (try clear hb)))
    repeat (go_quiet (first | (go_at_call 62; (with_reducible refine (glacisref05_Text.calls k1 ((rd_T31 l0_6 x8_1).f0) ((rd_T31 l0_6 x8_1).f1) ((rd_T31 l0_6 x8_1).f2) _ _ ((rd_T31 l0_6 x8_1).f3) t569 t570 _ (tab_ hT_ ?hTab) ?side1 ?side2 A10.out).mono ?_); (case hTab => exact (bl_ HB.out)); (case side1 => exact cl_ (Kd.C_below HR568_3.out HB.out)); (case side2 => exact HC568_3.out); rintro e w21 ⟨rfl, hb⟩; replace BK562 := kb_ BK562 hb; replace HB := bs_ HB hb; (try clear hb))); try go_wp2_with (first | (go_at_call 62; (with_reducible refine (glacisref05_Text.calls k1 ((rd_T31 l0_6 x8_1).f0) ((rd_T31 l0_6 x8_1).f1) ((rd_T31 l0_6 x8_1).f2) _ _ ((rd_T31 l0_6 x8_1).f3) t569 t570 _ (tab_ hT_ ?hTab) ?side1 ?side2 A10.out).mono ?_); (case hTab => exact (bl_ HB.out)); (case side1 => exact cl_ (Kd.C_below HR568_3.out HB.out)); (case side2 => exact HC568_3.out); rintro e w21 ⟨rfl, hb⟩; replace BK562 := kb_ BK562 hb; replace HB := bs_ HB hb; (try clear hb))))
    go_ret2
    exact ⟨by first | rfl | simp [*, errW_none, errW_some, q_ne_nil], by repeat (first | (with_reducible first | exact HB.out | apply below_alloc | apply pw_below_drewN | apply below_drew1 | refine below_set ?_ GE562.out) | exact HB.out)⟩
   rw [if_pos c11] at H
   obtain ⟨c11b0, c11b1⟩ := eT_ c11
   clear c11
   by_cases c12 : x8_1 > 0
   ·rw [if_pos c12] at H
    have c12b0 : decide (0 < x8_1) = true := decide_eq_true c12
    clear c12
    replace H := ifs_ H; obtain ⟨c13, H⟩ := H
    have c13b0 := eq_true c13
    have c13b1 := decide_eq_true c13
    try have c13b2 : (9223372036854775807 < x7_1.size + 1) = False := eq_false (Nat.not_lt.2 c13)
    replace H := ifs_ H; obtain ⟨c14, H⟩ := H
    have c14b0 := eq_true c14
    have c14b1 := decide_eq_true c14
    try have c14b2 : (9223372036854775807 < (x7_1 ++ (⟨#[32]⟩ : ByteArray)).size + t569.size) = False := eq_false (Nat.not_lt.2 c14)
    try (have c14d : (9223372036854775807 < x7_1.size + 1 + t569.size) = False := eq_false (by have h_ := c14; simp only [ByteArray.size_append] at h_; exact Nat.not_lt.2 h_))
    have H' := Aside0.mk H
    clear H
    have hcz15_0 : wr.cell? ⟨gb562, 0, none⟩ = some (.string a0_0) := (blk_cell BK562.out 0).trans rfl
    have hcz15_1 : wr.cell? ⟨gb562, 1, none⟩ = some (.bool true) := (blk_cell BK562.out 1).trans rfl
    have hcz15_2 : wr.cell? ⟨gb562, 2, none⟩ = some (.int .i64 a0_2) := (blk_cell BK562.out 2).trans rfl
    have hcz15_3 : wr.cell? ⟨gb562, 3, none⟩ = some (.int .i64 a0_3) := (blk_cell BK562.out 3).trans rfl
    have hcz15_4 : wr.cell? ⟨gb562, 4, none⟩ = some (.string a0_4) := (blk_cell BK562.out 4).trans rfl
    have hcz15_5 : wr.cell? ⟨gb562, 5, none⟩ = some (.slice A0_5 l0_5.length c0_5) := (blk_cell BK562.out 5).trans rfl
    have hcz15_6 : wr.cell? ⟨gb562, 6, none⟩ = some (.slice A0_6 l0_6.length c0_6) := (blk_cell BK562.out 6).trans rfl
    have hcz15_7 : wr.cell? ⟨gb562, 7, none⟩ = some (.slice A0_7 l0_7.length c0_7) := (blk_cell BK562.out 7).trans rfl
    have hfz15_0 := blk_frozen BK562.out 0
    have hfz15_1 := blk_frozen BK562.out 1
    have hfz15_2 := blk_frozen BK562.out 2
    have hfz15_3 := blk_frozen BK562.out 3
    have hfz15_4 := blk_frozen BK562.out 4
    have hfz15_5 := blk_frozen BK562.out 5
    have hfz15_6 := blk_frozen BK562.out 6
    have hfz15_7 := blk_frozen BK562.out 7
    have p568 : 0 ≤ (x8_1 : Int) := of_decide_eq_true (by assumption)
    have q568 : x8_1 < (l0_6.length : Int) := of_decide_eq_true (by assumption)
    obtain ⟨ad568, A568_3, c568_3, e568, hx568_0, hx568_1, hx568_2, hx568_3, hl568_3, hi568_3⟩ := at_T31 HR0_6.out x8_1 p568 q568
    cases e568
    obtain ⟨hx568_0, hx568_1, hx568_2, hx568_3⟩ := lb4_ HB.out hx568_0 hx568_1 hx568_2 hx568_3
    have HR568_3 := Aside0.mk hi568_3
    have HC568_3 := Aside0.mk hl568_3
    clear hi568_3 hl568_3
    replace p568 := eq_true p568
    replace q568 := eq_true q568
    go_wp2_with (first | (go_at_call 62; (with_reducible refine (glacisref05_Text.calls k1 ((rd_T31 l0_6 x8_1).f0) ((rd_T31 l0_6 x8_1).f1) ((rd_T31 l0_6 x8_1).f2) _ _ ((rd_T31 l0_6 x8_1).f3) t569 t570 _ (tab_ hT_ ?hTab) ?side1 ?side2 A10.out).mono ?_); (case hTab => exact (bl_ HB.out)); (case side1 => exact cl_ (Kd.C_below HR568_3.out HB.out)); (case side2 => exact HC568_3.out); rintro e w16 ⟨rfl, hb⟩; replace BK562 := kb_ BK562 hb; replace HB := bs_ HB hb; (try clear hb)))
    repeat (go_quiet (first | (go_at_call 62; (with_reducible refine (glacisref05_Text.calls k1 ((rd_T31 l0_6 x8_1).f0) ((rd_T31 l0_6 x8_1).f1) ((rd_T31 l0_6 x8_1).f2) _ _ ((rd_T31 l0_6 x8_1).f3) t569 t570 _ (tab_ hT_ ?hTab) ?side1 ?side2 A10.out).mono ?_); (case hTab => exact (bl_ HB.out)); (case side1 => exact cl_ (Kd.C_below HR568_3.out HB.out)); (case side2 => exact HC568_3.out); rintro e w16 ⟨rfl, hb⟩; replace BK562 := kb_ BK562 hb; replace HB := bs_ HB hb; (try clear hb))); try go_wp2_with (first | (go_at_call 62; (with_reducible refine (glacisref05_Text.calls k1 ((rd_T31 l0_6 x8_1).f0) ((rd_T31 l0_6 x8_1).f1) ((rd_T31 l0_6 x8_1).f2) _ _ ((rd_T31 l0_6 x8_1).f3) t569 t570 _ (tab_ hT_ ?hTab) ?side1 ?side2 A10.out).mono ?_); (case hTab => exact (bl_ HB.out)); (case side1 => exact cl_ (Kd.C_below HR568_3.out HB.out)); (case side2 => exact HC568_3.out); rintro e w16 ⟨rfl, hb⟩; replace BK562 := kb_ BK562 hb; replace HB := bs_ HB hb; (try clear hb))))
    go_roundg k1
    case measure => have := HK1.out; omega
    case rel => exact ⟨((x7_1 ++ (⟨#[32]⟩ : ByteArray)) ++ t569), (wrap64 (x8_1 + 1)), (by first | rfl | simp [*]), (by first | rfl | simp [*]), H', ⟨by have := HK1.out; omega⟩, ⟨by (repeat refine kq_ ?_); exact BK562.out⟩, ⟨by repeat (first | (with_reducible first | exact HB.out | apply below_alloc | apply pw_below_drewN | apply below_drew1 | refine below_set ?_ GE562.out) | exact HB.out)⟩⟩
   rw [if_neg c12] at H
   have c12b0 : decide (0 < x8_1) = false := decide_eq_false c12
   clear c12
   replace H := ifs_ H; obtain ⟨c17, H⟩ := H
   have c17b0 := eq_true c17
   have c17b1 := decide_eq_true c17
   try have c17b2 : (9223372036854775807 < x7_1.size + t569.size) = False := eq_false (Nat.not_lt.2 c17)
   have H' := Aside0.mk H
   clear H
   have hcz18_0 : wr.cell? ⟨gb562, 0, none⟩ = some (.string a0_0) := (blk_cell BK562.out 0).trans rfl
   have hcz18_1 : wr.cell? ⟨gb562, 1, none⟩ = some (.bool true) := (blk_cell BK562.out 1).trans rfl
   have hcz18_2 : wr.cell? ⟨gb562, 2, none⟩ = some (.int .i64 a0_2) := (blk_cell BK562.out 2).trans rfl
   have hcz18_3 : wr.cell? ⟨gb562, 3, none⟩ = some (.int .i64 a0_3) := (blk_cell BK562.out 3).trans rfl
   have hcz18_4 : wr.cell? ⟨gb562, 4, none⟩ = some (.string a0_4) := (blk_cell BK562.out 4).trans rfl
   have hcz18_5 : wr.cell? ⟨gb562, 5, none⟩ = some (.slice A0_5 l0_5.length c0_5) := (blk_cell BK562.out 5).trans rfl
   have hcz18_6 : wr.cell? ⟨gb562, 6, none⟩ = some (.slice A0_6 l0_6.length c0_6) := (blk_cell BK562.out 6).trans rfl
   have hcz18_7 : wr.cell? ⟨gb562, 7, none⟩ = some (.slice A0_7 l0_7.length c0_7) := (blk_cell BK562.out 7).trans rfl
   have hfz18_0 := blk_frozen BK562.out 0
   have hfz18_1 := blk_frozen BK562.out 1
   have hfz18_2 := blk_frozen BK562.out 2
   have hfz18_3 := blk_frozen BK562.out 3
   have hfz18_4 := blk_frozen BK562.out 4
   have hfz18_5 := blk_frozen BK562.out 5
   have hfz18_6 := blk_frozen BK562.out 6
   have hfz18_7 := blk_frozen BK562.out 7
   have p568 : 0 ≤ (x8_1 : Int) := of_decide_eq_true (by assumption)
   have q568 : x8_1 < (l0_6.length : Int) := of_decide_eq_true (by assumption)
   obtain ⟨ad568, A568_3, c568_3, e568, hx568_0, hx568_1, hx568_2, hx568_3, hl568_3, hi568_3⟩ := at_T31 HR0_6.out x8_1 p568 q568
   cases e568
   obtain ⟨hx568_0, hx568_1, hx568_2, hx568_3⟩ := lb4_ HB.out hx568_0 hx568_1 hx568_2 hx568_3
   have HR568_3 := Aside0.mk hi568_3
   have HC568_3 := Aside0.mk hl568_3
   clear hi568_3 hl568_3
   replace p568 := eq_true p568
   replace q568 := eq_true q568
   go_wp2_with (first | (go_at_call 62; (with_reducible refine (glacisref05_Text.calls k1 ((rd_T31 l0_6 x8_1).f0) ((rd_T31 l0_6 x8_1).f1) ((rd_T31 l0_6 x8_1).f2) _ _ ((rd_T31 l0_6 x8_1).f3) t569 t570 _ (tab_ hT_ ?hTab) ?side1 ?side2 A10.out).mono ?_); (case hTab => exact (bl_ HB.out)); (case side1 => exact cl_ (Kd.C_below HR568_3.out HB.out)); (case side2 => exact HC568_3.out); rintro e w19 ⟨rfl, hb⟩; replace BK562 := kb_ BK562 hb; replace HB := bs_ HB hb; (try clear hb)))
   repeat (go_quiet (first | (go_at_call 62; (with_reducible refine (glacisref05_Text.calls k1 ((rd_T31 l0_6 x8_1).f0) ((rd_T31 l0_6 x8_1).f1) ((rd_T31 l0_6 x8_1).f2) _ _ ((rd_T31 l0_6 x8_1).f3) t569 t570 _ (tab_ hT_ ?hTab) ?side1 ?side2 A10.out).mono ?_); (case hTab => exact (bl_ HB.out)); (case side1 => exact cl_ (Kd.C_below HR568_3.out HB.out)); (case side2 => exact HC568_3.out); rintro e w19 ⟨rfl, hb⟩; replace BK562 := kb_ BK562 hb; replace HB := bs_ HB hb; (try clear hb))); try go_wp2_with (first | (go_at_call 62; (with_reducible refine (glacisref05_Text.calls k1 ((rd_T31 l0_6 x8_1).f0) ((rd_T31 l0_6 x8_1).f1) ((rd_T31 l0_6 x8_1).f2) _ _ ((rd_T31 l0_6 x8_1).f3) t569 t570 _ (tab_ hT_ ?hTab) ?side1 ?side2 A10.out).mono ?_); (case hTab => exact (bl_ HB.out)); (case side1 => exact cl_ (Kd.C_below HR568_3.out HB.out)); (case side2 => exact HC568_3.out); rintro e w19 ⟨rfl, hb⟩; replace BK562 := kb_ BK562 hb; replace HB := bs_ HB hb; (try clear hb))))
   go_roundg k1
   case measure => have := HK1.out; omega
   case rel => exact ⟨(x7_1 ++ t569), (wrap64 (x8_1 + 1)), (by first | rfl | simp [*]), (by first | rfl | simp [*]), H', ⟨by have := HK1.out; omega⟩, ⟨by (repeat refine kq_ ?_); exact BK562.out⟩, ⟨by repeat (first | (with_reducible first | exact HB.out | apply below_alloc | apply pw_below_drewN | apply below_drew1 | refine below_set ?_ GE562.out) | exact HB.out)⟩⟩
mutual
def glacisref06_ListText.l0 : Nat → List (S34) → ByteArray → Int → Option (ByteArray × Int)
 | 0, _, _, _ => none
 | k + 1, x0, x4, x5 => if x5 < (x0.length : Int) then (if 0 ≤ x5 then ((glacisref06_text.f k ((rd_T34 x0 x5).f0) ((rd_T34 x0 x5).f1) ((rd_T34 x0 x5).f2.f0) ((rd_T34 x0 x5).f2.f1) ((rd_T34 x0 x5).f2.f2) ((rd_T34 x0 x5).f2.f3) ((rd_T34 x0 x5).f3) ((rd_T34 x0 x5).f4)).bind fun bt572 => (if bt572.2 = true then (glacisref06_ListText.j1 k x0 x4 x5 bt572.1 (((rd_T34 x0 x5).f0).toList != ([] : List UInt8))) else (glacisref06_ListText.j1 k x0 x4 x5 bt572.1 true))) else (none)) else (some (x4, 0))
def glacisref06_ListText.j1 : Nat → List (S34) → ByteArray → Int → ByteArray → Bool → Option (ByteArray × Int)
 | 0, _, _, _, _, _ => none
 | k + 1, x0, x4, x5, x6, x31 => if x31 = true then (some ((⟨#[]⟩ : ByteArray), 50)) else (if x5 > 0 then (if x4.size + 2 ≤ 9223372036854775807 then (if (x4 ++ (⟨#[44, 32]⟩ : ByteArray)).size + x6.size ≤ 9223372036854775807 then (glacisref06_ListText.l0 k x0 ((x4 ++ (⟨#[44, 32]⟩ : ByteArray)) ++ x6) (wrap64 (x5 + 1))) else (none)) else (none)) else (if x4.size + x6.size ≤ 9223372036854775807 then (glacisref06_ListText.l0 k x0 (x4 ++ x6) (wrap64 (x5 + 1))) else (none)))
end
def glacisref06_ListText.f (k : Nat) (l0 : List (S34)) : Option (ByteArray × Int) := glacisref06_ListText.l0 k l0 (⟨#[]⟩ : ByteArray) 0
theorem glacisref06_ListText.calls (k : Nat) (A0 : Option Addr) (c0 : Nat) (l0 : List (S34)) (r1 : ByteArray) (r2 : Int) (w : World) (hT_ : Aside0 (TabW w)) (hr0 : Kd.C k34 w A0 l0.length l0) (hc0 : l0.length ≤ c0) (h : glacisref06_ListText.f k l0 = some (r1, r2)) :
  Calls Tryz.prog 18 #[.slice A0 l0.length c0] w fun e w' => e = .returned (.tuple #[.string r1, .int .i64 r2]) ∧ Below w.heap.size w w' := by
 have hu34 := Tryz.underlying34
 have HR0 := Aside0.mk hr0
 have HC0 := Aside0.mk hc0
 clear hr0 hc0
 have HB := Aside0.mk (Below.refl w.heap.size w)
 have H : (glacisref06_ListText.l0 k l0 (⟨#[]⟩ : ByteArray) 0) = some (r1, r2) := h
 clear h
 have H' := Aside0.mk H
 clear H
 go_enter Tryz.func18, Tryz.ntmps18
 go_wp2
 go_loopg [4, 5] k (fun kq v4 v5 w' => ∃ (x4_1 : ByteArray) (x5_1 : Int), v4 = .string x4_1 ∧ v5 = .int .i64 x5_1 ∧ Aside0 (glacisref06_ListText.l0 kq l0 x4_1 x5_1 = some (r1, r2)) ∧ Aside0 (kq ≤ k) ∧ Aside0 (Below w.heap.size w w'))
 case atStart => exact ⟨((⟨#[]⟩ : ByteArray)), (0), (by first | rfl | simp [*]), (by first | rfl | simp [*]), H', ⟨Nat.le_refl _⟩, ⟨bl_ HB.out⟩⟩
 case round =>
  clear H'
  try clear c1
  obtain ⟨x4_1, x5_1, rfl, rfl, HA, HK1, HB⟩ := hrel
  cases gk with
  | zero => exact absurd HA.out (by simp [glacisref06_ListText.l0])
  | succ k1 =>
   have H := HA.out
   clear HA
   simp only [glacisref06_ListText.l0] at H
   by_cases c2 : x5_1 < (l0.length : Int)
   rotate_left
   ·rw [if_neg c2] at H
    have c2b0 := decide_eq_false c2
    clear c2
    simp only [Option.some.injEq, Prod.mk.injEq] at H
    obtain ⟨rfl, rfl⟩ := H
    go_wp2
    go_ret2
    exact ⟨by first | rfl | simp [*, errW_none, errW_some, q_ne_nil], bl_ HB.out⟩
   rw [if_pos c2] at H
   have c2b0 := decide_eq_true c2
   clear c2
   replace H := ifs_ H; obtain ⟨c3, H⟩ := H
   have c3b0 := decide_eq_true c3
   clear c3
   replace H := Option.bind_eq_some_iff.mp H
   obtain ⟨⟨t572, t573⟩, A40, H⟩ := H
   (try dsimp only at H)
   have A4 := Aside0.mk A40
   clear A40
   have HC5 := Aside0.mk H
   clear H
   have p571 : 0 ≤ (x5_1 : Int) := of_decide_eq_true (by assumption)
   have q571 : x5_1 < (l0.length : Int) := of_decide_eq_true (by assumption)
   obtain ⟨ad571, A571_5, c571_5, A571_6, c571_6, A571_7, c571_7, e571, hx571_0, hx571_1, hx571_2, hx571_3, hx571_4, hx571_5, hx571_6, hx571_7, hl571_5, hi571_5, hl571_6, hi571_6, hl571_7, hi571_7⟩ := at_T34 HR0.out x5_1 p571 q571
   cases e571
   obtain ⟨hx571_0, hx571_1, hx571_2, hx571_3, hx571_4, hx571_5, hx571_6, hx571_7⟩ := lb8_ HB.out hx571_0 hx571_1 hx571_2 hx571_3 hx571_4 hx571_5 hx571_6 hx571_7
   have HR571_5 := Aside0.mk hi571_5
   have HC571_5 := Aside0.mk hl571_5
   clear hi571_5 hl571_5
   have HR571_6 := Aside0.mk hi571_6
   have HC571_6 := Aside0.mk hl571_6
   clear hi571_6 hl571_6
   have HR571_7 := Aside0.mk hi571_7
   have HC571_7 := Aside0.mk hl571_7
   clear hi571_7 hl571_7
   replace p571 := eq_true p571
   replace q571 := eq_true q571
   go_upto_region 6 with (first | ((with_reducible refine gate_callee (f := 34) rfl ?_); refine goesL_ (some 19) rfl rfl Tryz.func34 (by kernel_rfl) rfl #[.agg #[.string ((rd_T34 l0 x5_1).f0), .bool ((rd_T34 l0 x5_1).f1), .int .i64 ((rd_T34 l0 x5_1).f2.f0), .int .i64 ((rd_T34 l0 x5_1).f2.f1), .string ((rd_T34 l0 x5_1).f2.f2), .slice A571_5 ((rd_T34 l0 x5_1).f2.f3).length c571_5, .slice A571_6 ((rd_T34 l0 x5_1).f3).length c571_6, .slice A571_7 ((rd_T34 l0 x5_1).f4).length c571_7]] rfl (by simp only [List.map_toArray, List.map_cons, List.map_nil] <;> rfl) ?_; (with_reducible refine (glacisref06_text.calls k1 ((rd_T34 l0 x5_1).f0) ((rd_T34 l0 x5_1).f1) ((rd_T34 l0 x5_1).f2.f0) ((rd_T34 l0 x5_1).f2.f1) ((rd_T34 l0 x5_1).f2.f2) _ _ ((rd_T34 l0 x5_1).f2.f3) _ _ ((rd_T34 l0 x5_1).f3) _ _ ((rd_T34 l0 x5_1).f4) t572 t573 _ (tab_ hT_ ?hTab) ?side1 ?side2 ?side3 ?side4 ?side5 ?side6 A4.out).mono ?_); (case hTab => exact (bl_ HB.out)); (case side1 => repeat (first | exact (Kd.C_below HR571_5.out HB.out) | (with_reducible refine Kd.C_alloc ?_ _) | (with_reducible refine Kd.C_drewN ?_ _) | (with_reducible refine Kd.C_drew ?_))); (case side2 => exact HC571_5.out); (case side3 => repeat (first | exact (Kd.C_below HR571_6.out HB.out) | (with_reducible refine Kd.C_alloc ?_ _) | (with_reducible refine Kd.C_drewN ?_ _) | (with_reducible refine Kd.C_drew ?_))); (case side4 => exact HC571_6.out); (case side5 => repeat (first | exact (Kd.C_below HR571_7.out HB.out) | (with_reducible refine Kd.C_alloc ?_ _) | (with_reducible refine Kd.C_drewN ?_ _) | (with_reducible refine Kd.C_drew ?_))); (case side6 => exact HC571_7.out); rintro e w6 ⟨rfl, hb⟩; refine ⟨_, rfl, ?_⟩; replace HB := bs_ HB hb; (try clear hb)))
   (try simp only [Act.put, List.setIfInBounds_toArray, List.set_cons_zero, List.set_cons_succ])
   go_cut [31] (fun v31 wc => ∃ (kq : Nat) (x31_4 : Bool), v31 = .bool x31_4 ∧ Aside0 (glacisref06_ListText.j1 kq l0 x4_1 x5_1 t572 x31_4 = some (r1, r2)) ∧ Aside0 (kq ≤ k1) ∧ Aside0 (Below w.heap.size w wc))
   case first =>
    have H := HC5.out
    clear HC5
    by_cases c7 : t573 = true
    ·subst c7
     rw [if_pos rfl] at H
     have H' := Aside0.mk H
     clear H
     have p574 : 0 ≤ (x5_1 : Int) := of_decide_eq_true (by assumption)
     have q574 : x5_1 < (l0.length : Int) := of_decide_eq_true (by assumption)
     obtain ⟨ad574, A574_5, c574_5, A574_6, c574_6, A574_7, c574_7, e574, hx574_0, hx574_1, hx574_2, hx574_3, hx574_4, hx574_5, hx574_6, hx574_7, hl574_5, hi574_5, hl574_6, hi574_6, hl574_7, hi574_7⟩ := at_T34 HR0.out x5_1 p574 q574
     obtain rfl : ad571 = ad574 := (by injection e574)
     obtain ⟨hx574_0, hx574_1, hx574_2, hx574_3, hx574_4, hx574_5, hx574_6, hx574_7⟩ := lb8_ HB.out hx574_0 hx574_1 hx574_2 hx574_3 hx574_4 hx574_5 hx574_6 hx574_7
     have HR574_5 := Aside0.mk hi574_5
     have HC574_5 := Aside0.mk hl574_5
     clear hi574_5 hl574_5
     have HR574_6 := Aside0.mk hi574_6
     have HC574_6 := Aside0.mk hl574_6
     clear hi574_6 hl574_6
     have HR574_7 := Aside0.mk hi574_7
     have HC574_7 := Aside0.mk hl574_7
     clear hi574_7 hl574_7
     replace p574 := eq_true p574
     replace q574 := eq_true q574
     go_wp2
     go_meet
     case rel => exact ⟨_, ((((rd_T34 l0 x5_1).f0).toList != ([] : List UInt8))), (by first | rfl | (simp [*]; done) | simp [q_ne_nil]), H', ⟨by have := HK1.out; first | omega | exact Nat.le_refl _⟩, ⟨bl_ HB.out⟩⟩
    replace c7 := Bool.eq_false_iff.mpr c7
    subst c7
    rw [if_neg (show ¬ (false = true) by decide)] at H
    have H' := Aside0.mk H
    clear H
    go_wp2
    go_meet
    case rel => exact ⟨_, (true), (by first | rfl | simp [*]), H', ⟨by have := HK1.out; first | omega | exact Nat.le_refl _⟩, ⟨bl_ HB.out⟩⟩
   case rest =>
    clear HC5
    (try clear c1)
    obtain ⟨kq, x31_4, rfl, HA, HJ4, HB⟩ := hcut
    cases kq with
    | zero => exact absurd HA.out (by simp [glacisref06_ListText.j1])
    | succ kj4 =>
     have H := HA.out
     clear HA
     simp only [glacisref06_ListText.j1] at H
     by_cases c8 : x31_4 = true
     ·subst c8
      rw [if_pos rfl] at H
      simp only [Option.some.injEq, Prod.mk.injEq] at H
      obtain ⟨rfl, rfl⟩ := H
      go_wp2
      go_ret2
      exact ⟨by first | rfl | simp [*, errW_none, errW_some, q_ne_nil], bl_ HB.out⟩
     replace c8 := Bool.eq_false_iff.mpr c8
     subst c8
     rw [if_neg (show ¬ (false = true) by decide)] at H
     by_cases c9 : x5_1 > 0
     ·rw [if_pos c9] at H
      have c9b0 : decide (0 < x5_1) = true := decide_eq_true c9
      clear c9
      replace H := ifs_ H; obtain ⟨c10, H⟩ := H
      have c10b0 := eq_true c10
      have c10b1 := decide_eq_true c10
      try have c10b2 : (9223372036854775807 < x4_1.size + 2) = False := eq_false (Nat.not_lt.2 c10)
      replace H := ifs_ H; obtain ⟨c11, H⟩ := H
      have c11b0 := eq_true c11
      have c11b1 := decide_eq_true c11
      try have c11b2 : (9223372036854775807 < (x4_1 ++ (⟨#[44, 32]⟩ : ByteArray)).size + t572.size) = False := eq_false (Nat.not_lt.2 c11)
      try (have c11d : (9223372036854775807 < x4_1.size + 2 + t572.size) = False := eq_false (by have h_ := c11; simp only [ByteArray.size_append] at h_; exact Nat.not_lt.2 h_))
      have H' := Aside0.mk H
      clear H
      go_wp2
      go_roundg kj4
      case measure => have := HK1.out; have := HJ4.out; omega
      case rel => exact ⟨((x4_1 ++ (⟨#[44, 32]⟩ : ByteArray)) ++ t572), (wrap64 (x5_1 + 1)), (by first | rfl | simp [*]), (by first | rfl | simp [*]), H', ⟨by have := HK1.out; have := HJ4.out; omega⟩, ⟨bl_ HB.out⟩⟩
     rw [if_neg c9] at H
     have c9b0 : decide (0 < x5_1) = false := decide_eq_false c9
     clear c9
     replace H := ifs_ H; obtain ⟨c12, H⟩ := H
     have c12b0 := eq_true c12
     have c12b1 := decide_eq_true c12
     try have c12b2 : (9223372036854775807 < x4_1.size + t572.size) = False := eq_false (Nat.not_lt.2 c12)
     have H' := Aside0.mk H
     clear H
     go_wp2
     go_roundg kj4
     case measure => have := HK1.out; have := HJ4.out; omega
     case rel => exact ⟨(x4_1 ++ t572), (wrap64 (x5_1 + 1)), (by first | rfl | simp [*]), (by first | rfl | simp [*]), H', ⟨by have := HK1.out; have := HJ4.out; omega⟩, ⟨bl_ HB.out⟩⟩
end Go.Proofs.YtjdbiicjfpgjkaaGreatDoor.Q
