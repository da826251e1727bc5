-- Laid by this seat's own driver (wip/tools/drive.py) out of the translation.
import Derived.Test.YtbbaokjkmcfceaaDoorQx0
import Derived.Test.YtbbaokjkmcfceaaDoorQx2
namespace Go.Proofs.YtbbaokjkmcfceaaDoor.Q
open Go.RowKit Go.Proofs.YtbbaokjkmcfceaaDoorW.PrintWords Go.Proofs.YtbbaokjkmcfceaaDoorW.PrintLast Go.Proofs.YtbbaokjkmcfceaaDoorW.PrintMore
attribute [local go_sem] max2_int min2_int max_two min_two max_three min_three max_four min_four   -- for this text's walks alone
set_option linter.unusedVariables false
set_option linter.unusedSimpArgs false

/-! ### sfitem_value: function 15 -/
open Go.Proofs.YtbbaokjkmcfceaaDoor.Sf
theorem itoa_size (n : Int) (h0 : -9223372036854775808 ≤ n) (h1 : n ≤ 9223372036854775807) : (itoaBA n).size ≤ 21 := by
  have := Lib.itoa_length_le n h0 h1
  unfold itoaBA
  simpa [ByteArray.size] using this
theorem itoa_at (i : Int) (hi : -999999999999999 ≤ i ∧ i ≤ 999999999999999) (W : World) (hT : Aside0 (TabW W)) : Calls Tryd.prog 23 #[.int .i64 i] W fun e w' => e = .returned (.string (itoaBA i)) ∧ Below W.heap.size W w' :=
  strconv_Itoa.calls i (itoaBA i) W hT (if_pos ⟨by omega, by omega⟩)
theorem decDigits_pos (u : Nat) : 0 < (Lib.decDigits u).length := by
  rw [Lib.decDigits]
  split
  · simp
  · simp
theorem itoa_pos (n : Int) : 0 < (itoaBA n).size := by
  have : 0 < (Lib.itoa n).length := by
    unfold Lib.itoa
    split
    · simp
    · exact decDigits_pos _
  unfold itoaBA
  rw [Lib.size_eq]
  exact this
/-- A parameter in a box of its own: its cells, in whatever world comes behind. -/
theorem PB_held {W : World} {b : Nat} {k t : ByteArray} {n i : Int} (h : PB W b k n i t) : Aside0 (∀ W', Below W.heap.size W W' → W'.cell? ⟨b, 2, none⟩ = some (.int .i64 i) ∧ W'.cell? ⟨b, 3, none⟩ = some (.string t)) :=
  ⟨fun W' hb => ⟨(show PB W' b k n i t from blk_below h hb).c2, (show PB W' b k n i t from blk_below h hb).c3⟩⟩
theorem PB_new4 (W : World) (k : ByteArray) (n i : Int) (t : ByteArray) : PB (W.alloc (.cells #[.string k, .int .i64 n, .int .i64 i, .string t] 38)) W.heap.size k n i t := by
  have := blk_new W (.cells #[.string k, .int .i64 n, .int .i64 i, .string t] 38); simpa [PB] using this
set_option maxHeartbeats 8000000 in
set_option maxRecDepth 100000 in
theorem value_low (k t : ByteArray) (i : Int) (w : World) (n : Int) (hi : i < -999999999999999) :
    Calls Tryd.prog 15 #[.agg #[.string k, .int .i64 n, .int .i64 i, .string t]] w fun e w' => e = .returned (.tuple #[.string ⟨#[]⟩, .bool false]) ∧ Below w.heap.size w w' := by
  have hu38 := Tryd.underlying38
  have hP : PB (w.alloc (.cells #[.string k, .int .i64 n, .int .i64 i, .string t] 38)) w.heap.size k n i t := PB_new4 _ _ _ _ _
  have hB := below_alloc (Below.refl w.heap.size w) (.cells #[.string k, .int .i64 n, .int .i64 i, .string t] 38)
  have d1 : decide (i < -999999999999999) = true := decide_eq_true hi
  go_enter Tryd.func15, Tryd.ntmps15
  have c1 := hP.c1
  have c2 := hP.c2
  have c3 := hP.c3
  have HB := Aside0.mk hB
  have HP := Aside0.mk hP
  clear hP hB
  go_wp2
  go_ret2
  exact ⟨rfl, HB.out⟩
set_option maxHeartbeats 8000000 in
set_option maxRecDepth 100000 in
theorem value_high (k t : ByteArray) (i : Int) (w : World) (n : Int) (hi0 : ¬ i < -999999999999999) (hi : 999999999999999 < i) :
    Calls Tryd.prog 15 #[.agg #[.string k, .int .i64 n, .int .i64 i, .string t]] w fun e w' => e = .returned (.tuple #[.string ⟨#[]⟩, .bool false]) ∧ Below w.heap.size w w' := by
  have hu38 := Tryd.underlying38
  have hP : PB (w.alloc (.cells #[.string k, .int .i64 n, .int .i64 i, .string t] 38)) w.heap.size k n i t := PB_new4 _ _ _ _ _
  have hB := below_alloc (Below.refl w.heap.size w) (.cells #[.string k, .int .i64 n, .int .i64 i, .string t] 38)
  have d1 : decide (i < -999999999999999) = false := decide_eq_false hi0
  have d2 : decide (999999999999999 < i) = true := decide_eq_true hi
  go_enter Tryd.func15, Tryd.ntmps15
  have c1 := hP.c1
  have c2 := hP.c2
  have c3 := hP.c3
  have HB := Aside0.mk hB
  have HP := Aside0.mk hP
  clear hP hB
  go_wp2
  go_ret2
  exact ⟨rfl, HB.out⟩
set_option maxHeartbeats 8000000 in
set_option maxRecDepth 100000 in
theorem value_none (k t : ByteArray) (i : Int) (w : World) (n : Int) (hi : -999999999999999 ≤ i ∧ i ≤ 999999999999999) (hn : n ≠ 1 ∧ n ≠ 2 ∧ n ≠ 6 ∧ n ≠ 3 ∧ n ≠ 4 ∧ n ≠ 5) :
    Calls Tryd.prog 15 #[.agg #[.string k, .int .i64 n, .int .i64 i, .string t]] w fun e w' => e = .returned (.tuple #[.string ⟨#[]⟩, .bool false]) ∧ Below w.heap.size w w' := by
  have hu38 := Tryd.underlying38
  have hP : PB (w.alloc (.cells #[.string k, .int .i64 n, .int .i64 i, .string t] 38)) w.heap.size k n i t := PB_new4 _ _ _ _ _
  have hB := below_alloc (Below.refl w.heap.size w) (.cells #[.string k, .int .i64 n, .int .i64 i, .string t] 38)
  have d1 : decide (i < -999999999999999) = false := decide_eq_false (by omega)
  have d2 : decide (999999999999999 < i) = false := decide_eq_false (by omega)
  have e1 : (n == 1) = false := by simp [hn.1]
  have e2 : (n == 2) = false := by simp [hn.2.1]
  have e6 : (n == 6) = false := by simp [hn.2.2.1]
  have e3 : (n == 3) = false := by simp [hn.2.2.2.1]
  have e4 : (n == 4) = false := by simp [hn.2.2.2.2.1]
  have e5 : (n == 5) = false := by simp [hn.2.2.2.2.2]
  clear hn hi
  go_enter Tryd.func15, Tryd.ntmps15
  have c1 := hP.c1
  have c2 := hP.c2
  have c3 := hP.c3
  have HB := Aside0.mk hB
  have HP := Aside0.mk hP
  clear hP hB
  go_wp2
  go_ret2
  exact ⟨rfl, HB.out⟩
set_option maxHeartbeats 8000000 in
set_option maxRecDepth 100000 in
theorem value_int (k t : ByteArray) (i : Int) (w : World) (hT : Aside0 (TabW w)) (hi : -999999999999999 ≤ i ∧ i ≤ 999999999999999) :
    Calls Tryd.prog 15 #[.agg #[.string k, .int .i64 1, .int .i64 i, .string t]] w fun e w' => e = .returned (.tuple #[.string (itoaBA i), .bool t.toList.isEmpty]) ∧ Below w.heap.size w w' := by
  have hu38 := Tryd.underlying38
  have hP : PB (w.alloc (.cells #[.string k, .int .i64 1, .int .i64 i, .string t] 38)) w.heap.size k 1 i t := PB_new4 _ _ _ _ _
  have hB := below_alloc (Below.refl w.heap.size w) (.cells #[.string k, .int .i64 1, .int .i64 i, .string t] 38)
  have d1 : decide (i < -999999999999999) = false := decide_eq_false (by omega)
  have d2 : decide (999999999999999 < i) = false := decide_eq_false (by omega)
  have hIt := Aside0.mk (fun W (hb : Below w.heap.size w W) => itoa_at i hi W (tab_ hT hb))
  clear hi hT
  go_enter Tryd.func15, Tryd.ntmps15
  have c1 := hP.c1
  have c2 := hP.c2
  have c3 := hP.c3
  have HB := Aside0.mk hB
  have HP := Aside0.mk hP
  clear hP hB
  go_upto_region 5 with (fail)
  have hK : ∀ W', Below (w.alloc (.cells #[.string k, .int .i64 1, .int .i64 i, .string t] 38)).heap.size (w.alloc (.cells #[.string k, .int .i64 1, .int .i64 i, .string t] 38)) W' → W'.cell? ⟨w.heap.size, 2, none⟩ = some (.int .i64 i) ∧ W'.cell? ⟨w.heap.size, 3, none⟩ = some (.string t) := (PB_held HP.out).out
  have K := Aside0.mk hK
  clear hK HP c1
  generalize w.alloc (.cells #[.string k, .int .i64 1, .int .i64 i, .string t] 38) = w1 at *
  go_region_held3 (fun w' => w'.cell? ⟨w.heap.size, 2, none⟩ = some (.int .i64 i) ∧ w'.cell? ⟨w.heap.size, 3, none⟩ = some (.string t)) (first | exact K.out _ (below_drew (Below.refl _ _)) | exact K.out _ (Below.refl _ _) | exact K.out _ (by assumption)) (first | (go_at_call 23; ((with_reducible refine (hIt.out _ ?_).mono ?_); (first | exact HB.out | exact below_drew1 HB.out); rintro e w3 ⟨rfl, hb3⟩; have hb4 := below_then (below_drew (Below.refl w1.heap.size w1)) (Nat.le_refl _) hb3; clear hb3)))
  go_wp2
  go_ret2
  exact ⟨rfl, below_then HB.out HB.out.size hb4⟩
set_option maxHeartbeats 8000000 in
set_option maxRecDepth 100000 in
theorem value_boolE (k t : ByteArray) (i : Int) (w : World) (hT : Aside0 (TabW w)) (hi : -999999999999999 ≤ i ∧ i ≤ 999999999999999) (ht : (t.toList == ([] : List UInt8)) = true) :
    Calls Tryd.prog 15 #[.agg #[.string k, .int .i64 6, .int .i64 i, .string t]] w fun e w' => e = .returned (.tuple #[.string ((⟨#[63]⟩ : ByteArray) ++ itoaBA i), .bool (Go.bits .andNot .i64 i 1 == 0)]) ∧ Below w.heap.size w w' := by
  have hu38 := Tryd.underlying38
  have hP : PB (w.alloc (.cells #[.string k, .int .i64 6, .int .i64 i, .string t] 38)) w.heap.size k 6 i t := PB_new4 _ _ _ _ _
  have hB := below_alloc (Below.refl w.heap.size w) (.cells #[.string k, .int .i64 6, .int .i64 i, .string t] 38)
  have d1 : decide (i < -999999999999999) = false := decide_eq_false (by omega)
  have d2 : decide (999999999999999 < i) = false := decide_eq_false (by omega)
  have hIt := Aside0.mk (fun W (hb : Below w.heap.size w W) => itoa_at i hi W (tab_ hT hb))
  have hz := itoa_size i (by omega) (by omega)
  have z1 : (9223372036854775807 < 1 + (itoaBA i).size) = False := eq_false (by omega)
  have z1b : (1 + (itoaBA i).size ≤ 9223372036854775807) = True := eq_true (by omega)
  clear hi hT hz
  go_enter Tryd.func15, Tryd.ntmps15
  have c1 := hP.c1
  have c2 := hP.c2
  have c3 := hP.c3
  have HB := Aside0.mk hB
  have HP := Aside0.mk hP
  clear hP hB
  go_upto_region 15 with (fail)
  have hK : ∀ W', Below (w.alloc (.cells #[.string k, .int .i64 6, .int .i64 i, .string t] 38)).heap.size (w.alloc (.cells #[.string k, .int .i64 6, .int .i64 i, .string t] 38)) W' → W'.cell? ⟨w.heap.size, 2, none⟩ = some (.int .i64 i) ∧ W'.cell? ⟨w.heap.size, 3, none⟩ = some (.string t) := (PB_held HP.out).out
  have K := Aside0.mk hK
  clear hK HP c1
  generalize w.alloc (.cells #[.string k, .int .i64 6, .int .i64 i, .string t] 38) = w1 at *
  go_region_held3 (fun w' => w'.cell? ⟨w.heap.size, 2, none⟩ = some (.int .i64 i) ∧ w'.cell? ⟨w.heap.size, 3, none⟩ = some (.string t)) (first | exact K.out _ (below_drew (Below.refl _ _)) | exact K.out _ (Below.refl _ _) | exact K.out _ (by assumption)) (first | (go_at_call 23; ((with_reducible refine (hIt.out _ ?_).mono ?_); (first | exact HB.out | exact below_drew1 HB.out); rintro e w3 ⟨rfl, hb3⟩; have hb4 := below_then (below_drew (Below.refl w1.heap.size w1)) (Nat.le_refl _) hb3; clear hb3)))
  go_wp2
  go_ret2
  exact ⟨rfl, below_then HB.out HB.out.size hb4⟩
def tailZ (n : Int) : ByteArray := trimZ ((itoaBA (1000 + Int.tmod n 1000)).extract 1 (itoaBA (1000 + Int.tmod n 1000)).size)
def fracB (n : Int) : ByteArray := if 0 < (tailZ n).size then tailZ n else ⟨#[48]⟩
def magn (i : Int) : Int := if i < 0 then -i else i
def signB (i : Int) : ByteArray := if i < 0 then ⟨#[45]⟩ else ⟨#[]⟩
def decB (i : Int) : ByteArray := ((signB i ++ itoaBA (Int.tdiv (magn i) 1000)) ++ (⟨#[46]⟩ : ByteArray)) ++ fracB (magn i)
theorem trimZ_size (s : ByteArray) : (trimZ s).size ≤ s.size := by
  have : (Lib.trimRightB s.data.toList 48).length ≤ s.data.toList.length := by
    unfold Lib.trimRightB
    rw [List.length_reverse]
    exact Nat.le_trans (List.dropWhile_sublist _).length_le (by rw [List.length_reverse]; exact Nat.le_refl _)
  unfold trimZ
  rw [Lib.size_eq, Lib.size_eq s]
  exact this
set_option maxHeartbeats 8000000 in
set_option maxRecDepth 100000 in
theorem value_dec (k t : ByteArray) (i : Int) (w : World) (hT : Aside0 (TabW w)) (hi : -999999999999999 ≤ i ∧ i ≤ 999999999999999) :
    Calls Tryd.prog 15 #[.agg #[.string k, .int .i64 2, .int .i64 i, .string t]] w fun e w' => e = .returned (.tuple #[.string (decB i), .bool t.toList.isEmpty]) ∧ Below w.heap.size w w' := by
  have hu38 := Tryd.underlying38
  have hP : PB (w.alloc (.cells #[.string k, .int .i64 2, .int .i64 i, .string t] 38)) w.heap.size k 2 i t := PB_new4 _ _ _ _ _
  have hB := below_alloc (Below.refl w.heap.size w) (.cells #[.string k, .int .i64 2, .int .i64 i, .string t] 38)
  have d1 : decide (i < -999999999999999) = false := decide_eq_false (by omega)
  have d2 : decide (999999999999999 < i) = false := decide_eq_false (by omega)
  have hm0 : 0 ≤ magn i ∧ magn i ≤ 999999999999999 := by unfold magn; split <;> omega
  have hIt := Aside0.mk (fun W (hb : Below w.heap.size w W) => itoa_at (1000 + Int.tmod (magn i) 1000) (by have := Int.tmod_nonneg 1000 hm0.1; have := Int.tmod_lt_of_pos (magn i) (show (0 : Int) < 1000 by decide); omega) W (tab_ hT hb))
  have hId := Aside0.mk (fun W (hb : Below w.heap.size w W) => itoa_at (Int.tdiv (magn i) 1000) (by rw [Int.tdiv_eq_ediv_of_nonneg hm0.1]; omega) W (tab_ hT hb))
  have hz0 : 1000 ≤ 1000 + Int.tmod (magn i) 1000 ∧ 1000 + Int.tmod (magn i) 1000 ≤ 1999 := by have := Int.tmod_nonneg 1000 hm0.1; have := Int.tmod_lt_of_pos (magn i) (show (0 : Int) < 1000 by decide); omega
  have hw1 := Aside0.mk (IntWalk.wrap64_in (1000 + Int.tmod (magn i) 1000) ⟨by omega, by omega⟩)
  have hw2 := Aside0.mk (IntWalk.wrap64_in (Int.tdiv (magn i) 1000) (by rw [Int.tdiv_eq_ediv_of_nonneg hm0.1]; constructor <;> omega))
  have hw3 := Aside0.mk (IntWalk.wrap64_in (-i) ⟨by omega, by omega⟩)
  have hs1 := Aside0.mk (itoa_size (1000 + Int.tmod (magn i) 1000) (by omega) (by omega))
  have hs2 := Aside0.mk (itoa_size (Int.tdiv (magn i) 1000) (by rw [Int.tdiv_eq_ediv_of_nonneg hm0.1]; omega) (by rw [Int.tdiv_eq_ediv_of_nonneg hm0.1]; omega))
  clear hT hi hm0 hz0
  go_enter Tryd.func15, Tryd.ntmps15
  have c1 := hP.c1
  have c2 := hP.c2
  have c3 := hP.c3
  have HB := Aside0.mk hB
  have HP := Aside0.mk hP
  clear hP hB
  go_upto_if 34 with (fail)
  have hK : ∀ W', Below (w.alloc (.cells #[.string k, .int .i64 2, .int .i64 i, .string t] 38)).heap.size (w.alloc (.cells #[.string k, .int .i64 2, .int .i64 i, .string t] 38)) W' → W'.cell? ⟨w.heap.size, 2, none⟩ = some (.int .i64 i) ∧ W'.cell? ⟨w.heap.size, 3, none⟩ = some (.string t) := (PB_held HP.out).out
  have K := Aside0.mk hK
  clear hK HP c1 c2 c3
  generalize w.alloc (.cells #[.string k, .int .i64 2, .int .i64 i, .string t] 38) = w1 at *
  go_cut [4, 5] (fun v4 v5 wc => v4 = .int .i64 (magn i) ∧ v5 = .string (signB i) ∧ wc = w1)
  case first =>
    by_cases hn : i < 0
    · have e1 : magn i = -i := if_pos hn
      have e2 : signB i = ⟨#[45]⟩ := if_pos hn
      have hd : decide (i < 0) = true := decide_eq_true hn
      have hw := hw3.out
      clear hn
      rw [hd]
      go_wp2
      go_meet
      case rel => exact ⟨by rw [e1] <;> first | rfl | simp [hw3.out], by rw [e2] <;> rfl, rfl⟩
    · have e1 : magn i = i := if_neg hn
      have e2 : signB i = ⟨#[]⟩ := if_neg hn
      have hd : decide (i < 0) = false := decide_eq_false hn
      clear hn
      rw [hd]
      go_wp2
      go_meet
      case rel => exact ⟨by rw [e1] <;> first | rfl | simp [hw3.out], by rw [e2] <;> rfl, rfl⟩
  case rest =>
    obtain ⟨rfl, rfl, rfl⟩ := hcut
    have hw1' := hw1.out
    have hp1 := itoa_pos (1000 + Int.tmod (magn i) 1000)
    have q1 : (1 ≤ ((itoaBA (1000 + Int.tmod (magn i) 1000)).size : Int)) = True := eq_true (by omega)
    have q1b : (1 ≤ (itoaBA (1000 + Int.tmod (magn i) 1000)).size) = True := eq_true (by omega)
    have htr0 : ∀ W, Calls Tryd.prog 24 #[.string ((itoaBA (1000 + Int.tmod (magn i) 1000)).extract 1 (itoaBA (1000 + Int.tmod (magn i) 1000)).size), .string ⟨#[48]⟩] W fun e w' => e = .returned (.string (tailZ (magn i))) ∧ w' = W := fun W => Tryd.strings_TrimRight_one ((itoaBA (1000 + Int.tmod (magn i) 1000)).extract 1 (itoaBA (1000 + Int.tmod (magn i) 1000)).size) 48 (by decide) W (by rw [ByteArray.size_extract]; have := hs1.out; omega)
    have hF : fracB (magn i) = if 0 < (tailZ (magn i)).size then tailZ (magn i) else ⟨#[48]⟩ := rfl
    have htz : (tailZ (magn i)).size ≤ 21 := by
      unfold tailZ
      refine Nat.le_trans (trimZ_size _) ?_
      rw [ByteArray.size_extract]; have := hs1.out; omega
    have HE : decB i = ((signB i ++ itoaBA (Int.tdiv (magn i) 1000)) ++ (⟨#[46]⟩ : ByteArray)) ++ fracB (magn i) := rfl
    have hsg : (signB i).size ≤ 1 := by unfold signB; split <;> decide
    generalize tailZ (magn i) = tz at *
    generalize fracB (magn i) = fz at *
    generalize signB i = sz at *
    have htr := Aside0.mk htr0
    have HF := Aside0.mk hF
    have HZ := Aside0.mk htz
    have HS := Aside0.mk hsg
    have HD := Aside0.mk HE
    clear htz hp1 hs1 hF htr0 hsg HE
    go_upto_if 44 with (first | (go_at_call 24; refine (htr.out _).mono ?_; rintro e w5 ⟨rfl, rfl⟩) | (go_at_call 23; refine (hIt.out _ HB.out).mono ?_; rintro e w4 ⟨rfl, hb4⟩))
    have hw2' := hw2.out
    have HB5 := Aside0.mk (below_then HB.out HB.out.size hb4)
    have K5 := Aside0.mk (fun W' (hb : Below w5.heap.size w5 W') => K.out W' (below_then hb4 hb4.size hb))
    clear hb4 htr hIt q1 q1b hw1'
    generalize itoaBA (1000 + Int.tmod (magn i) 1000) = x1 at *
    go_cut [6] (fun v6 wc => v6 = .string fz ∧ wc = w5)
    case first =>
      by_cases h0 : 0 < tz.size
      · have e1 : fz = tz := HF.out.trans (if_pos h0)
        have n1 : tz.toList.isEmpty = false := by have := (nonempty_ne tz h0).1; simpa using this
        clear h0 HF
        (first | rw [n1] | skip)
        go_wp2
        go_meet
        case rel => exact ⟨by rw [e1] <;> rfl, rfl⟩
      · have e1 : fz = ⟨#[48]⟩ := HF.out.trans (if_neg h0)
        have n1 : tz.toList.isEmpty = true := by have := (empty_eq tz h0).1; simpa using this
        clear h0 HF
        (first | rw [n1] | skip)
        go_wp2
        go_meet
        case rel => exact ⟨by rw [e1] <;> rfl, rfl⟩
    case rest =>
      obtain ⟨rfl, rfl⟩ := hcut
      have hfz : fz.size ≤ 21 := by
        rw [HF.out]
        split
        · exact HZ.out
        · decide
      have hId' := hId.out
      have hy := hs2.out
      have hs := HS.out
      generalize itoaBA (Int.tdiv (magn i) 1000) = y1 at *
      have z1 : (9223372036854775807 < sz.size + y1.size) = False := eq_false (by omega)
      have z1b : (sz.size + y1.size ≤ 9223372036854775807) = True := eq_true (by omega)
      have z2 : (9223372036854775807 < sz.size + y1.size + 1) = False := eq_false (by omega)
      have z2b : (sz.size + y1.size + 1 ≤ 9223372036854775807) = True := eq_true (by omega)
      have z3 : (9223372036854775807 < sz.size + y1.size + 1 + fz.size) = False := eq_false (by omega)
      have z3b : (sz.size + y1.size + 1 + fz.size ≤ 9223372036854775807) = True := eq_true (by omega)
      have HI := Aside0.mk hId'
      clear hId hId' hfz hy hs HF HZ HS hs2
      have HW := Aside0.mk HB
      obtain ⟨k2, k3⟩ := K5.out _ (Below.refl _ _)
      go_upto_region 13 with (fail)
      go_region_held3 (fun w' => w'.cell? ⟨w.heap.size, 2, none⟩ = some (.int .i64 i) ∧ w'.cell? ⟨w.heap.size, 3, none⟩ = some (.string t)) (first | exact K5.out _ (below_drew (Below.refl _ _)) | exact K5.out _ (Below.refl _ _) | exact K5.out _ (by assumption)) (first | (go_at_call 23; (try rw [i64_w]); (try rw [hw2.out]); ((with_reducible refine (HI.out _ ?_).mono ?_); (first | exact HB5.out | exact below_drew1 HB5.out); rintro e w6 ⟨rfl, hb6⟩; have hb7 := below_then (below_drew (Below.refl wc.heap.size wc)) (Nat.le_refl _) hb6; clear hb6)))
      go_wp2
      go_ret2
      exact ⟨by rw [HD.out]; rfl, below_then HB5.out HB5.out.size hb7⟩
set_option maxHeartbeats 8000000 in
set_option maxRecDepth 100000 in
theorem value_token (k t : ByteArray) (w : World) (b : Bool) (hb : sfitem_whole.f t 4 = some b) :
    Calls Tryd.prog 15 #[.agg #[.string k, .int .i64 4, .int .i64 0, .string t]] w fun e w' => e = .returned (.tuple #[.string t, .bool b]) ∧ Below w.heap.size w w' := by
  have hu38 := Tryd.underlying38
  have hP : PB (w.alloc (.cells #[.string k, .int .i64 4, .int .i64 0, .string t] 38)) w.heap.size k 4 0 t := PB_new4 _ _ _ _ _
  have hB := below_alloc (Below.refl w.heap.size w) (.cells #[.string k, .int .i64 4, .int .i64 0, .string t] 38)
  have d1 : decide ((0 : Int) < -999999999999999) = false := by decide
  have d2 : decide (999999999999999 < (0 : Int)) = false := by decide
  have hWh := Aside0.mk (fun W => sfitem_whole.calls t 4 b W hb)
  clear hb
  go_enter Tryd.func15, Tryd.ntmps15
  have c1 := hP.c1
  have c2 := hP.c2
  have c3 := hP.c3
  have HB := Aside0.mk hB
  have HP := Aside0.mk hP
  clear hP hB
  go_upto_region 29 with (fail)
  have hK : ∀ W', Below (w.alloc (.cells #[.string k, .int .i64 4, .int .i64 0, .string t] 38)).heap.size (w.alloc (.cells #[.string k, .int .i64 4, .int .i64 0, .string t] 38)) W' → W'.cell? ⟨w.heap.size, 2, none⟩ = some (.int .i64 0) ∧ W'.cell? ⟨w.heap.size, 3, none⟩ = some (.string t) := (PB_held HP.out).out
  have K := Aside0.mk hK
  clear hK HP c1
  generalize w.alloc (.cells #[.string k, .int .i64 4, .int .i64 0, .string t] 38) = w1 at *
  go_region_held3 (fun w' => w'.cell? ⟨w.heap.size, 2, none⟩ = some (.int .i64 0) ∧ w'.cell? ⟨w.heap.size, 3, none⟩ = some (.string t)) (first | exact K.out _ (below_drew (Below.refl _ _)) | exact K.out _ (Below.refl _ _) | exact K.out _ (by assumption)) (first | (go_at_call 26; ((with_reducible refine (hWh.out _).mono ?_); rintro e w3 ⟨rfl, hb3⟩; have hb4 := below_then (below_drew (Below.refl w1.heap.size w1)) (Nat.le_refl _) hb3; clear hb3)))
  go_wp2
  go_ret2
  exact ⟨rfl, below_then HB.out HB.out.size hb4⟩
set_option maxHeartbeats 8000000 in
set_option maxRecDepth 100000 in
theorem value_bytesZ (k t : ByteArray) (w : World) (b : Bool) (hz : t.size ≤ 2199023255540) (hb : sfitem_whole.f (((⟨#[58]⟩ : ByteArray) ++ t) ++ (⟨#[58]⟩ : ByteArray)) 5 = some b) :
    Calls Tryd.prog 15 #[.agg #[.string k, .int .i64 5, .int .i64 0, .string t]] w fun e w' => e = .returned (.tuple #[.string (((⟨#[58]⟩ : ByteArray) ++ t) ++ (⟨#[58]⟩ : ByteArray)), .bool b]) ∧ Below w.heap.size w w' := by
  have hu38 := Tryd.underlying38
  have hP : PB (w.alloc (.cells #[.string k, .int .i64 5, .int .i64 0, .string t] 38)) w.heap.size k 5 0 t := PB_new4 _ _ _ _ _
  have hB := below_alloc (Below.refl w.heap.size w) (.cells #[.string k, .int .i64 5, .int .i64 0, .string t] 38)
  have d1 : decide ((0 : Int) < -999999999999999) = false := by decide
  have d2 : decide (999999999999999 < (0 : Int)) = false := by decide
  have hWh := Aside0.mk (fun W => sfitem_whole.calls _ 5 b W hb)
  clear hb
  have z1 : (9223372036854775807 < 1 + t.size) = False := eq_false (by omega)
  have z1b : (1 + t.size ≤ 9223372036854775807) = True := eq_true (by omega)
  have z2 : (9223372036854775807 < 1 + t.size + 1) = False := eq_false (by omega)
  have z2b : (1 + t.size + 1 ≤ 9223372036854775807) = True := eq_true (by omega)
  clear hz
  go_enter Tryd.func15, Tryd.ntmps15
  have c1 := hP.c1
  have c2 := hP.c2
  have c3 := hP.c3
  have HB := Aside0.mk hB
  have HP := Aside0.mk hP
  clear hP hB
  go_wp2_with (first | (go_at_call 26; ((with_reducible refine (hWh.out _).mono ?_); rintro e w3 ⟨rfl, hb3⟩; skip)))
  go_ret2
  exact ⟨rfl, below_then HB.out HB.out.size hb3⟩
set_option maxHeartbeats 8000000 in
set_option maxRecDepth 100000 in
theorem value_bytesN (k t : ByteArray) (i : Int) (w : World) (hi : -999999999999999 ≤ i ∧ i ≤ 999999999999999) (hz : t.size ≤ 2199023255540) (hn : ¬ i = 0) :
    Calls Tryd.prog 15 #[.agg #[.string k, .int .i64 5, .int .i64 i, .string t]] w fun e w' => e = .returned (.tuple #[.string (((⟨#[58]⟩ : ByteArray) ++ t) ++ (⟨#[58]⟩ : ByteArray)), .bool false]) ∧ Below w.heap.size w w' := by
  have hu38 := Tryd.underlying38
  have hP : PB (w.alloc (.cells #[.string k, .int .i64 5, .int .i64 i, .string t] 38)) w.heap.size k 5 i t := PB_new4 _ _ _ _ _
  have hB := below_alloc (Below.refl w.heap.size w) (.cells #[.string k, .int .i64 5, .int .i64 i, .string t] 38)
  have d1 : decide (i < -999999999999999) = false := decide_eq_false (by omega)
  have d2 : decide (999999999999999 < i) = false := decide_eq_false (by omega)
  have d3 : (i == 0) = false := by simp [hn]
  clear hn hi
  have z1 : (9223372036854775807 < 1 + t.size) = False := eq_false (by omega)
  have z1b : (1 + t.size ≤ 9223372036854775807) = True := eq_true (by omega)
  have z2 : (9223372036854775807 < 1 + t.size + 1) = False := eq_false (by omega)
  have z2b : (1 + t.size + 1 ≤ 9223372036854775807) = True := eq_true (by omega)
  clear hz
  go_enter Tryd.func15, Tryd.ntmps15
  have c1 := hP.c1
  have c2 := hP.c2
  have c3 := hP.c3
  have HB := Aside0.mk hB
  have HP := Aside0.mk hP
  clear hP hB
  go_wp2
  go_ret2
  exact ⟨rfl, HB.out⟩
/-- A text in quotes, as far as k bytes: none: a byte that may not be. -/
def qOut (t : ByteArray) : Nat → Option ByteArray
  | 0 => some ⟨#[34]⟩
  | k + 1 => (qOut t k).bind fun o => if bt t k < 32 ∨ 126 < bt t k then none else some ((if wiP (bt t k) ⟨#[34, 92]⟩ = true then o ++ (⟨#[92]⟩ : ByteArray) else o) ++ strOfNums [bt t k])
theorem qOut_none (t : ByteArray) (k : Nat) (h : qOut t k = none) : ∀ n, k ≤ n → qOut t n = none := by
  intro n hn
  induction n with
  | zero => obtain rfl : k = 0 := by omega
            exact h
  | succ n ih =>
    by_cases hk : k = n + 1
    · rw [← hk]; exact h
    · rw [qOut, ih (by omega)]; rfl
theorem num_size (c : Int) : (strOfNums [c]).size = 1 := by unfold strOfNums; rfl
theorem qOut_size (t : ByteArray) : ∀ (k : Nat) (o : ByteArray), qOut t k = some o → o.size ≤ 1 + 2 * k := by
  intro k
  induction k with
  | zero => intro o h; rw [qOut] at h; obtain rfl := Option.some.inj h; exact Nat.le_refl _
  | succ k ih =>
    intro o h
    rw [qOut] at h
    obtain ⟨o', h1, h2⟩ := Option.bind_eq_some_iff.1 h
    have := ih o' h1
    by_cases c : bt t k < 32 ∨ 126 < bt t k
    · rw [if_pos c] at h2; cases h2
    · rw [if_neg c] at h2
      have h2 := Option.some.inj h2
      rw [← h2, ByteArray.size_append, num_size]
      by_cases c2 : wiP (bt t k) ⟨#[34, 92]⟩ = true
      · rw [if_pos c2, ByteArray.size_append]
        have : (⟨#[92]⟩ : ByteArray).size = 1 := rfl
        omega
      · rw [if_neg c2]; omega
theorem bt_nat2 (s : ByteArray) (j : Nat) : bt s (j : Int) = ((s.data.toList.getD j 0).toNat : Int) := by
  unfold bt
  split
  · rename_i h
    have h' : j < s.data.toList.length := by rw [data_length]; simpa using h
    simp [List.getD_eq_getElem?_getD, List.getElem?_eq_getElem h']
    rfl
  · rename_i h
    have h' : s.data.toList.length ≤ j := by rw [data_length]; simp at h; omega
    simp [List.getD_eq_getElem?_getD, List.getElem?_eq_none h']
def textF (i : Int) (t : ByteArray) : ByteArray × Bool := match qOut t t.size with | some o => (o ++ (⟨#[34]⟩ : ByteArray), i == 0) | none => (⟨#[]⟩, false)
set_option maxHeartbeats 8000000 in
set_option maxRecDepth 100000 in
theorem value_text (k t : ByteArray) (i : Int) (w : World) (hi : -999999999999999 ≤ i ∧ i ≤ 999999999999999) (hz : t.size ≤ 2199023255552) :
    Calls Tryd.prog 15 #[.agg #[.string k, .int .i64 3, .int .i64 i, .string t]] w fun e w' => e = .returned (.tuple #[.string (textF i t).1, .bool (textF i t).2]) ∧ Below w.heap.size w w' := by
  have hu38 := Tryd.underlying38
  have hP : PB (w.alloc (.cells #[.string k, .int .i64 3, .int .i64 i, .string t] 38)) w.heap.size k 3 i t := PB_new4 _ _ _ _ _
  have hB := below_alloc (Below.refl w.heap.size w) (.cells #[.string k, .int .i64 3, .int .i64 i, .string t] 38)
  have d1 : decide (i < -999999999999999) = false := decide_eq_false (by omega)
  have d2 : decide (999999999999999 < i) = false := decide_eq_false (by omega)
  clear hi
  go_enter Tryd.func15, Tryd.ntmps15
  have c1 := hP.c1
  have c2 := hP.c2
  have c3 := hP.c3
  have HB := Aside0.mk hB
  have HP := Aside0.mk hP
  clear hP hB
  go_upto_region 18 with (fail)
  have hK : ∀ W', Below (w.alloc (.cells #[.string k, .int .i64 3, .int .i64 i, .string t] 38)).heap.size (w.alloc (.cells #[.string k, .int .i64 3, .int .i64 i, .string t] 38)) W' → W'.cell? ⟨w.heap.size, 2, none⟩ = some (.int .i64 i) ∧ W'.cell? ⟨w.heap.size, 3, none⟩ = some (.string t) := (PB_held HP.out).out
  have K := Aside0.mk hK
  clear hK HP c1 c2
  generalize w.alloc (.cells #[.string k, .int .i64 3, .int .i64 i, .string t] 38) = w1 at *
  have kb := fun W => print_bytes (P := Tryd.prog) 9 53 5 Tryd.underlying9 Tryd.underlying53 Tryd.underlying5 t W
  have hC : ∀ j : Nat, j < t.size → (Lib.bytesWorld w1 5 t).cell? ⟨w1.heap.size, j, none⟩ = some (.int .u8 (bt t j)) := fun j hj => by rw [Lib.bytesWorld_cell w1 5 t j hj, bt_nat2]
  have hB2 : Below w.heap.size w (Lib.bytesWorld w1 5 t) := bytes_below HB.out HB.out.size _ _
  have hK2 := Aside0.mk (fun W' (hb : Below (Lib.bytesWorld w1 5 t).heap.size (Lib.bytesWorld w1 5 t) W') => K.out W' (below_then (bytes_below (Below.refl _ _) (Nat.le_refl _) _ _) (bytes_below (Below.refl w1.heap.size w1) (Nat.le_refl _) 5 t).size hb))
  have HC := Aside0.mk hC
  have HB2 := Aside0.mk hB2
  clear hC hB2 K HB
  go_wp2
  generalize grownCap w1 t.size 0 5 = cap
  generalize Lib.bytesWorld w1 5 t = W2 at *
  generalize w1.heap.size = gb at *
  clear kb c3
  have hcv : ∀ (c : Int) (W : World), (convert 53 9 (.slice (some ⟨W.heap.size, 0, none⟩) 1 1)).run Tryd.prog (W.alloc (.cells #[.int .u8 c] 5)) = .ok (.string (strOfNums [c])) (W.alloc (.cells #[.int .u8 c] 5)) := fun c W => by
    refine run_convert_bytes_arg _ 53 5 Tryd.underlying53 Tryd.underlying5 W.heap.size 0 1 1 [c] rfl (fun j hj => ?_) 9 Tryd.underlying9
    obtain rfl : j = 0 := by omega
    exact (blk_cell (by have := blk_new W (.cells #[.int .u8 c] 5); simpa using this) 0).trans rfl
  go_loopw [7, 9, 77] (fun v7 v9 v77 wr => ∃ (k : Nat) (o : ByteArray), k ≤ t.size ∧ v77 = .int .i64 k ∧ v7 = .string o ∧ Aside0 (qOut t k = some o) ∧ Aside0 (Below W2.heap.size W2 wr)) (fun _ _ v77 _ => t.size - (intOf v77).toNat)
  case atStart => exact ⟨0, _, Nat.zero_le _, rfl, rfl, ⟨rfl⟩, ⟨Below.refl _ _⟩⟩
  case round =>
    obtain ⟨n, o, hn, rfl, rfl, HQ, HBr⟩ := hrel
    by_cases hlt : n < t.size
    · have hcell : wr.cell? ⟨gb, n, none⟩ = some (.int .u8 (bt t n)) := pw_cell_below HBr.out (HC.out n hlt)
      have p1 : (0 ≤ (n : Int)) = True := eq_true (by omega)
      have p2 : ((n : Int) < (t.size : Int)) = True := eq_true (by omega)
      have hltd : decide ((n : Int) < (t.size : Int)) = true := decide_eq_true (by omega)
      have hos := qOut_size t n o HQ.out
      have hq1 : qOut t (n + 1) = if bt t n < 32 ∨ 126 < bt t n then none else some ((if wiP (bt t n) ⟨#[34, 92]⟩ = true then o ++ (⟨#[92]⟩ : ByteArray) else o) ++ strOfNums [bt t n]) := by rw [qOut, HQ.out]; rfl
      have hwi := fun W => asks_within (bt t n) ⟨#[34, 92]⟩ W
      by_cases e1 : bt t n < 32
      · rw [if_pos (Or.inl e1)] at hq1
        have HT2 : Aside0 (textF i t = (⟨#[]⟩, false)) := ⟨by unfold textF; rw [qOut_none t (n + 1) hq1 t.size (by omega)]⟩
        have f1 : decide (bt t n < 32) = true := decide_eq_true e1
        clear hq1 e1 hwi HQ
        generalize bt t n = c at *
        go_wp2
        go_ret2
        exact ⟨by rw [HT2.out]; rfl, below_then HB2.out HB2.out.size HBr.out⟩
      · by_cases e2 : 126 < bt t n
        · rw [if_pos (Or.inr e2)] at hq1
          have HT2 : Aside0 (textF i t = (⟨#[]⟩, false)) := ⟨by unfold textF; rw [qOut_none t (n + 1) hq1 t.size (by omega)]⟩
          have f1 : decide (bt t n < 32) = false := decide_eq_false e1
          have f2 : decide (126 < bt t n) = true := decide_eq_true e2
          clear hq1 e1 e2 hwi HQ
          generalize bt t n = c at *
          go_wp2
          go_ret2
          exact ⟨by rw [HT2.out]; rfl, below_then HB2.out HB2.out.size HBr.out⟩
        · rw [if_neg (fun h => h.elim e1 e2)] at hq1
          have f1 : decide (bt t n < 32) = false := decide_eq_false e1
          have f2 : decide (126 < bt t n) = false := decide_eq_false e2
          have hns := num_size (bt t n)
          cases e5 : wiP (bt t n) ⟨#[34, 92]⟩ with
          | true =>
            rw [e5] at hq1 hwi
            have HQ1 : Aside0 (qOut t (n + 1) = some ((o ++ (⟨#[92]⟩ : ByteArray)) ++ strOfNums [bt t n])) := ⟨hq1⟩
            have z1 : (9223372036854775807 < o.size + 1) = False := eq_false (by omega)
            have z1b : (o.size + 1 ≤ 9223372036854775807) = True := eq_true (by omega)
            have z2 : (9223372036854775807 < o.size + 1 + (strOfNums [bt t n]).size) = False := eq_false (by omega)
            have z2b : (o.size + 1 + (strOfNums [bt t n]).size ≤ 9223372036854775807) = True := eq_true (by omega)
            have hcv' : ∀ q : Nat, (convert 53 9 (.slice (some ⟨wr.heap.size, 0, none⟩) 1 1)).run Tryd.prog ((wr.drewN q).alloc (.cells #[.int .u8 (bt t n)] 5)) = .ok (.string (strOfNums [bt t n])) ((wr.drewN q).alloc (.cells #[.int .u8 (bt t n)] 5)) := fun q => hcv (bt t n) (wr.drewN q)
            clear hq1 e1 e2 e5 HQ hns hos
            generalize bt t n = c at *
            generalize strOfNums [c] = sc at *
            go_wp2_with (first | (go_at_call 25; refine (hwi _).mono ?_; rintro e w' ⟨rfl, ⟨q, rfl⟩⟩))
            go_roundw
            case rel => exact ⟨n + 1, _, by omega, by go_num, rfl, HQ1, ⟨below_alloc (pw_below_drewN HBr.out _) _⟩⟩
            case measure => simp [intOf]; omega
          | false =>
            rw [e5] at hq1 hwi
            have HQ1 : Aside0 (qOut t (n + 1) = some (o ++ strOfNums [bt t n])) := ⟨hq1⟩
            have z2 : (9223372036854775807 < o.size + (strOfNums [bt t n]).size) = False := eq_false (by omega)
            have z2b : (o.size + (strOfNums [bt t n]).size ≤ 9223372036854775807) = True := eq_true (by omega)
            have hcv' : ∀ q : Nat, (convert 53 9 (.slice (some ⟨wr.heap.size, 0, none⟩) 1 1)).run Tryd.prog ((wr.drewN q).alloc (.cells #[.int .u8 (bt t n)] 5)) = .ok (.string (strOfNums [bt t n])) ((wr.drewN q).alloc (.cells #[.int .u8 (bt t n)] 5)) := fun q => hcv (bt t n) (wr.drewN q)
            clear hq1 e1 e2 e5 HQ hns hos
            generalize bt t n = c at *
            generalize strOfNums [c] = sc at *
            go_wp2_with (first | (go_at_call 25; refine (hwi _).mono ?_; rintro e w' ⟨rfl, ⟨q, rfl⟩⟩))
            go_roundw
            case rel => exact ⟨n + 1, _, by omega, by go_num, rfl, HQ1, ⟨below_alloc (pw_below_drewN HBr.out _) _⟩⟩
            case measure => simp [intOf]; omega
    · obtain rfl : n = t.size := by omega
      have hltd : decide ((t.size : Int) < (t.size : Int)) = false := decide_eq_false (by omega)
      have HT2 : Aside0 (textF i t = (o ++ (⟨#[34]⟩ : ByteArray), i == 0)) := ⟨by unfold textF; rw [HQ.out]⟩
      have hos := qOut_size t _ o HQ.out
      have z1 : (9223372036854775807 < o.size + 1) = False := eq_false (by omega)
      have z1b : (o.size + 1 ≤ 9223372036854775807) = True := eq_true (by omega)
      obtain ⟨k2, k3⟩ := hK2.out _ HBr.out
      clear hos HQ
      go_upto_region 27 with (fail)
      go_region
      all_goals (go_wp2; go_ret2; exact ⟨by rw [HT2.out]; rfl, below_drew1 (below_then HB2.out HB2.out.size HBr.out)⟩)
set_option maxHeartbeats 4000000 in
set_option maxRecDepth 100000 in
theorem value_boolN (k t : ByteArray) (i : Int) (w : World) (hT : Aside0 (TabW w)) (hi : -999999999999999 ≤ i ∧ i ≤ 999999999999999) (ht : (t.toList == ([] : List UInt8)) = false) :
    Calls Tryd.prog 15 #[.agg #[.string k, .int .i64 6, .int .i64 i, .string t]] w fun e w' => e = .returned (.tuple #[.string ((⟨#[63]⟩ : ByteArray) ++ itoaBA i), .bool false]) ∧ Below w.heap.size w w' := by
  have hu38 := Tryd.underlying38
  have hP : PB (w.alloc (.cells #[.string k, .int .i64 6, .int .i64 i, .string t] 38)) w.heap.size k 6 i t := PB_new4 _ _ _ _ _
  have hB := below_alloc (Below.refl w.heap.size w) (.cells #[.string k, .int .i64 6, .int .i64 i, .string t] 38)
  have d1 : decide (i < -999999999999999) = false := decide_eq_false (by omega)
  have d2 : decide (999999999999999 < i) = false := decide_eq_false (by omega)
  have hIt := Aside0.mk (fun W (hb : Below w.heap.size w W) => itoa_at i hi W (tab_ hT hb))
  have hz := itoa_size i (by omega) (by omega)
  have z1 : (9223372036854775807 < 1 + (itoaBA i).size) = False := eq_false (by omega)
  have z1b : (1 + (itoaBA i).size ≤ 9223372036854775807) = True := eq_true (by omega)
  clear hi hT hz
  go_enter Tryd.func15, Tryd.ntmps15
  have c1 := hP.c1
  have c2 := hP.c2
  have c3 := hP.c3
  have HB := Aside0.mk hB
  have HP := Aside0.mk hP
  clear hP hB
  go_upto_region 15 with (fail)
  have hK : ∀ W', Below (w.alloc (.cells #[.string k, .int .i64 6, .int .i64 i, .string t] 38)).heap.size (w.alloc (.cells #[.string k, .int .i64 6, .int .i64 i, .string t] 38)) W' → W'.cell? ⟨w.heap.size, 2, none⟩ = some (.int .i64 i) ∧ W'.cell? ⟨w.heap.size, 3, none⟩ = some (.string t) := (PB_held HP.out).out
  have K := Aside0.mk hK
  clear hK HP c1
  generalize w.alloc (.cells #[.string k, .int .i64 6, .int .i64 i, .string t] 38) = w1 at *
  refine wp_region_held_drew (S := fun w' => w'.cell? ⟨w.heap.size, 2, none⟩ = some (.int .i64 i) ∧ w'.cell? ⟨w.heap.size, 3, none⟩ = some (.string t)) (by kernel_rfl) (K.out _ (below_drew (Below.refl _ _))) (fun hHeld => ?_)
  refine wpAnyH_take (i := 0) (oi := { dst := some 58, op := _, type := _, pos := _, after := _, guard := _ }) rfl (by kernel_rfl) (by kernel_rfl) (by kernel_rfl) (fun _ _ _ h => h) (Or.inl ⟨by rfl, by (intro w hSw; (try dsimp only at hSw); go_simp); first | done | (with_reducible rfl)⟩) (by assumption) ?_
  try simp only [Act.put, List.setIfInBounds_toArray, List.set_cons_zero, List.set_cons_succ]
  refine wpAnyH_take (i := 1) (oi := { dst := some 59, op := _, type := _, pos := _, after := _, guard := _ }) rfl (by kernel_rfl) (by kernel_rfl) (by kernel_rfl) (fun _ _ _ h => h) (Or.inl ⟨by rfl, by (intro w hSw; (try dsimp only at hSw); go_simp); first | done | (with_reducible rfl)⟩) (by assumption) ?_
  try simp only [Act.put, List.setIfInBounds_toArray, List.set_cons_zero, List.set_cons_succ]
  refine wpAnyH_take (i := 4) (oi := { dst := some 62, op := _, type := _, pos := _, after := _, guard := _ }) rfl (by kernel_rfl) (by kernel_rfl) (by kernel_rfl) (fun _ _ _ h => h) (Or.inl ⟨by rfl, by (intro w hSw; (try dsimp only at hSw); go_simp); first | done | (with_reducible rfl)⟩) (by assumption) ?_
  try simp only [Act.put, List.setIfInBounds_toArray, List.set_cons_zero, List.set_cons_succ]
  refine wpAnyH_take (i := 5) (oi := { dst := some 63, op := _, type := _, pos := _, after := _, guard := _ }) rfl (by kernel_rfl) (by kernel_rfl) (by kernel_rfl) (fun _ _ _ h => h) (Or.inl ⟨by rfl, by (intro w hSw; (try dsimp only at hSw); go_simp); first | done | (with_reducible rfl)⟩) (by assumption) ?_
  try simp only [Act.put, List.setIfInBounds_toArray, List.set_cons_zero, List.set_cons_succ]
  refine wpAnyH_take (i := 6) (oi := { dst := some 64, op := _, type := _, pos := _, after := _, guard := _ }) rfl (by kernel_rfl) (by kernel_rfl) (by kernel_rfl) (fun _ _ _ h => h) (Or.inl ⟨by rfl, by (intro w hSw; (try dsimp only at hSw); go_simp); first | done | (with_reducible rfl)⟩) (by assumption) ?_
  try simp only [Act.put, List.setIfInBounds_toArray, List.set_cons_zero, List.set_cons_succ]
  refine wpAnyH_ready (rs := [2]) (by kernel_rfl) (by simp) ?_
  refine AllReadyH.cons rfl (fun Kq hK => ?_) ?_
  · go_simp
    (go_at_call 23; ((with_reducible refine (hIt.out _ ?_).mono ?_); (first | exact HB.out | exact below_drew1 HB.out); rintro e w3 ⟨rfl, hb3⟩; have hb4 := below_then (below_drew (Below.refl w1.heap.size w1)) (Nat.le_refl _) hb3; clear hb3))
    refine hK.out _ _ (K.out _ (by assumption)) (fun hHeld2 => ?_)
    clear hK Kq
    try simp only [Act.put, List.setIfInBounds_toArray, List.set_cons_zero, List.set_cons_succ]
    refine wpAnyH_take (i := 3) (oi := { dst := some 61, op := _, type := _, pos := _, after := _, guard := _ }) rfl (by kernel_rfl) (by kernel_rfl) (by kernel_rfl) (fun _ _ _ h => h) (Or.inl ⟨by rfl, by (intro w hSw; (try dsimp only at hSw); go_simp); first | done | (with_reducible rfl)⟩) (by assumption) ?_
    try simp only [Act.put, List.setIfInBounds_toArray, List.set_cons_zero, List.set_cons_succ]
    refine wpAnyH_take (i := 7) (oi := { dst := some 65, op := _, type := _, pos := _, after := _, guard := _ }) rfl (by kernel_rfl) (by kernel_rfl) (by kernel_rfl) (fun _ _ _ h => h) (Or.inl ⟨by rfl, by (intro w hSw; (try dsimp only at hSw); go_simp); first | done | (with_reducible rfl)⟩) (by assumption) ?_
    try simp only [Act.put, List.setIfInBounds_toArray, List.set_cons_zero, List.set_cons_succ]
    refine wpAnyH_take (i := 8) (oi := { dst := some 66, op := _, type := _, pos := _, after := _, guard := _ }) (v := undef) rfl (by kernel_rfl) (by kernel_rfl) (by kernel_rfl) (fun _ _ _ h => h) (Or.inr ⟨by rfl, rfl⟩) (by assumption) ?_
    try simp only [Act.put, List.setIfInBounds_toArray, List.set_cons_zero, List.set_cons_succ]
    refine wpAnyH_take (i := 9) (oi := { dst := some 67, op := _, type := _, pos := _, after := _, guard := _ }) (v := undef) rfl (by kernel_rfl) (by kernel_rfl) (by kernel_rfl) (fun _ _ _ h => h) (Or.inr ⟨by rfl, rfl⟩) (by assumption) ?_
    try simp only [Act.put, List.setIfInBounds_toArray, List.set_cons_zero, List.set_cons_succ]
    refine wpAnyH_take (i := 10) (oi := { dst := some 68, op := _, type := _, pos := _, after := _, guard := _ }) (v := undef) rfl (by kernel_rfl) (by kernel_rfl) (by kernel_rfl) (fun _ _ _ h => h) (Or.inr ⟨by rfl, rfl⟩) (by assumption) ?_
    try simp only [Act.put, List.setIfInBounds_toArray, List.set_cons_zero, List.set_cons_succ]
    refine wpAnyH_take (i := 11) (oi := { dst := some 69, op := _, type := _, pos := _, after := _, guard := _ }) (v := undef) rfl (by kernel_rfl) (by kernel_rfl) (by kernel_rfl) (fun _ _ _ h => h) (Or.inr ⟨by rfl, rfl⟩) (by assumption) ?_
    try simp only [Act.put, List.setIfInBounds_toArray, List.set_cons_zero, List.set_cons_succ]
    refine wpAnyH_take (i := 12) (oi := { dst := some 70, op := _, type := _, pos := _, after := _, guard := _ }) rfl (by kernel_rfl) (by kernel_rfl) (by kernel_rfl) (fun _ _ _ h => h) (Or.inl ⟨by rfl, by (intro w hSw; (try dsimp only at hSw); go_simp); first | done | (with_reducible rfl)⟩) (by assumption) ?_
    try simp only [Act.put, List.setIfInBounds_toArray, List.set_cons_zero, List.set_cons_succ]
    refine wpAnyH_take (i := 13) (oi := { dst := some 2, op := _, type := _, pos := _, after := _, guard := _ }) rfl (by kernel_rfl) (by kernel_rfl) (by kernel_rfl) (fun _ _ _ h => h) (Or.inl ⟨by rfl, by (intro w hSw; (try dsimp only at hSw); go_simp); first | done | (with_reducible rfl)⟩) (by assumption) ?_
    try simp only [Act.put, List.setIfInBounds_toArray, List.set_cons_zero, List.set_cons_succ]
    refine wpAnyH_take (i := 14) (oi := { dst := some 3, op := _, type := _, pos := _, after := _, guard := _ }) rfl (by kernel_rfl) (by kernel_rfl) (by kernel_rfl) (fun _ _ _ h => h) (Or.inl ⟨by rfl, by (intro w hSw; (try dsimp only at hSw); go_simp); first | done | (with_reducible rfl)⟩) (by assumption) ?_
    try simp only [Act.put, List.setIfInBounds_toArray, List.set_cons_zero, List.set_cons_succ]
    refine wpAnyH_done (by kernel_rfl) ?_ _
    go_wp2
    go_ret2
    exact ⟨rfl, below_then HB.out HB.out.size hb4⟩
  · exact AllReadyH.nil
set_option maxHeartbeats 4000000 in
set_option maxRecDepth 100000 in
theorem value_tokN (k t : ByteArray) (i : Int) (w : World) (hi : -999999999999999 ≤ i ∧ i ≤ 999999999999999) (hn : ¬ i = 0) :
    Calls Tryd.prog 15 #[.agg #[.string k, .int .i64 4, .int .i64 i, .string t]] w fun e w' => e = .returned (.tuple #[.string t, .bool false]) ∧ Below w.heap.size w w' := by
  have hu38 := Tryd.underlying38
  have hP : PB (w.alloc (.cells #[.string k, .int .i64 4, .int .i64 i, .string t] 38)) w.heap.size k 4 i t := PB_new4 _ _ _ _ _
  have hB := below_alloc (Below.refl w.heap.size w) (.cells #[.string k, .int .i64 4, .int .i64 i, .string t] 38)
  have d1 : decide (i < -999999999999999) = false := decide_eq_false (by omega)
  have d2 : decide (999999999999999 < i) = false := decide_eq_false (by omega)
  have d3 : (i == 0) = false := by simp [hn]
  clear hi hn
  go_enter Tryd.func15, Tryd.ntmps15
  have c1 := hP.c1
  have c2 := hP.c2
  have c3 := hP.c3
  have HB := Aside0.mk hB
  have HP := Aside0.mk hP
  clear hP hB
  go_upto_region 29 with (fail)
  have hK : ∀ W', Below (w.alloc (.cells #[.string k, .int .i64 4, .int .i64 i, .string t] 38)).heap.size (w.alloc (.cells #[.string k, .int .i64 4, .int .i64 i, .string t] 38)) W' → W'.cell? ⟨w.heap.size, 2, none⟩ = some (.int .i64 i) ∧ W'.cell? ⟨w.heap.size, 3, none⟩ = some (.string t) := (PB_held HP.out).out
  have K := Aside0.mk hK
  clear hK HP c1
  generalize w.alloc (.cells #[.string k, .int .i64 4, .int .i64 i, .string t] 38) = w1 at *
  refine wp_region_held_drew (S := fun w' => w'.cell? ⟨w.heap.size, 2, none⟩ = some (.int .i64 i) ∧ w'.cell? ⟨w.heap.size, 3, none⟩ = some (.string t)) (by kernel_rfl) (K.out _ (below_drew (Below.refl _ _))) (fun hHeld => ?_)
  refine wpAnyH_take (i := 0) (oi := { dst := some 104, op := _, type := _, pos := _, after := _, guard := _ }) rfl (by kernel_rfl) (by kernel_rfl) (by kernel_rfl) (fun _ _ _ h => h) (Or.inl ⟨by rfl, by (intro w hSw; (try dsimp only at hSw); go_simp); first | done | (with_reducible rfl)⟩) (by assumption) ?_
  try simp only [Act.put, List.setIfInBounds_toArray, List.set_cons_zero, List.set_cons_succ]
  refine wpAnyH_take (i := 1) (oi := { dst := some 105, op := _, type := _, pos := _, after := _, guard := _ }) rfl (by kernel_rfl) (by kernel_rfl) (by kernel_rfl) (fun _ _ _ h => h) (Or.inl ⟨by rfl, by (intro w hSw; (try dsimp only at hSw); go_simp); first | done | (with_reducible rfl)⟩) (by assumption) ?_
  try simp only [Act.put, List.setIfInBounds_toArray, List.set_cons_zero, List.set_cons_succ]
  refine wpAnyH_take (i := 2) (oi := { dst := some 106, op := _, type := _, pos := _, after := _, guard := _ }) rfl (by kernel_rfl) (by kernel_rfl) (by kernel_rfl) (fun _ _ _ h => h) (Or.inl ⟨by rfl, by (intro w hSw; (try dsimp only at hSw); go_simp); first | done | (with_reducible rfl)⟩) (by assumption) ?_
  try simp only [Act.put, List.setIfInBounds_toArray, List.set_cons_zero, List.set_cons_succ]
  refine wpAnyH_take (i := 3) (oi := { dst := some 107, op := _, type := _, pos := _, after := _, guard := _ }) rfl (by kernel_rfl) (by kernel_rfl) (by kernel_rfl) (fun _ _ _ h => h) (Or.inl ⟨by rfl, by (intro w hSw; (try dsimp only at hSw); go_simp); first | done | (with_reducible rfl)⟩) (by assumption) ?_
  try simp only [Act.put, List.setIfInBounds_toArray, List.set_cons_zero, List.set_cons_succ]
  refine wpAnyH_take (i := 4) (oi := { dst := some 108, op := _, type := _, pos := _, after := _, guard := _ }) rfl (by kernel_rfl) (by kernel_rfl) (by kernel_rfl) (fun _ _ _ h => h) (Or.inl ⟨by rfl, by (intro w hSw; (try dsimp only at hSw); go_simp); first | done | (with_reducible rfl)⟩) (by assumption) ?_
  try simp only [Act.put, List.setIfInBounds_toArray, List.set_cons_zero, List.set_cons_succ]
  refine wpAnyH_take (i := 5) (oi := { dst := some 109, op := _, type := _, pos := _, after := _, guard := _ }) rfl (by kernel_rfl) (by kernel_rfl) (by kernel_rfl) (fun _ _ _ h => h) (Or.inl ⟨by rfl, by (intro w hSw; (try dsimp only at hSw); go_simp); first | done | (with_reducible rfl)⟩) (by assumption) ?_
  try simp only [Act.put, List.setIfInBounds_toArray, List.set_cons_zero, List.set_cons_succ]
  refine wpAnyH_take (i := 6) (oi := { dst := some 110, op := _, type := _, pos := _, after := _, guard := _ }) (v := undef) rfl (by kernel_rfl) (by kernel_rfl) (by kernel_rfl) (fun _ _ _ h => h) (Or.inr ⟨by rfl, rfl⟩) (by assumption) ?_
  try simp only [Act.put, List.setIfInBounds_toArray, List.set_cons_zero, List.set_cons_succ]
  refine wpAnyH_take (i := 7) (oi := { dst := some 111, op := _, type := _, pos := _, after := _, guard := _ }) (v := undef) rfl (by kernel_rfl) (by kernel_rfl) (by kernel_rfl) (fun _ _ _ h => h) (Or.inr ⟨by rfl, rfl⟩) (by assumption) ?_
  try simp only [Act.put, List.setIfInBounds_toArray, List.set_cons_zero, List.set_cons_succ]
  refine wpAnyH_take (i := 8) (oi := { dst := some 112, op := _, type := _, pos := _, after := _, guard := _ }) (v := undef) rfl (by kernel_rfl) (by kernel_rfl) (by kernel_rfl) (fun _ _ _ h => h) (Or.inr ⟨by rfl, rfl⟩) (by assumption) ?_
  try simp only [Act.put, List.setIfInBounds_toArray, List.set_cons_zero, List.set_cons_succ]
  refine wpAnyH_take (i := 9) (oi := { dst := some 113, op := _, type := _, pos := _, after := _, guard := _ }) rfl (by kernel_rfl) (by kernel_rfl) (by kernel_rfl) (fun _ _ _ h => h) (Or.inl ⟨by rfl, by (intro w hSw; (try dsimp only at hSw); go_simp); first | done | (with_reducible rfl)⟩) (by assumption) ?_
  try simp only [Act.put, List.setIfInBounds_toArray, List.set_cons_zero, List.set_cons_succ]
  refine wpAnyH_take (i := 10) (oi := { dst := some 2, op := _, type := _, pos := _, after := _, guard := _ }) rfl (by kernel_rfl) (by kernel_rfl) (by kernel_rfl) (fun _ _ _ h => h) (Or.inl ⟨by rfl, by (intro w hSw; (try dsimp only at hSw); go_simp); first | done | (with_reducible rfl)⟩) (by assumption) ?_
  try simp only [Act.put, List.setIfInBounds_toArray, List.set_cons_zero, List.set_cons_succ]
  refine wpAnyH_take (i := 11) (oi := { dst := some 3, op := _, type := _, pos := _, after := _, guard := _ }) rfl (by kernel_rfl) (by kernel_rfl) (by kernel_rfl) (fun _ _ _ h => h) (Or.inl ⟨by rfl, by (intro w hSw; (try dsimp only at hSw); go_simp); first | done | (with_reducible rfl)⟩) (by assumption) ?_
  try simp only [Act.put, List.setIfInBounds_toArray, List.set_cons_zero, List.set_cons_succ]
  refine wpAnyH_done (by kernel_rfl) ?_ _
  go_wp2
  go_ret2
  exact ⟨rfl, below_drew1 HB.out⟩
def sfitem_value.f (a0_0 : ByteArray) (a0_1 : Int) (a0_2 : Int) (a0_3 : ByteArray) : Option (ByteArray × Bool) :=
  if ¬ a0_3.size ≤ 2199023255540 then none
  else if a0_2 < -999999999999999 ∨ 999999999999999 < a0_2 then some (⟨#[]⟩, false)
  else if a0_1 = 1 then some (itoaBA a0_2, a0_3.toList.isEmpty)
  else if a0_1 = 2 then some (decB a0_2, a0_3.toList.isEmpty)
  else if a0_1 = 6 then (if (a0_3.toList == ([] : List UInt8)) = true then some ((⟨#[63]⟩ : ByteArray) ++ itoaBA a0_2, Go.bits .andNot .i64 a0_2 1 == 0) else some ((⟨#[63]⟩ : ByteArray) ++ itoaBA a0_2, false))
  else if a0_1 = 3 then some (textF a0_2 a0_3)
  else if a0_1 = 4 then (if a0_2 = 0 then (sfitem_whole.f a0_3 4).bind fun b => some (a0_3, b) else some (a0_3, false))
  else if a0_1 = 5 then (if a0_2 = 0 then (sfitem_whole.f (((⟨#[58]⟩ : ByteArray) ++ a0_3) ++ (⟨#[58]⟩ : ByteArray)) 5).bind fun b => some (((⟨#[58]⟩ : ByteArray) ++ a0_3) ++ (⟨#[58]⟩ : ByteArray), b) else some (((⟨#[58]⟩ : ByteArray) ++ a0_3) ++ (⟨#[58]⟩ : ByteArray), false))
  else some (⟨#[]⟩, false)
theorem sfitem_value.calls (a0_0 : ByteArray) (a0_1 : Int) (a0_2 : Int) (a0_3 : ByteArray) (r1 : ByteArray) (r2 : Bool) (w : World) (hT_ : Aside0 (TabW w)) (h : sfitem_value.f a0_0 a0_1 a0_2 a0_3 = some (r1, r2)) :
    Calls Tryd.prog 15 #[.agg #[.string a0_0, .int .i64 a0_1, .int .i64 a0_2, .string a0_3]] w fun e w' => e = .returned (.tuple #[.string r1, .bool r2]) ∧ Below w.heap.size w w' := by
  unfold sfitem_value.f at h
  by_cases hz : a0_3.size ≤ 2199023255540
  · rw [if_neg (fun h => h hz)] at h
    by_cases hr : a0_2 < -999999999999999 ∨ 999999999999999 < a0_2
    · rw [if_pos hr] at h
      obtain ⟨rfl, rfl⟩ := Prod.mk.inj (Option.some.inj h)
      by_cases h1 : a0_2 < -999999999999999
      · exact value_low a0_0 a0_3 a0_2 w a0_1 h1
      · exact value_high a0_0 a0_3 a0_2 w a0_1 h1 (hr.resolve_left h1)
    · rw [if_neg hr] at h
      have hi : -999999999999999 ≤ a0_2 ∧ a0_2 ≤ 999999999999999 := ⟨Int.not_lt.1 (fun h => hr (Or.inl h)), Int.not_lt.1 (fun h => hr (Or.inr h))⟩
      by_cases k1 : a0_1 = 1
      · subst k1
        rw [if_pos rfl] at h
        obtain ⟨rfl, rfl⟩ := Prod.mk.inj (Option.some.inj h)
        exact value_int a0_0 a0_3 a0_2 w hT_ hi
      · rw [if_neg k1] at h
        by_cases k2 : a0_1 = 2
        · subst k2
          rw [if_pos rfl] at h
          obtain ⟨rfl, rfl⟩ := Prod.mk.inj (Option.some.inj h)
          exact value_dec a0_0 a0_3 a0_2 w hT_ hi
        · rw [if_neg k2] at h
          by_cases k6 : a0_1 = 6
          · subst k6
            rw [if_pos rfl] at h
            by_cases he : (a0_3.toList == ([] : List UInt8)) = true
            · rw [if_pos he] at h
              obtain ⟨rfl, rfl⟩ := Prod.mk.inj (Option.some.inj h)
              exact value_boolE a0_0 a0_3 a0_2 w hT_ hi he
            · rw [if_neg he] at h
              obtain ⟨rfl, rfl⟩ := Prod.mk.inj (Option.some.inj h)
              exact value_boolN a0_0 a0_3 a0_2 w hT_ hi (Bool.eq_false_iff.mpr he)
          · rw [if_neg k6] at h
            by_cases k3 : a0_1 = 3
            · subst k3
              rw [if_pos rfl] at h
              have h := Option.some.inj h
              have e1 : (textF a0_2 a0_3).1 = r1 := by rw [h]
              have e2 : (textF a0_2 a0_3).2 = r2 := by rw [h]
              subst e1 e2
              exact value_text a0_0 a0_3 a0_2 w hi (by omega)
            · rw [if_neg k3] at h
              by_cases k4 : a0_1 = 4
              · subst k4
                rw [if_pos rfl] at h
                by_cases h0 : a0_2 = 0
                · subst h0
                  rw [if_pos rfl] at h
                  obtain ⟨b, hb, h⟩ := Option.bind_eq_some_iff.1 h
                  obtain ⟨rfl, rfl⟩ := Prod.mk.inj (Option.some.inj h)
                  exact value_token a0_0 a0_3 w b hb
                · rw [if_neg h0] at h
                  obtain ⟨rfl, rfl⟩ := Prod.mk.inj (Option.some.inj h)
                  exact value_tokN a0_0 a0_3 a0_2 w hi h0
              · rw [if_neg k4] at h
                by_cases k5 : a0_1 = 5
                · subst k5
                  rw [if_pos rfl] at h
                  by_cases h0 : a0_2 = 0
                  · subst h0
                    rw [if_pos rfl] at h
                    obtain ⟨b, hb, h⟩ := Option.bind_eq_some_iff.1 h
                    obtain ⟨rfl, rfl⟩ := Prod.mk.inj (Option.some.inj h)
                    exact value_bytesZ a0_0 a0_3 w b hz hb
                  · rw [if_neg h0] at h
                    obtain ⟨rfl, rfl⟩ := Prod.mk.inj (Option.some.inj h)
                    exact value_bytesN a0_0 a0_3 a0_2 w hi hz h0
                · rw [if_neg k5] at h
                  obtain ⟨rfl, rfl⟩ := Prod.mk.inj (Option.some.inj h)
                  exact value_none a0_0 a0_3 a0_2 w a0_1 hi ⟨k1, k2, k6, k3, k4, k5⟩
  · rw [if_pos hz] at h; cases h


/-! ### sfitem_Key: function 27 -/
open Go.Proofs.YtbbaokjkmcfceaaDoor.Sf
set_option maxRecDepth 100000 in
set_option maxHeartbeats 2000000 in
theorem key_catch_panicking (pe pk pr : Nat) (s1 s2 : ByteArray) (n : Int) (w : World) (he : w.heap[pe]? = some (.cells #[.int .i64 n] 27 (0, 0))) (hk : SB w pk s1) (hr : SB w pr s2) (h1 : pk ≠ pr) :
    CallsD Tryd.prog 50 #[.pointer (some ⟨pe, 0, none⟩), .pointer (some ⟨pk, 0, none⟩), .pointer (some ⟨pr, 0, none⟩)] (.panicking [thrown false]) w fun e u' w' =>
      e = .returned (.tuple #[]) ∧ u' = .panicking [thrown true] ∧ w' = ((w.setCell ⟨pe, 0, none⟩ (.int .i64 50)).setCell ⟨pk, 0, none⟩ (.string ⟨#[]⟩)).setCell ⟨pr, 0, none⟩ (.string ⟨#[]⟩) := by
  have hne1 : pe ≠ pk := blk_ne he hk (by decide)
  have hne2 : pe ≠ pr := blk_ne he hr (by decide)
  have hc0 : w.cell? ⟨pe, 0, none⟩ = some (.int .i64 n) := (blk_cell he 0).trans rfl
  have hf0 := blk_frozen he 0
  have hc1 := hk.cell
  have hf1 := blk_frozen hk 0
  have hc2 := hr.cell
  have hf2 := blk_frozen hr 0
  refine callsD_of_wpS Tryd.func50 rfl fun c₀ cs hu => ?_
  apply wpS_seq
  apply wpS_region
  simp [wpOpsS, go_sem, recoverD, hu, Tryd.ntmps50, Exit.thenS]
  refine (caught_some _).mono ?_
  rintro e w' ⟨rfl, rfl⟩
  simp [go_sem, hc0, hf0]
  refine wpS_of_wp ?_
  go_wp2
  simp [bodyPostS, results, Tryd.results50]
set_option maxRecDepth 100000 in
set_option maxHeartbeats 2000000 in
theorem key_catch_idle (pe pk pr : Nat) (n : Int) (w : World) (he : w.heap[pe]? = some (.cells #[.int .i64 n] 27 (0, 0))) :
    CallsD Tryd.prog 50 #[.pointer (some ⟨pe, 0, none⟩), .pointer (some ⟨pk, 0, none⟩), .pointer (some ⟨pr, 0, none⟩)] .returning w fun e u' w' =>
      e = .returned (.tuple #[]) ∧ u' = .returning ∧ w' = w.setCell ⟨pe, 0, none⟩ (.int .i64 0) := by
  have hc0 : w.cell? ⟨pe, 0, none⟩ = some (.int .i64 n) := (blk_cell he 0).trans rfl
  have hf0 := blk_frozen he 0
  refine callsD_of_wpS Tryd.func50 rfl fun c₀ cs hu => ?_
  apply wpS_seq
  apply wpS_region
  simp [wpOpsS, go_sem, recoverD, hu, Tryd.ntmps50, Exit.thenS]
  refine (caught_none _).mono ?_
  rintro e w' ⟨rfl, rfl⟩
  simp [go_sem, hc0, hf0]
  refine wpS_of_wp ?_
  go_wp2
  cases c₀
  simp_all [bodyPostS, results, Tryd.results50]
def keyF (s : ByteArray) : ByteArray × ByteArray × Int := match rdKey s with | some (k, t) => (k, t, 0) | none => (⟨#[]⟩, ⟨#[]⟩, 50)
/-- Key's four blocks. -/
structure K4 (w W : World) (s : ByteArray) : Prop where
  key : SB W w.heap.size ⟨#[]⟩
  rest : SB W (w.heap.size + 1) ⟨#[]⟩
  err : EB W (w.heap.size + 1 + 1) 0
  rd : Rd W (w.heap.size + 1 + 1 + 1) s
  below : Below w.heap.size w W
theorem K4.new (w : World) (s : ByteArray) : K4 w ((((w.alloc (.cells #[.string ⟨#[]⟩] 9)).alloc (.cells #[.string ⟨#[]⟩] 9)).alloc (.cells #[.int .i64 0] 27)).alloc (.cells #[.string s] 49)) s where
  key := blk_alloc (blk_alloc (blk_alloc (by have := blk_new w (.cells #[.string ⟨#[]⟩] 9); simpa using this) _) _) _
  rest := blk_alloc (blk_alloc (by have := blk_new (w.alloc (.cells #[.string ⟨#[]⟩] 9)) (.cells #[.string ⟨#[]⟩] 9); simpa using this) _) _
  err := blk_alloc (by have := blk_new ((w.alloc (.cells #[.string ⟨#[]⟩] 9)).alloc (.cells #[.string ⟨#[]⟩] 9)) (.cells #[.int .i64 0] 27); simpa using this) _
  rd := by have := blk_new (((w.alloc (.cells #[.string ⟨#[]⟩] 9)).alloc (.cells #[.string ⟨#[]⟩] 9)).alloc (.cells #[.int .i64 0] 27)) (.cells #[.string s] 49); simpa [Rd] using this
  below := ((((Below.refl _ _).alloc (Nat.le_refl _) _).alloc (by simp) _).alloc (by simp; omega) _).alloc (by simp; omega) _
set_option maxRecDepth 100000 in
set_option maxHeartbeats 4000000 in
theorem Key_calls (s : ByteArray) (w : World) (hs : s.size ≤ 2199023255552) :
    Calls Tryd.prog 27 #[.string s] w fun e w' => e = .returned (.tuple #[.string (keyF s).1, .string (keyF s).2.1, .int .i64 (keyF s).2.2]) ∧ Below w.heap.size w w' := by
  have hmf : ∀ (fn : Fn) (first cap : Array Value) (w : World), (Instr.makeFunc fn first cap).run Tryd.prog w = .ok (.func fn first cap) w := fun _ _ _ _ => rfl
  have h4 := Aside0.mk (K4.new w s)
  go_enter_defers Tryd.func27, Tryd.ntmps27
  go_upto_region 3 with (fail)
  generalize (((w.alloc (.cells #[.string ⟨#[]⟩] 9)).alloc (.cells #[.string ⟨#[]⟩] 9)).alloc (.cells #[.int .i64 0] 27)).alloc (.cells #[.string s] 49) = w3 at *
  have hKc := key_calls _ s w3 (by omega) h4.out.rd
  cases hN : rdKey s with
  | none =>
    have hF : keyF s = (⟨#[]⟩, ⟨#[]⟩, 50) := by unfold keyF; rw [hN]
    have HF := Aside0.mk hF
    rw [hN] at hKc
    have hKy := Aside0.mk hKc
    clear hKc hN hF
    go_wp2_with (first | (go_at_call 45; refine hKy.out.mono ?_; rintro e w4 ⟨rfl, hB4⟩))
    have hk4 : SB w4 w.heap.size ⟨#[]⟩ := hB4.blk h4.out.key (by omega)
    have hr4 : SB w4 (w.heap.size + 1) ⟨#[]⟩ := hB4.blk h4.out.rest (by omega)
    have he4 : EB w4 (w.heap.size + 1 + 1) 0 := hB4.blk h4.out.err (by omega)
    have hb4 := hB4.toBelow h4.out.below (by omega)
    clear hB4
    refine leaves_cons (f := 50) (args := #[.pointer (some ⟨w.heap.size + 1 + 1, 0, none⟩), .pointer (some ⟨w.heap.size, 0, none⟩), .pointer (some ⟨w.heap.size + 1, 0, none⟩)]) (by simp) (by simp [go_sem]) ?_
    refine (key_catch_panicking _ _ _ _ _ _ _ he4 hk4 hr4 (by omega)).mono ?_
    rintro e u' w'' ⟨rfl, rfl, rfl⟩
    have hk5 := ((hk4.far (p := ⟨w.heap.size + 1 + 1, 0, none⟩) (by simp only; omega) (.int .i64 50)).set ⟨#[]⟩).far (p := ⟨w.heap.size + 1, 0, none⟩) (by simp only; omega) (.string ⟨#[]⟩)
    have hr5 := ((hr4.far (p := ⟨w.heap.size + 1 + 1, 0, none⟩) (by simp only; omega) (.int .i64 50)).far (p := ⟨w.heap.size, 0, none⟩) (by simp only; omega) (.string ⟨#[]⟩)).set ⟨#[]⟩
    have he5 := ((he4.set 50).far (p := ⟨w.heap.size, 0, none⟩) (by simp only; omega) (.string ⟨#[]⟩)).far (p := ⟨w.heap.size + 1, 0, none⟩) (by simp only; omega) (.string ⟨#[]⟩)
    have hb5 := ((hb4.setCell (p := ⟨w.heap.size + 1 + 1, 0, none⟩) (by simp only; omega) (.int .i64 50)).setCell (p := ⟨w.heap.size, 0, none⟩) (by simp only; omega) (.string ⟨#[]⟩)).setCell (p := ⟨w.heap.size + 1, 0, none⟩) (by simp only; omega) (.string ⟨#[]⟩)
    have c1 := hk5.cell
    have c2 := hr5.cell
    have c3 := he5.cell
    generalize ((w4.setCell ⟨w.heap.size + 1 + 1, 0, none⟩ (.int .i64 50)).setCell ⟨w.heap.size, 0, none⟩ (.string ⟨#[]⟩)).setCell ⟨w.heap.size + 1, 0, none⟩ (.string ⟨#[]⟩) = w6 at *
    refine ⟨.tuple #[.string ⟨#[]⟩, .string ⟨#[]⟩, .int .i64 50], ?_, ?_⟩
    · simp [results, Tryd.results27, go_sem, c1, c2, c3]
    · rw [HF.out]; exact ⟨rfl, hb5⟩
  | some kr =>
    obtain ⟨k, t⟩ := kr
    have hF : keyF s = (k, t, 0) := by unfold keyF; rw [hN]
    have HF := Aside0.mk hF
    rw [hN] at hKc
    have hKy := Aside0.mk hKc
    clear hKc hN hF
    go_upto_region 4 with (first | (go_at_call 45; refine hKy.out.mono ?_; rintro e w4 ⟨⟨rfl, hR4⟩, hB4⟩; have hk4 : SB w4 w.heap.size ⟨#[]⟩ := hB4.blk h4.out.key (by omega); have hc4 := hk4.cell; have hf4 := blk_frozen hk4 0))
    have hr5 : SB (w4.setCell ⟨w.heap.size, 0, none⟩ (.string k)) (w.heap.size + 1) ⟨#[]⟩ := SB.far (hB4.blk h4.out.rest (by omega)) (p := ⟨w.heap.size, 0, none⟩) (by simp only; omega) _
    have he5 : EB (w4.setCell ⟨w.heap.size, 0, none⟩ (.string k)) (w.heap.size + 1 + 1) 0 := EB.far (hB4.blk h4.out.err (by omega)) (p := ⟨w.heap.size, 0, none⟩) (by simp only; omega) _
    have hk5 := hk4.set k
    have hR5 := hR4.far (p := ⟨w.heap.size, 0, none⟩) (by simp only; omega) (.string k)
    have hb5 := (hB4.toBelow h4.out.below (by omega)).setCell (p := ⟨w.heap.size, 0, none⟩) (by simp only; omega) (.string k)
    clear hR4 hB4 hk4 hc4 hf4 hKy
    generalize w4.setCell ⟨w.heap.size, 0, none⟩ (.string k) = w5 at *
    have c1 := hk5.cell
    have f1 := blk_frozen hk5 0
    have c2 := hr5.cell
    have f2 := blk_frozen hr5 0
    have c3 := he5.cell
    have f3 := blk_frozen he5 0
    have c4 := hR5.cell
    go_region
    have hk6 := ((hk5.set k).far (p := ⟨w.heap.size + 1, 0, none⟩) (by simp only; omega) (.string t)).far (p := ⟨w.heap.size + 1 + 1, 0, none⟩) (by simp only; omega) (.int .i64 0)
    have hr6 := ((hr5.far (p := ⟨w.heap.size, 0, none⟩) (by simp only; omega) (.string k)).set t).far (p := ⟨w.heap.size + 1 + 1, 0, none⟩) (by simp only; omega) (.int .i64 0)
    have he6 := ((he5.far (p := ⟨w.heap.size, 0, none⟩) (by simp only; omega) (.string k)).far (p := ⟨w.heap.size + 1, 0, none⟩) (by simp only; omega) (.string t)).set 0
    have hb6 := ((hb5.setCell (p := ⟨w.heap.size, 0, none⟩) (by simp only; omega) (.string k)).setCell (p := ⟨w.heap.size + 1, 0, none⟩) (by simp only; omega) (.string t)).setCell (p := ⟨w.heap.size + 1 + 1, 0, none⟩) (by simp only; omega) (.int .i64 0)
    generalize ((w5.setCell ⟨w.heap.size, 0, none⟩ (.string k)).setCell ⟨w.heap.size + 1, 0, none⟩ (.string t)).setCell ⟨w.heap.size + 1 + 1, 0, none⟩ (.int .i64 0) = w6 at *
    have hk7 : SB w6.drew w.heap.size k := hk6
    have hr7 : SB w6.drew (w.heap.size + 1) t := hr6
    have he7 : EB w6.drew (w.heap.size + 1 + 1) 0 := he6
    have hb7 : Below w.heap.size w w6.drew := below_drew1 hb6
    generalize w6.drew = w7 at *
    clear c1 f1 c2 f2 c3 f3 c4
    go_wp2
    refine leaves_cons (f := 50) (args := #[.pointer (some ⟨w.heap.size + 1 + 1, 0, none⟩), .pointer (some ⟨w.heap.size, 0, none⟩), .pointer (some ⟨w.heap.size + 1, 0, none⟩)]) (by simp) (by simp [go_sem]) ?_
    refine (key_catch_idle _ _ _ _ _ he7).mono ?_
    rintro e u' w'' ⟨rfl, rfl, rfl⟩
    have c1 := (hk7.far (p := ⟨w.heap.size + 1 + 1, 0, none⟩) (by simp only; omega) (.int .i64 0)).cell
    have c2 := (hr7.far (p := ⟨w.heap.size + 1 + 1, 0, none⟩) (by simp only; omega) (.int .i64 0)).cell
    have c3 := (he7.set 0).cell
    have hb8 := hb7.setCell (p := ⟨w.heap.size + 1 + 1, 0, none⟩) (by simp only; omega) (.int .i64 0)
    generalize w7.setCell ⟨w.heap.size + 1 + 1, 0, none⟩ (.int .i64 0) = w8 at *
    refine ⟨.tuple #[.string k, .string t, .int .i64 0], ?_, ?_⟩
    · simp [results, Tryd.results27, go_sem, c1, c2, c3]
    · rw [HF.out]; exact ⟨rfl, hb8⟩
def sfitem_Key.f (a0 : ByteArray) : Option (ByteArray × ByteArray × Int) := if a0.size ≤ 2199023255552 then some (keyF a0) else none
theorem sfitem_Key.calls (a0 : ByteArray) (r1 : ByteArray) (r2 : ByteArray) (r3 : Int) (w : World) (h : sfitem_Key.f a0 = some (r1, r2, r3)) :
    Calls Tryd.prog 27 #[.string a0] w fun e w' => e = .returned (.tuple #[.string r1, .string r2, .int .i64 r3]) ∧ Below w.heap.size w w' := by
  unfold sfitem_Key.f at h
  by_cases hs : a0.size ≤ 2199023255552
  · rw [if_pos hs] at h
    have h := Option.some.inj h
    refine (Key_calls a0 w hs).mono ?_
    rw [h]
    exact fun e w' h => h
  · rw [if_neg hs] at h; cases h


end Go.Proofs.YtbbaokjkmcfceaaDoor.Q
